/-
  Texts of the proof, put together without their remarks: Tcn, Tcs, Tcw, Lev, Lss, Av, Lsm, Rcl, Lsh.
-/
import Derived.Test.YtckhofdinldhpaaGreatE9
set_option linter.unusedSimpArgs false
set_option linter.unusedVariables false
set_option maxHeartbeats 8000000
set_option maxRecDepth 100000
namespace Go.Proofs.YtckhofdinldhpaaGreat
open Go Go.RowKit
theorem zol {W:World} {n0 b:Nat} {s0 x:SS} {es:List (List CH)} {pos:Nat} (h:Cu W n0 b s0 x es pos) {n:Nat} (hg:zmr n x) (hn:n<=1000) :
  Calls Tryz.prog 34 #[.pointer (some ⟨b,0,none⟩)] W (fun e W'=>Below W.heap.size W W'/\∃ v,e=.returned v/\OwnS W' W.heap.size x v):=by
 obtain⟨⟨f1,f2,f3,g1,g2,g3,A,c,hbx,hf,hx,hr,hc⟩,hnb⟩:=h;obtain⟨A1,c1,B1,d1,D1,e1,he1⟩:=hx.slices;injection he1 with he1;simp only[Array.mk.injEq,List.cons.injEq,and_true] at he1;obtain⟨rfl,rfl,rfl⟩:=he1;have ax:=zh hbx;have HX:=zh hx;have HG:=zh hg;have HN:=zh hn;have k4:=heap_alloc_new W (.cells #[.slice none 0 0,.slice none 0 0,.slice none 0 0] 26);have hb4:=zkd (Below.refl W.heap.size W) (.cells #[.slice none 0 0,.slice none 0 0,.slice none 0 0] 26);clear hbx hf hx hr hc hg hn;go_enter Tryz.func34,Tryz.ntmps34;go_upto_region 1 with fail;obtain⟨w4,hw4⟩:∃ x,W.alloc (.cells #[.slice none 0 0,.slice none 0 0,.slice none 0 0] 26)=x:=⟨_,rfl⟩
 rw[hw4] at k4 hb4;rw[hw4];have az:=zh hb4;have kR:=zh k4;have hb:=zkc ax.out hb4;have y0:w4.cell? ⟨b,3,none⟩=some (.slice A1 x.cells.length c1):=zc hb rfl;have y1:w4.cell? ⟨b,4,none⟩=some (.slice B1 x.tin.length d1):=zc hb rfl;have y2:w4.cell? ⟨b,5,none⟩=some (.slice D1 x.tout.length e1):=zc hb rfl;have aQ:=zh (znj x _ w4 ((HX.out.keep (S':=Any) (fun _ _ _=>trivial) fun _ _ _=>rfl).later hb4) (by rw[HG.out.n];have:=HN.out;omega));clear hw4 k4 hb4 hb;go_wp2_with fail;refine aQ.out.mono ?_;rintro e5 w5 ⟨v5,rfl,bY,hb5⟩;obtain⟨A5,c5,B5,d5,D5,e5,rfl⟩:=(bY.sv (HG.out.sm (by have:=HN.out;omega)).lim).slices;have mZ:=zh (zkc kR.out hb5);have cf:∀ o,w5.frozen? ⟨W.heap.size,o,none⟩=false:=fun o=>zf mZ.out;obtain⟨z0,z1,z2⟩:=zlp mZ.out;obtain⟨w9,aZ,hch,hh⟩:=set3 (.slice A5 x.cells.length c5) (.slice B5 x.tin.length d5) (.slice D5 x.tout.length e5) mZ.out;have aW:=zh hb5
 have fq:=zh bY;have bQ:=zh hch;have gH:=zh hh;have lM:=zh aZ;clear y0 y1 y2 aQ bY hb5 hch hh aZ;go_wp2_with fail;rw[lM.out];have t0:w9.cell? ⟨W.heap.size,0,none⟩=some (.slice A5 x.cells.length c5):=zc gH.out (by simp);have t1:w9.cell? ⟨W.heap.size,1,none⟩=some (.slice B5 x.tin.length d5):=zc gH.out (by simp);have t2:w9.cell? ⟨W.heap.size,2,none⟩=some (.slice D5 x.tout.length e5):=zc gH.out (by simp);have hbw:=zka az.out aW.out;refine bodyPost_ret (v:=.agg #[.slice A5 x.cells.length c5,.slice B5 x.tin.length d5,.slice D5 x.tout.length e5]) (by simp[results,Tryz.results34,go_sem,t0,t1,t2]) rfl ⟨hbw.trans (bQ.out.below hbw.size fun q e=>by have e:q=W.heap.size:=e;omega),_,rfl,?_⟩;exact(fq.out.chg bQ.out fun q e=>by have e:q=W.heap.size:=e;have:=zko kR.out;omega).lower az.out.size
theorem OwnS.chgV {W W':World} {n0 ba:Nat} {s:SS} {v:Value} {xs:Array Value} (h:OwnS W n0 s v) (hc:Chg (fun b=>b=ba) W W') (hz:W.heap[ba]?=some (.cells xs 26 (0,0))):OwnS W' n0 s v:=by
 obtain⟨vc,vi,vo,fc,e,hr,hi⟩:=h;refine⟨vc,vi,vo,fc,e,hr.chg hc fun i b hb h=>?_,hi⟩;subst h;obtain⟨-,h2⟩:=hr.row i;rcases h2 with⟨h2,-⟩|⟨g,cap,cur,hv,hgl,hg,-⟩
 ·rw[h2] at hb;simp[Value.ownBlock] at hb
 ·rw[hv] at hb;injection hb with hb;subst hb;rw[hz] at hg
  cases i with
  | all=>simp[zlN] at hg
  | el i =>
   by_cases hi:i<s.cells.length
   ·simp[zlN,hi] at hg
   ·simp only[zlN,hi,if_false,nilR] at hv
    cases hv
  | inp=>simp[zlN] at hg
  | out=>simp[zlN] at hg
theorem setC {W:World} {b:Nat} {a0 a1 a2 a3 a4 a5 a6 a7:Value} {ty:TypeId} (v3 v4 v5 v7:Value) (h:W.heap[b]?=some (.cells #[a0,a1,a2,a3,a4,a5,a6,a7] ty (0,0))) :
  ∃ W',(((W.setCell ⟨b,3,none⟩ v3).setCell ⟨b,4,none⟩ v4).setCell ⟨b,5,none⟩ v5).setCell ⟨b,7,none⟩ v7=W'/\Chg (fun q=>q=b) W W'/\W'.heap[b]?=some (.cells #[a0,a1,a2,v3,v4,v5,a6,v7] ty (0,0)):=by
 have hch:Chg (fun q=>q=b) W ((((W.setCell ⟨b,3,none⟩ v3).setCell ⟨b,4,none⟩ v4).setCell ⟨b,5,none⟩ v5).setCell ⟨b,7,none⟩ v7) :=
  ((((Chg.refl (fun q=>q=b) W).setCell (p:=⟨b,3,none⟩) (.inl rfl) _).setCell (p:=⟨b,4,none⟩) (.inl rfl) _).setCell (p:=⟨b,5,none⟩) (.inl rfl) _).setCell (p:=⟨b,7,none⟩) (.inl rfl) _
 have hh:=heap_setCell_same _ b 7 _ _ v7 (heap_setCell_same _ b 5 _ _ v5 (heap_setCell_same _ b 4 _ _ v4 (heap_setCell_same W b 3 _ _ v3 h)));exact⟨_,rfl,hch,by simpa using hh⟩
theorem zn8:IsFn Tryz.prog 26 Tryz.f26:=⟨Tryz.func26,by kernel_rfl,by kernel_rfl⟩
def zqu (x:SS) (es:List (List CH)) (pos:Nat):Bool×SS×Nat :=
 if pos<es.length/\(zkw x (es.getD pos [])).1=0 then (true,(zkw x (es.getD pos [])).2,pos+1) else (false,x,pos)
def zvc (W:World) (n0 b:Nat) (s0:SS) (es:List (List CH)) (R:Bool×SS×Nat) (e:Ending) (W':World):Prop :=
 e=.returned (.bool R.1)/\Chg (fun q=>q=b) W W'/\Cu W' n0 b s0 R.2.1 es R.2.2
theorem zso {W:World} {n0 b:Nat} {s0 x:SS} {es:List (List CH)} {pos:Nat} (h:Cu W n0 b s0 x es pos) {n:Nat} (hg:zmr n x) (hn:n<=1000) (hes:EvOk es) (hpos:pos<=es.length) :
  Calls Tryz.prog 37 #[.pointer (some ⟨b,0,none⟩)] W (zvc W n0 b s0 es (zqu x es pos)):=by
 have dQ:=zh h;obtain⟨⟨f1,f2,f3,g1,g2,g3,A,c,hbx,hf,hx,hr,hc⟩,hnb⟩:=h;obtain⟨Ax,cx,Bx,dx,Dx,ex,he1⟩:=hx.slices;injection he1 with he1;simp only[Array.mk.injEq,List.cons.injEq,and_true] at he1;obtain⟨rfl,rfl,rfl⟩:=he1;have y0:W.cell? ⟨b,3,none⟩=some (.slice Ax x.cells.length cx):=zc hbx rfl;have y1:W.cell? ⟨b,4,none⟩=some (.slice Bx x.tin.length dx):=zc hbx rfl;have y2:W.cell? ⟨b,5,none⟩=some (.slice Dx x.tout.length ex):=zc hbx rfl;have y6:W.cell? ⟨b,6,none⟩=some (.slice A es.length c):=zc hbx rfl;have y7:W.cell? ⟨b,7,none⟩=some (.int .i64 pos):=zc hbx rfl;have ax:=zh hbx;have HF:=zh hf;have HX:=zh hx;have HR:=zh hr;have HC:=zh hc;have HG:=zh hg;have HN:=zh hn;have dP:=zh hes;have HPO:=zh hpos;clear hbx hf hx hr hc hg hn hes hpos;by_cases hlt:pos<es.length;rotate_left 1
 ·have hge:(es.length:Int)<=(pos:Int):=by omega
  have hne:zqu x es pos=(false,x,pos):=if_neg fun h=>hlt h.1;rw[hne];clear hne hlt;go_enter Tryz.func37,Tryz.ntmps37;go_upto_region 1 with fail
  go_quiet (fail)
  have hb2:=zkN (Below.refl W.heap.size W) nq;obtain⟨w2,hw2⟩:∃ x,W.drewN nq=x:=⟨_,rfl⟩
  rw[hw2] at hb2;rw[hw2];have HB2:=zh hb2;clear hw2 hb2 y0 y1 y2 y6 y7;go_wp2_with fail;go_ret;exact⟨rfl,Chg.of_below HB2.out,dQ.out.later HB2.out⟩
 have hge:¬ (es.length:Int)<=(pos:Int):=by omega
 have hp0:(0:Int)<=(pos:Int):=by omega
 have hp1:(pos:Int)<(es.length:Int):=by omega
 have iC:IntKind.i64.wrap ((pos:Int)+1)=(pos:Int)+1:=IntWalk.i64_in _ (by have:=dP.out.1;omega);obtain⟨a,Aj,cj,rfl,has,hce,hcl,hrc⟩:=HR.out pos hlt;obtain⟨hci,fU⟩:=dP.out.2 _ (List.getElem_mem hlt);have hgd:es.getD pos []=es[pos]:=by rw[List.getD_eq_getElem?_getD,List.getElem?_eq_getElem hlt];rfl
 have hne:zqu x es pos=if (zkw x es[pos]).1=0 then (true,(zkw x es[pos]).2,pos+1) else (false,x,pos):=by
  unfold zqu;rw[hgd];by_cases h0:(zkw x es[pos]).1=0
  ·rw[if_pos h0,if_pos ⟨hlt,h0⟩]
  ·rw[if_neg h0,if_neg fun h=>h0 h.2]
 rw[hne];have fD:=fun(h0:(zkw x es[pos]).1=0)=>zlW (l:=es[pos]) HG.out hci h0;have fB:=zmY x es[pos];obtain⟨E,hE⟩:∃ E,es[pos]=E:=⟨_,rfl⟩
 rw[hE] at hce hcl hrc hci fU fD fB;rw[hE];have hblt:b<W.heap.size:=zko ax.out;have halt:a.block<W.heap.size:=by have:=World.block_lt_of_cell? W _ hce;rwa[zkn] at this
 have dE:=zh (fun w' (hb:Below W.heap.size W w')=>zmC x E _ Aj cj w' ((HX.out.keep (S':=Any) (fun _ _ _=>trivial) fun _ _ _=>rfl).later hb) (HG.out.sm (by have:=HN.out;omega)) ((hrc.keep (S':=Any) (fun _ _ _=>trivial) fun _ _ _=>rfl).later hb) hci fU);obtain⟨R1,jN⟩:∃ R1,zkw x E=R1:=⟨_,rfl⟩
 have HST:=zh jN;rw[jN] at fD fB;rw[jN];obtain⟨er,y⟩:=R1;simp only at fD fB;have hyl:y.Lim:=by
  by_cases h0:er=0
  ·exact((fD h0).sm (by have:=HN.out;omega)).lim
  ·rw[fB h0];exact⟨Nat.zero_le _,fun l hl=>(by cases hl),Nat.zero_le _,Nat.zero_le _⟩
 have rJ:=zh hyl;have su:=zh fD;have aY:=zh hlt;have HBLT:=zh hblt;clear hE hrc hci fU hcl jN fD fB hyl hlt hgd hne;go_enter Tryz.func37,Tryz.ntmps37;go_upto_region 1 with fail
 go_quiet (fail)
 have hb2:=zkN (Below.refl W.heap.size W) nq;obtain⟨w2,hw2⟩:∃ x,W.drewN nq=x:=⟨_,rfl⟩
 rw[hw2] at hb2;rw[hw2];have HB2:=zh hb2;have hz:w2.heap.size=W.heap.size:=by rw[<-hw2];simp
 replace y0:=zb hb2 y0
 replace y1:=zb hb2 y1
 replace y2:=zb hb2 y2
 replace y6:=zb hb2 y6
 replace y7:=zb hb2 y7
 replace hce:=zb hb2 hce
 clear hw2 hb2;go_upto_region 3 with fail;have hSS:(fun w':World=>w'.cell? ⟨b,3,none⟩=some (.slice Ax x.cells.length cx)/\w'.cell? ⟨b,4,none⟩=some (.slice Bx x.tin.length dx)/\w'.cell? ⟨b,5,none⟩=some (.slice Dx x.tout.length ex)/\w'.cell? ⟨b,6,none⟩=some (.slice (some a) es.length c)/\w'.cell? ⟨b,7,none⟩=some (.int .i64 pos)/\w'.cell? (a.add pos)=some (.slice Aj E.length cj)) w2.drew/\(fun _:World=>True) w2.drew:=⟨⟨y0,y1,y2,y6,y7,hce⟩,trivial⟩
 refine wp_region_noPanic ?_;refine zke (fun w':World=>w'.cell? ⟨b,3,none⟩=some (.slice Ax x.cells.length cx)/\w'.cell? ⟨b,4,none⟩=some (.slice Bx x.tin.length dx)/\w'.cell? ⟨b,5,none⟩=some (.slice Dx x.tout.length ex)/\w'.cell? ⟨b,6,none⟩=some (.slice (some a) es.length c)/\w'.cell? ⟨b,7,none⟩=some (.int .i64 pos)/\w'.cell? (a.add pos)=some (.slice Aj E.length cj)) (fun _:World=>True) 20 (by kernel_rfl) ?_;refine zT 0 hSS ?_;(try simp only[zQ]);refine zT 1 hSS ?_;(try simp only[zQ]);refine zT 2 hSS ?_;(try simp only[zQ]);refine zT 3 hSS ?_;(try simp only[zQ]);refine zT 4 hSS ?_;(try simp only[zQ]);refine zT 5 hSS ?_;(try simp only[zQ]);refine zT 6 hSS ?_;(try simp only[zQ]);refine zT 7 hSS ?_;(try simp only[zQ]);refine zT 8 hSS ?_;(try simp only[zQ]);refine zT 9 hSS ?_;(try simp only[zQ]);refine zT 10 hSS ?_;(try simp only[zQ]);refine zT 11 hSS ?_;(try simp only[zQ])
 refine zT 12 hSS ?_;(try simp only[zQ]);refine zT 13 hSS ?_;(try simp only[zQ]);have aB:=zh (show ∀ w',Below w2.heap.size w2 w'->(fun w':World=>w'.cell? ⟨b,3,none⟩=some (.slice Ax x.cells.length cx)/\w'.cell? ⟨b,4,none⟩=some (.slice Bx x.tin.length dx)/\w'.cell? ⟨b,5,none⟩=some (.slice Dx x.tout.length ex)/\w'.cell? ⟨b,6,none⟩=some (.slice (some a) es.length c)/\w'.cell? ⟨b,7,none⟩=some (.int .i64 pos)/\w'.cell? (a.add pos)=some (.slice Aj E.length cj)) w' from fun w' h=>⟨zb h y0,zb h y1,zb h y2,zb h y6,zb h y7,zb h hce⟩)
 replace dE:=zh (fun w' (hb:Below w2.heap.size w2 w')=>dE.out w' (zka HB2.out hb))
 clear hSS;refine zm7 (fun A f l a wx=>∃ (l5 l6 l7 l8 l9 l10:Bool) (v62 v56 v63 v64 v12:Value) (Ay By Dy:Option Addr) (cy dy ey bq:Nat),f=(!l5).toNat+(!l6).toNat+(!l7).toNat+(!l8).toNat+(!l9).toNat+(!l10).toNat+1/\l = #[true,true,true,true,true,true,true,true,true,true,true,true,true,true,l5,l6,l7,l8,l9,l10,false] /\
  a=((((A.put (some 34) v62).put (some 19) v56).put (some 35) v63).put (some 36) v64).put (some 3) v12/\Hid (Below w2.heap.size w2 wx)/\Hid ((l6=true->l5=true)/\(l7=true->l6=true)/\(l8=true->l6=true)/\(l10=true->l7=true/\l9=true)) /\
  Hid ((l5=true->v62=.tuple #[.agg #[.slice Ay y.cells.length cy,.slice By y.tin.length dy,.slice Dy y.tout.length ey],.int .i64 er])/\(l6=true->v56=.tuple #[.agg #[.slice Ay y.cells.length cy,.slice By y.tin.length dy,.slice Dy y.tout.length ey],.int .i64 er])/\(l7=true->v63=.agg #[.slice Ay y.cells.length cy,.slice By y.tin.length dy,.slice Dy y.tout.length ey])/\(l8=true->v64=.int .i64 er)/\(l9=true->v12=.pointer (some ⟨bq,0,none⟩)))/\Hid (l5=true->OwnS wx w2.heap.size y (.agg #[.slice Ay y.cells.length cy,.slice By y.tin.length dy,.slice Dy y.tout.length ey])) /\
  Hid (l9=true->w2.heap.size<=bq/\(l10=false->wx.heap[bq]?=some (.cells #[.slice none 0 0,.slice none 0 0,.slice none 0 0] 26 (0,0)))/\(l10=true->wx.heap[bq]?=some (.cells #[.slice Ay y.cells.length cy,.slice By y.tin.length dy,.slice Dy y.tout.length ey] 26 (0,0))))) (fun A f l a wx h=>?_) ?_
  ⟨false,false,false,false,false,false,undef,undef,undef,undef,undef,none,none,none,0,0,0,0,rfl,rfl,(by simp only[Act.put,zD,zE,zF]),zh (Below.refl _ _).drew,zh ⟨fun h=>(by cases h),fun h=>(by cases h),fun h=>(by cases h),fun h=>(by cases h)⟩,zh ⟨fun h=>(by cases h),fun h=>(by cases h),fun h=>(by cases h),fun h=>(by cases h),fun h=>(by cases h)⟩,zh fun h=>(by cases h),zh fun h=>(by cases h)⟩
 ·obtain⟨_,_,_,_,_,_,_,_,_,_,_,_,_,_,_,_,_,_,_,_,_,hb,_⟩:=h;exact⟨aB.out _ hb.out,trivial⟩
 rintro A' hA f l a wx ⟨l5,l6,l7,l8,l9,l10,v62,v56,v63,v64,v12,Ay,By,Dy,cy,dy,ey,bq,hf,rfl,ha,ae,HC,bJ,kP,ax⟩;by_cases hall:(l5&&l6&&l7&&l8&&l9&&l10)=true
 ·left
  simp only[Bool.and_eq_true] at hall;obtain⟨⟨⟨⟨⟨rfl,rfl⟩,rfl⟩,rfl⟩,rfl⟩,rfl⟩:=hall;obtain⟨g62,g56,g63,g64,g12⟩:=bJ.out;obtain rfl:=g62 rfl;obtain rfl:=g56 rfl;obtain rfl:=g63 rfl;obtain rfl:=g64 rfl;obtain rfl:=g12 rfl;subst hf ha hA;have HOY:=zh (kP.out rfl);obtain⟨hb1,-,hb3⟩:=ax.out rfl;have hbx:=hb3 rfl;have bE:=zh hbx;have qP:=zh hb1;clear g62 g56 g63 g64 g12 hb3 hbx hb1 ax kP bJ HC;refine zp 20 fun K hK=>?_;(try simp only[zQ]);go_simp;refine hK.out _ _ (aB.out _ ae.out) ?_;clear hK K;(try simp only[zQ]);refine zd ?_;refine NoPanic.normal ?_;have aR:=zh (zka HB2.out ae.out);have fI:=zh (zkc ax.out aR.out);have HOV:=zh ((HOY.out.svR rJ.out).keep (S':=Cb n0 b) (fun q h1 h2=>by have h1:w2.heap.size<=q:=h1;have:=HBLT.out;have:=hnb;exact⟨by omega,by omega⟩) fun _ _ _=>rfl);have hxk:=fI.out;obtain⟨z0,z1,z2⟩:=zlp bE.out;clear y0 y1 y2 y6 y7 hce;by_cases h0:er=0
  ·subst h0;rw[if_pos rfl];have y7:wx.cell? ⟨b,7,none⟩=some (.int .i64 pos):=zc hxk rfl;have x3:wx.cell? ⟨b,3,none⟩=some (.slice Ax x.cells.length cx):=zc hxk rfl;have x4:wx.cell? ⟨b,4,none⟩=some (.slice Bx x.tin.length dx):=zc hxk rfl;have x5:wx.cell? ⟨b,5,none⟩=some (.slice Dx x.tout.length ex):=zc hxk rfl;have cf:∀ o,wx.frozen? ⟨b,o,none⟩=false:=fun o=>zf hxk;obtain⟨w9,aZ,hch,hh⟩:=setC (.slice Ay y.cells.length cy) (.slice By y.tin.length dy) (.slice Dy y.tout.length ey) (.int .i64 ((pos:Int)+1)) hxk;have bQ:=zh hch;have gH:=zh hh;have lM:=zh aZ;clear hch hh aZ hxk su;go_wp2_with fail;rw[lM.out];go_ret;have HWB:=zh ((Chg.of_below (C:=fun q=>q=b) aR.out).trans2 bQ.out fun _ _ h=>h);have hkp:∀ q,Cb n0 b q->q<W.heap.size->w9.heap[q]?=W.heap[q]?:=fun q h1 h2=>HWB.out.block q h2 h1.2
   exact⟨rfl,HWB.out,⟨f1,f2,f3,_,_,_,_,_,gH.out,HF.out.keep (fun _ h _=>h) hkp,HOV.out.keep (fun _ h _=>h) fun q h1 h2=>bQ.out.block q h2 h1.2,HR.out.keep (fun _ h _=>h) hkp,HC.out⟩,hnb⟩
  ·rw[if_neg h0];have hne:(er==0)=false:=by simpa using h0
   have HERR:=zh h0;clear h0 hxk;go_wp2_with fail;go_ret;exact⟨rfl,Chg.of_below aR.out,dQ.out.later aR.out⟩
 ·right
  have au:=HC.out;refine⟨f-1,?_,?_,?_⟩
  ·clear HC au bJ kP ax ha ae;subst hf;revert hall;revert l5 l6 l7 l8 l9 l10
   decide
  ·clear HC bJ kP ax ha ae hf;revert hall au;revert l5 l6 l7 l8 l9 l10
   decide +kernel
  intro i hi;have hcase:(i=14/\l5=false)\/(i=15/\l6=false/\l5=true)\/(i=16/\l7=false/\l6=true)\/(i=17/\l8=false/\l6=true)\/(i=18/\l9=false)\/(i=19/\l10=false/\l7=true/\l9=true):=by
   refine of_decide_eq_true ((List.all_eq_true (p:=fun i=>decide ((i=14/\l5=false)\/(i=15/\l6=false/\l5=true)\/(i=16/\l7=false/\l6=true)\/(i=17/\l8=false/\l6=true)\/(i=18/\l9=false)\/(i=19/\l10=false/\l7=true/\l9=true)))).1 ?_ i hi);clear HC bJ kP ax ha ae hf hi;revert hall au;revert l5 l6 l7 l8 l9 l10
   decide +kernel
  clear hi hall;subst ha hA;rcases hcase with⟨rfl,rfl⟩|⟨rfl,rfl,rfl⟩|⟨rfl,rfl,rfl⟩|⟨rfl,rfl,rfl⟩|⟨rfl,rfl⟩|⟨rfl,rfl,rfl,rfl⟩
  ·refine wpOp_step rfl (fun K' aG=>?_);have hK:=zh aG;clear aG;obtain rfl:l6=false:=by
    rcases l6 with _|_
    ·rfl
    ·exact absurd (au.1 rfl) (by decide)
   obtain rfl:l7=false:=by
    rcases l7 with _|_
    ·rfl
    ·exact absurd (au.2.1 rfl) (by decide)
   obtain rfl:l8=false:=by
    rcases l8 with _|_
    ·rfl
    ·exact absurd (au.2.2.1 rfl) (by decide)
   obtain rfl:l10=false:=by
    rcases l10 with _|_
    ·rfl
    ·exact absurd (au.2.2.2 rfl).1 (by decide)
   have had:Calls Tryz.prog 26 [.agg #[.slice Ax x.cells.length cx,.slice Bx x.tin.length dx,.slice Dx x.tout.length ex],.slice Aj E.length cj].toArray wx fun e W'=>∃ u,e=.returned u/\(∃ (Ay By Dy:Option Addr) (cy dy ey:Nat),u=.tuple #[.agg #[.slice Ay y.cells.length cy,.slice By y.tin.length dy,.slice Dy y.tout.length ey],.int .i64 er]/\OwnS W' w2.heap.size y (.agg #[.slice Ay y.cells.length cy,.slice By y.tin.length dy,.slice Dy y.tout.length ey])/\Below wx.heap.size wx W') :=
    (dE.out wx ae.out).mono fun e W' ⟨v,h1,h2,h3⟩=>by
     rw[HST.out] at h1 h3;obtain⟨Ay,cy,By,dy,Dy,ey,rfl⟩:=h3.slices;exact⟨_,h1,Ay,By,Dy,cy,dy,ey,rfl,h3.mono ae.out.size,h2⟩
   refine zkg (by rfl) (.func 26) [.tmp 23,.tmp 33] _ (by rfl) 26 _ zn8 (by rfl) _ (by rfl) _ had ?_;rintro v w' ⟨Ay',By',Dy',cy',dy',ey',rfl,ho,hb⟩;exact hK.out _ _ ⟨true,false,false,false,l9,false,_,v56,v63,v64,v12,Ay',By',Dy',cy',dy',ey',bq,(by subst hf;simp only[Bool.not_false,Bool.not_true,Bool.toNat_true,Bool.toNat_false];omega),rfl,(by simp only[zQ]),zh (zka ae.out hb),zh ⟨fun h=>(by cases h),fun h=>(by cases h),fun h=>(by cases h),fun h=>(by cases h)⟩,zh ⟨fun _=>rfl,fun h=>(by cases h),fun h=>(by cases h),fun h=>(by cases h),bJ.out.2.2.2.2⟩,zh fun _=>ho,zh fun h9=>by
    obtain⟨g1,g2,-⟩:=ax.out h9;exact⟨g1,fun _=>zkc (g2 rfl) hb,fun h=>(by cases h)⟩⟩
  ·refine wpOp_step rfl (fun K' aG=>?_);have hK:=zh aG;clear aG;obtain rfl:=bJ.out.1 rfl;(try simp only[zQ]);go_simp;exact hK.out _ _ ⟨true,true,l7,l8,l9,l10,_,_,v63,v64,v12,Ay,By,Dy,cy,dy,ey,bq,(by subst hf;simp only[Bool.not_false,Bool.not_true,Bool.toNat_true,Bool.toNat_false];omega),rfl,(by simp only[Act.put,zD,zE,zF]),ae,zh ⟨fun _=>rfl,fun _=>rfl,fun _=>rfl,au.2.2.2⟩,zh ⟨fun _=>rfl,fun _=>rfl,bJ.out.2.2⟩,kP,ax⟩
  ·refine wpOp_step rfl (fun K' aG=>?_);have hK:=zh aG;clear aG;obtain rfl:=bJ.out.2.1 rfl;(try simp only[zQ]);go_simp;exact hK.out _ _ ⟨l5,true,true,l8,l9,l10,_,_,_,v64,v12,Ay,By,Dy,cy,dy,ey,bq,(by subst hf;simp only[Bool.not_false,Bool.not_true,Bool.toNat_true,Bool.toNat_false];omega),rfl,(by simp only[Act.put,zD,zE,zF]),ae,zh ⟨au.1,fun _=>rfl,fun _=>rfl,fun h=>⟨rfl,(au.2.2.2 h).2⟩⟩,zh ⟨bJ.out.1,fun _=>rfl,fun _=>rfl,bJ.out.2.2.2⟩,kP,ax⟩
  ·refine wpOp_step rfl (fun K' aG=>?_);have hK:=zh aG;clear aG;obtain rfl:=bJ.out.2.1 rfl;(try simp only[zQ]);go_simp;exact hK.out _ _ ⟨l5,true,l7,true,l9,l10,_,_,_,_,v12,Ay,By,Dy,cy,dy,ey,bq,(by subst hf;simp only[Bool.not_false,Bool.not_true,Bool.toNat_true,Bool.toNat_false];omega),rfl,(by simp only[Act.put,zD,zE,zF]),ae,zh ⟨au.1,fun _=>rfl,fun _=>rfl,au.2.2.2⟩,zh ⟨bJ.out.1,fun _=>rfl,bJ.out.2.2.1,fun _=>rfl,bJ.out.2.2.2.2⟩,kP,ax⟩
  ·refine wpOp_step rfl (fun K' aG=>?_);have hK:=zh aG;clear aG;obtain rfl:l10=false:=by
    rcases l10 with _|_
    ·rfl
    ·exact absurd (au.2.2.2 rfl).2 (by decide)
   (try simp only[zQ]);go_simp;exact hK.out _ _ ⟨l5,l6,l7,l8,true,false,v62,v56,v63,v64,_,Ay,By,Dy,cy,dy,ey,wx.heap.size,(by subst hf;simp only[Bool.not_false,Bool.not_true,Bool.toNat_true,Bool.toNat_false];omega),rfl,(by simp only[Act.put,zD,zE,zF]),zh (zkd ae.out _),zh ⟨au.1,au.2.1,au.2.2.1,fun h=>(by cases h)⟩,zh ⟨bJ.out.1,bJ.out.2.1,bJ.out.2.2.1,bJ.out.2.2.2.1,fun _=>rfl⟩,zh (fun h=>(kP.out h).later (zkd (Below.refl _ _) _)),zh fun _=>⟨ae.out.size,fun _=>heap_alloc_new wx _,fun h=>(by cases h)⟩⟩
  ·refine wpOp_step rfl (fun K' aG=>?_);have hK:=zh aG;clear aG;have h6:=au.2.1 rfl;have h5:=au.1 h6;subst h6 h5;obtain rfl:=bJ.out.2.2.1 rfl;obtain rfl:=bJ.out.2.2.2.2 rfl;have ho:=kP.out (Eq.refl true);have nY:=ax.out (Eq.refl true);have g1:=nY.1;have hbx:=nY.2.1 (Eq.refl false);clear nY;have q0:wx.cell? ⟨bq,0,none⟩=some (.slice none 0 0):=zc hbx rfl;have q1:wx.cell? ⟨bq,1,none⟩=some (.slice none 0 0):=zc hbx rfl;have q2:wx.cell? ⟨bq,2,none⟩=some (.slice none 0 0):=zc hbx rfl;have cf:∀ o,wx.frozen? ⟨bq,o,none⟩=false:=fun o=>zf hbx;(try simp only[zQ]);go_simp;have hch:Chg (fun q=>q=bq) wx (((wx.setCell ⟨bq,0,none⟩ (.slice Ay y.cells.length cy)).setCell ⟨bq,1,none⟩ (.slice By y.tin.length dy)).setCell ⟨bq,2,none⟩ (.slice Dy y.tout.length ey)) :=
    (((Chg.refl (fun q=>q=bq) wx).setCell (p:=⟨bq,0,none⟩) (.inl rfl) _).setCell (p:=⟨bq,1,none⟩) (.inl rfl) _).setCell (p:=⟨bq,2,none⟩) (.inl rfl) _
   have hh:=heap_setCell_same _ bq 2 _ _ (.slice Dy y.tout.length ey) (heap_setCell_same _ bq 1 _ _ (.slice By y.tin.length dy) (heap_setCell_same wx bq 0 _ _ (.slice Ay y.cells.length cy) hbx));have hoo:=ho.chgV hch hbx;exact hK.out _ _ ⟨true,true,true,l8,true,true,_,_,_,v64,_,Ay,By,Dy,cy,dy,ey,bq,(by subst hf;simp only[Bool.not_false,Bool.not_true,Bool.toNat_true,Bool.toNat_false];omega),rfl,(by simp only[Act.put,zD,zE,zF]),zh (ae.out.trans (hch.below ae.out.size fun q e=>by omega)),zh ⟨fun _=>rfl,fun _=>rfl,fun _=>rfl,fun _=>⟨rfl,rfl⟩⟩,bJ,zh (fun _=>hoo),zh fun _=>⟨g1,fun h=>(by cases h),fun _=>(by simpa using hh)⟩⟩
def cur (s0:SS) (es:List (List CH)) (k:Nat):SS:=(atE s0 (es.take k)).2
structure AllX (n:Nat) (s0:SS) (es:List (List CH)):Prop where
 ok:(atE s0 es).1=0
 g:zmr n s0
 n:n<=1000
 es:EvOk es
theorem AllX.at {n:Nat} {s0:SS} {es:List (List CH)} (h:AllX n s0 es) (k:Nat):(atE s0 (es.take k)).1=0:=by
 by_cases h0:(atE s0 (es.take k)).1=0
 ·exact h0
 ·have h2:=zoG s0 (es.take k) (es.drop k) h0;rw[List.take_append_drop] at h2;rw[<-h2];exact h.ok
theorem AllX.good {n:Nat} {s0:SS} {es:List (List CH)} (h:AllX n s0 es) (k:Nat):zmr n (cur s0 es k) :=
 zng s0 (es.take k) h.g (fun e he=>(h.es.2 e (List.mem_of_mem_take he)).1) (h.at k)
theorem AllX.step {n:Nat} {s0:SS} {es:List (List CH)} (h:AllX n s0 es) {k:Nat} (hk:k<es.length):zkw (cur s0 es k) es[k]=(0,cur s0 es (k+1)):=by
 have h1:=znf s0 (es.take k) es[k] (h.at k);rw[<-List.take_succ_eq_append_getElem hk] at h1;have h2:=h.at (k+1)
 change atE s0 (es.take (k+1))=(if (zkw (cur s0 es k) es[k]).1≠0 then _ else _) at h1;by_cases h0:(zkw (cur s0 es k) es[k]).1=0
 ·rw[if_neg (by simpa using h0)] at h1;have h3:cur s0 es (k+1)=(zkw (cur s0 es k) es[k]).2:=by unfold cur;rw[h1]
  rw[h3,<-h0]
 ·rw[if_pos h0] at h1;rw[h1] at h2;exact absurd h2 h0
theorem AllX.next {n:Nat} {s0:SS} {es:List (List CH)} (h:AllX n s0 es) {k:Nat} (hk:k<es.length):zqu (cur s0 es k) es k=(true,cur s0 es (k+1),k+1):=by
 have h2:es.getD k []=es[k]:=by rw[List.getD_eq_getElem?_getD,List.getElem?_eq_getElem hk];rfl
 unfold zqu;rw[h2,h.step hk];exact if_pos ⟨hk,rfl⟩
def zqb (w:World) (b:Nat):Nat:=match w.cell? ⟨b,7,none⟩ with
 | some v=>(intOf v).toNat
 | none=>0
theorem Cu.pos {W:World} {n0 b:Nat} {s0 x:SS} {es:List (List CH)} {pos:Nat} (h:Cu W n0 b s0 x es pos):W.cell? ⟨b,7,none⟩=some (.int .i64 pos)/\zqb W b=pos:=by
 obtain⟨⟨f1,f2,f3,g1,g2,g3,A,c,hbx,hf,hx,hr,hc⟩,hnb⟩:=h;have h7:W.cell? ⟨b,7,none⟩=some (.int .i64 pos):=zc hbx rfl;exact⟨h7,by unfold zqb;rw[h7];simp[intOf]⟩
def zvF (n0 b:Nat) (s0:SS) (es:List (List CH)):Prop :=
 ∀ (W:World) (pos:Nat),pos<es.length->Cu W n0 b s0 (cur s0 es (pos+1)) es (pos+1)->Calls Tryz.prog 38 #[.pointer (some ⟨b,0,none⟩)] W (zvc W n0 b s0 es (true,cur s0 es pos,pos))
theorem zsn {W:World} {n0 b:Nat} {s0:SS} {es:List (List CH)} {pos:Nat} (h:Cu W n0 b s0 (cur s0 es pos) es pos) {n:Nat} (ha:AllX n s0 es) (hpos:pos<=es.length) (to_:Nat) (hto:to_<=es.length) (hpv:to_<pos->zvF n0 b s0 es) :
  Calls Tryz.prog 35 #[.pointer (some ⟨b,0,none⟩),.int .i64 to_] W fun e W'=>e=.returned (.int .i64 0)/\Chg (fun q=>q=b) W W'/\Cu W' n0 b s0 (cur s0 es to_) es to_:=by
 have dQ:=zh h;have HA:=zh ha;have HPO:=zh hpos;have HTO:=zh hto;have HPV:=zh hpv;have h0:¬ (to_:Int)<0:=by omega
 have h1:¬ (es.length:Int)<(to_:Int):=by omega
 have y6:∃ A c,W.cell? ⟨b,6,none⟩=some (.slice A es.length c):=by
  obtain⟨⟨f1,f2,f3,g1,g2,g3,A,c,hbx,hf,hx,hr,hc⟩,hnb⟩:=h;exact⟨A,c,zc hbx rfl⟩
 obtain⟨A,c,y6⟩:=y6;clear h ha hpos hto hpv;go_enter Tryz.func35,Tryz.ntmps35;go_wp2_with fail
 go_loopw [] (fun wr=>∃ k:Nat,(pos<=k/\k<=to_\/k=pos)/\Hid (Chg (fun q=>q=b) W wr)/\Hid (Cu wr n0 b s0 (cur s0 es k) es k)) (fun wr=>to_-zqb wr b)
 case atStart=>exact⟨pos,.inr rfl,zh (Chg.refl _ _),dQ⟩
 case round =>
  obtain⟨k,hk,aJ,bf⟩:=hrel;obtain⟨y7,hm⟩:=bf.out.pos;have hkl:k<=es.length:=by have:=HPO.out;have:=HTO.out;omega
  by_cases hlt:k<to_
  ·have h2:(k:Int)<(to_:Int):=by omega
   have hnx:=zso bf.out (HA.out.good k) HA.out.n HA.out.es hkl;rw[HA.out.next (show k<es.length by have:=HTO.out;omega)] at hnx;have tY:=zh hnx;have HK:=zh (show pos<=k by omega);have aY:=zh hlt;have HM:=zh hm;clear hk hkl hnx hlt hm;go_wp2_with fail;refine tY.out.mono ?_;rintro e7 w7 ⟨rfl,jE,jB⟩;have pW:=zh jE;have kg:=zh jB;clear jE jB y7;go_wp2_with fail;exact⟨⟨k+1,.inl ⟨by have:=HK.out;omega,by have:=aY.out;omega⟩,zh (aJ.out.trans2 pW.out fun _ _ h=>h),kg⟩,by have h9:=kg.out.pos.2;have:=aY.out;have:=HM.out;omega⟩
  ·have h2:¬ (k:Int)<(to_:Int):=by omega
   go_wp2_with fail
   go_loopw [] (fun w2=>∃ k:Nat,to_<=k/\(k=to_\/to_<pos)/\k<=es.length/\Hid (Chg (fun q=>q=b) W w2)/\Hid (Cu w2 n0 b s0 (cur s0 es k) es k)) (fun w2=>zqb w2 b-to_)
   case atStart=>exact⟨k,by omega,by omega,hkl,aJ,bf⟩
   case round =>
    clear bf aJ y7 hm hk hkl hlt h2;obtain⟨k,hk1,hk2,hkl,aJ,bf⟩:=hrel;obtain⟨y7,hm⟩:=bf.out.pos;by_cases hlt:to_<k
    ·have h2:(to_:Int)<(k:Int):=by omega
     obtain⟨k,rfl⟩:∃ m,k=m+1:=⟨k-1,by omega⟩
     have jV:=zh (HPV.out (by omega) _ k (by omega) bf.out);have aY:=zh (show to_<=k/\to_<pos/\k<=es.length by omega);have HM:=zh hm;clear hk1 hk2 hkl hlt hm;go_wp2_with fail;refine jV.out.mono ?_;rintro e7 w7 ⟨rfl,jE,jB⟩;have pW:=zh jE;have kg:=zh jB;clear jE jB y7;go_wp2_with fail;exact⟨⟨k,aY.out.1,.inr aY.out.2.1,aY.out.2.2,zh (aJ.out.trans2 pW.out fun _ _ h=>h),kg⟩,by have h9:=kg.out.pos.2;have:=aY.out;have:=HM.out;omega⟩
    ·obtain rfl:k=to_:=by omega
     have h2:¬ (k:Int)<(k:Int):=by omega
     have HCK2:=zh bf.out;go_wp2_with fail;go_ret;exact⟨rfl,aJ.out,bf.out⟩
theorem RowC.news {w:World} {S:Nat->Prop} {a:Addr} {l:List CH} (h:RowC w S (some a) l):(∀ (j:Nat) u,(zk3 l)[j]?=some u->w.cell? (a.add j)=some u)/\∀ u∈zk3 l,u.oneCell'=true:=by
 refine⟨fun j u hj=>?_,fun u hu=>?_⟩
 ·have hlt:j<(zk3 l).length:=(List.getElem?_eq_some_iff.1 hj).1;rw[znD] at hlt;have hi:j / 4<l.length:=by omega
  obtain⟨a',e,_,h0,h1,h2,h3⟩:=h (j / 4) hi;injection e with e;subst e;have hg:=zmK l (j / 4) (j % 4) hi (by omega);rw[show j / 4*4+j % 4=j by omega,hj] at hg;rw[show a.add j=(a.add (j / 4*4)).add (j % 4) by rw[Addr.add_add,show j / 4*4+j % 4=j by omega]];have h4:j % 4<4:=Nat.mod_lt _ (by decide);rcases hm:j % 4 with _|_|_|_|m
  ·rw[hm] at hg;simp[CH.nums] at hg;subst hg;rw[Addr.add_zero'];exact h0
  ·rw[hm] at hg;simp[CH.nums] at hg;subst hg;exact h1
  ·rw[hm] at hg;simp[CH.nums] at hg;subst hg;exact h2
  ·rw[hm] at hg;simp[CH.nums] at hg;subst hg;exact h3
  ·omega
 ·simp only[zk3,List.mem_flatMap] at hu;obtain⟨c,-,hu⟩:=hu;simp[CH.nums] at hu;rcases hu with rfl|rfl|rfl|rfl<;>rfl
theorem zrT (w:World):(Instr.buildSlice 55 0 #[]).run Tryz.prog w=.ok (.slice (some ⟨w.heap.size,0,none⟩) 0 0) (w.alloc (.cells #[] 64)):=by kernel_rfl
theorem zu1 (a:Addr) (l c:Nat) (w:World):(binOp BinOp.eql 55 (.slice (some a) l c) (.slice none 0 0)).run Tryz.prog w=.ok (.bool false) w:=by kernel_rfl
theorem zun (l c:Nat) (w:World):(binOp BinOp.eql 55 (.slice none l c) (.slice none 0 0)).run Tryz.prog w=.ok (.bool true) w:=by kernel_rfl
theorem zq0 (xs:List CH) (A:Option Addr) (c:Nat) (S:Nat->Prop) (w:World) (hrow:RowC w S A xs) (hI:∀ x∈xs,x.I) (hl:xs.length<=1000000):Calls Tryz.prog 80 #[.slice A xs.length c] w fun e w'=>∃ v,e=.returned v/\DiR w.heap.size w' v xs/\Below w.heap.size w w':=by
 obtain⟨i0,hi0,hz0,hz1,hz2⟩:=info_parts zo6;rcases A with _|a
 ·have h0:xs=[]:=by
   cases xs with
   | nil=>rfl
   | cons v vs=>obtain⟨_,h,_⟩:=hrow 0 (by simp);cases h
  subst h0;have he:=zun;clear hrow hl;go_enter Tryz.func80,Tryz.ntmps80;go_wp2_with fail;go_ret;exact⟨_,rfl,DiR.nil _ _,Below.refl _ _⟩
 ·obtain⟨hnc,hn1⟩:=(hrow.later ((Below.refl w.heap.size w).alloc (Nat.le_refl _) (.cells #[] 64))).news;have HF:=zh hI;have hown:(w.alloc (.cells #[] 64)).ownsRow w.heap.size 64 4 (.slice (some ⟨w.heap.size,0,none⟩) 0 0) 0 [] :=
   ⟨rfl,.inr ⟨w.heap.size,0,#[],rfl,Nat.le_refl _,heap_alloc_new w _,Nat.le_refl _,Nat.zero_le _,rfl,rfl⟩⟩
  have hnl:(zk3 xs).length=xs.length*4:=znD xs;have hm1:0+xs.length<=maxLen:=by unfold maxLen;omega
  have hm2:(0+xs.length)*32<=140737488355328:=by omega
  have hb0:=zrT;have he:=zu1;obtain⟨news,hnews⟩:∃ news,zk3 xs=news:=⟨_,rfl⟩
  rw[hnews] at hnc hn1 hnl;have iM:=zh hnews;clear hrow hl hnews hI;go_enter Tryz.func80,Tryz.ntmps80;go_wp2_with (at_builtin;refine wpList_append_own_at (P:=Tryz.prog) _ rfl (.tmp 5) (.tmp 6) 55 rfl w.heap.size 64 i0 _ 4 32 Tryz.underlying55 hi0 hz0 hz1 hz2 rfl (by decide) (.slice (some ⟨w.heap.size,0,none⟩) 0 0) 0 [] rfl hown a xs.length c news rfl hnl hnc hn1 hm1 hm2 (by simp) ?_;intro v' w' h2 h3 h4 h5)
  have hbl:Below w.heap.size w w':=((Below.refl w.heap.size w).alloc (Nat.le_refl _) _).grown h3 (by simp) (fun g e=>by simp[Value.ownBlock] at e;omega);have h2':DiR w.heap.size w' v' xs:=by
   have:=h2;rw[Nat.zero_add,List.nil_append,<-iM.out] at this;exact⟨this,HF.out⟩
  have HO:=zh h2';have HB:=zh hbl;obtain⟨A',c',rfl,-⟩:=zkb h2'.1;clear h2 h2' h3 h4 h5 hbl hnc hn1 hown;go_wp2_with fail;go_ret;exact⟨_,by simp,HO.out,HB.out⟩
structure CB (W:World) (n0 b:Nat) (s:SS) (f1 f2 f3 g1 g2 g3 ev:Value) (es:List (List CH)):Prop where
 nb:n0<=b
 box:W.heap[b]?=some (.cells #[f1,f2,f3,g1,g2,g3,ev,.int .i64 0] 140 (0,0))
 f:SV W (fun q=>n0<=q/\q≠b/\ev.ownBlock≠some q) s (.agg #[f1,f2,f3])
 g:SV W (fun q=>n0<=q/\q≠b/\ev.ownBlock≠some q) s (.agg #[g1,g2,g3])
 ev:EvR W n0 (Cb n0 b) ev es
theorem CB.step {W W4 W5 W7:World} {n0 b m:Nat} {s:SS} {f1 f2 f3 g1 g2 g3 ev ev' dv:Value} {es:List (List CH)} {e:List CH} {xs:List Value} (h:CB W n0 b s f1 f2 f3 g1 g2 g3 ev es)
  (q3:∀ i (hi:i<es.length),∃ A c,xs[i]?=some (.slice A es[i].length c)/\es[i].length<=c/\RowC W (fun q=>Cb n0 b q/\ev.ownBlock≠some q) A es[i]) (q1:W.ownsRow n0 55 1 ev es.length xs)
  (hb4:Below W.heap.size W W4) (hd:DiR m W4 dv e) (hm:W.heap.size<=m)
  (ho:W5.ownsRow n0 55 1 ev' (es.length+1) (xs++[dv])) (hg:W4.grownBy W5 ev.ownBlock) (ak:ev'.ownBlock=ev.ownBlock\/ev'.ownBlock=some W4.heap.size)
  (iH:Chg (fun q=>q=b) W5 W7) (gQ:W7.heap[b]?=some (.cells #[f1,f2,f3,g1,g2,g3,ev',.int .i64 0] 140 (0,0))):CB W7 n0 b s f1 f2 f3 g1 g2 g3 ev' (es++[e]):=by
 obtain⟨hnb,hbx,hf,hg',hev⟩:=h;have hblt:=zko hbx;have hs4:=hb4.size;have hs5:=hg.size;have hs7:=iH.size;have nS:∀ q,ev.ownBlock=some q->Cb n0 b q/\q<W.heap.size:=fun q hq=>by
  obtain⟨xs',h1,h2,-⟩:=hev;exact⟨h2 q hq,(h1.lt q hq).2⟩
 have hkeep:∀ q,q<W4.heap.size->ev.ownBlock≠some q->q≠b->W7.heap[q]?=W4.heap[q]?:=fun q h0 h1 h2=>(iH.block q (Nat.lt_of_lt_of_le h0 hs5) h2).trans (hg.block q h0 (fun e=>h1 e.symm));have hkW:∀ q,q<W.heap.size->ev.ownBlock≠some q->q≠b->W7.heap[q]?=W.heap[q]?:=fun q h0 h1 h2=>(hkeep q (Nat.lt_of_lt_of_le h0 hs4) h1 h2).trans (hb4.block q h0);have hne:∀ q,q<W4.heap.size->ev.ownBlock≠some q->ev'.ownBlock≠some q:=fun q hq h1 e=>by
  rcases ak with e1|e1
  ·exact h1 (e1▸e)
  ·rw[e1] at e;injection e with e;omega
 have hS:∀ q,(n0<=q/\q≠b/\ev.ownBlock≠some q)->q<W.heap.size->n0<=q/\q≠b/\ev'.ownBlock≠some q:=fun q hq hlt=>⟨hq.1,hq.2.1,hne q (by omega) hq.2.2⟩
 have hn0:n0<=W.heap.size:=by omega
 refine⟨hnb,gQ,hf.keep hS fun q hq hlt=>hkW q hlt hq.2.2 hq.2.1,hg'.keep hS fun q hq hlt=>hkW q hlt hq.2.2 hq.2.1,xs++[dv],?_,fun q hq=>?_,fun i hi=>?_⟩
 ·rw[List.length_append];refine zlo ho fun q hq=>iH.block q (ho.lt q hq).2 fun e=>?_;have e:q=b:=e;rcases ak with e1|e1
  ·exact(nS q (e1▸hq)).1.2 e
  ·rw[e1] at hq;injection hq with hq;omega
 ·rcases ak with e1|e1
  ·exact(nS q (e1▸hq)).1
  ·rw[e1] at hq;injection hq with hq;exact⟨by omega,by omega⟩
 ·rw[List.length_append] at hi;by_cases hi2:i<es.length
  ·obtain⟨A,c,r1,r2,r3⟩:=q3 i hi2;rw[List.getElem_append_left hi2];refine⟨A,c,?_,r2,r3.keep (fun q hq hlt=>⟨hq.1,hne q (by omega) hq.2⟩) fun q hq hlt=>hkW q hlt hq.2 hq.1.2⟩;rw[List.getElem?_append_left (by have:=(List.getElem?_eq_some_iff.1 r1).1;exact this)];exact r1
  ·obtain rfl:i=es.length:=by simp at hi;omega
   obtain⟨A,c,rfl,r2,r3⟩:=hd.rowC;have hxl:xs.length=es.length:=by have:=q1.1;simpa using this
   rw[List.getElem_append_right (Nat.le_refl _)];simp only[Nat.sub_self,List.getElem_cons_zero];have iF:∀ q,m<=q->ev.ownBlock≠some q:=fun q hq e=>by have:=(nS q e).2;omega
   exact⟨A,c,by rw[List.getElem?_append_right (by omega),hxl,Nat.sub_self];rfl,r2,r3.keep (fun q hq hlt=>⟨⟨by have:=hq.1;omega,by have:=hq.1;omega⟩,hne q hq.2 (iF q hq.1)⟩) fun q hq hlt=>hkeep q hlt (iF q hq.1) (by have:=hq.1;omega)⟩
theorem CB.cu {W:World} {n0 b:Nat} {s:SS} {f1 f2 f3 g1 g2 g3 ev:Value} {es:List (List CH)} (h:CB W n0 b s f1 f2 f3 g1 g2 g3 ev es):Cu W n0 b s s es 0:=by
 obtain⟨hnb,hbx,hf,hg,hev⟩:=h;obtain⟨xs,h1,h2,h3⟩:=hev;obtain⟨A,c,rfl,hc,-⟩:=zkb h1;refine⟨⟨f1,f2,f3,g1,g2,g3,A,c,hbx,hf.keep (fun q hq _=>⟨hq.1,hq.2.1⟩) fun _ _ _=>rfl,hg.keep (fun q hq _=>⟨hq.1,hq.2.1⟩) fun _ _ _=>rfl,fun i hi=>?_,hc⟩,hnb⟩;rcases h1.2 with⟨e1,e2⟩|⟨g,cap,cur,e,hb,hg2,-⟩
 ·omega
 ·injection e with e;subst e;obtain⟨A,c',r1,r2,r3⟩:=h3 i hi;refine⟨_,A,c',rfl,h2 g rfl,?_,r2,r3.keep (fun q hq _=>hq.1) fun _ _ _=>rfl⟩;have:=h1.cellAt i (by omega);rw[Addr.add_lit,Nat.zero_add];rw[this];exact r1
theorem bCur (a0 a1 a2 b0 b1 b2:Value) (w:World):(Instr.build 140 #[(0,.agg #[a0,a1,a2]),(1,.agg #[b0,b1,b2])]).run Tryz.prog w=.ok (.agg #[a0,a1,a2,b0,b1,b2,.slice none 0 0,.int .i64 0]) w:=by kernel_rfl
theorem zn7:IsFn Tryz.prog 79 Tryz.f79:=⟨Tryz.func79,by kernel_rfl,by kernel_rfl⟩
theorem zs2:IsFn Tryz.prog 80 Tryz.f80:=⟨Tryz.func80,by kernel_rfl,by kernel_rfl⟩
def zvH (W:World) (s:SS) (es:List (List CH)) (e:Ending) (W':World):Prop :=
 Below W.heap.size W W'/\(((atE s es).1=0/\∃ b,e=.returned (.tuple #[.pointer (some ⟨b,0,none⟩),.int .i64 0])/\Cu W' W.heap.size b s s es 0)\/((atE s es).1≠0/\e=.returned (.tuple #[.pointer none,.int .i64 (atE s es).1])))
theorem ztB {W:World} {s:SS} {es:List (List CH)} {v:Value} {A:Option Addr} {c:Nat} (hs:SV W Any s v) (he:RowE W Any A es) {n:Nat} (hg:zmr n s) (hn:n<=1000) (hes:EvOk es) (hel:∀ e∈es,e.length<=1000000) :
  Calls Tryz.prog 33 #[v,.slice A es.length c] W (zvH W s es):=by
 obtain⟨A1,c1,B1,d1,D1,e1,rfl⟩:=hs.slices;have HS:=zh hs;have HE:=zh he;have HG:=zh hg;have HN:=zh hn;have dP:=zh hes;have kS:=zh hel;have k1:=heap_alloc_new W (.cells #[.slice A1 s.cells.length c1,.slice B1 s.tin.length d1,.slice D1 s.tout.length e1] 26);have hb1:=zkd (Below.refl W.heap.size W) (.cells #[.slice A1 s.cells.length c1,.slice B1 s.tin.length d1,.slice D1 s.tout.length e1] 26);have hbc:=bCur;clear hs he hg hn hes hel;go_enter Tryz.func33,Tryz.ntmps33;go_upto_region 1 with fail;obtain⟨w1,hw1⟩:∃ x,W.alloc (.cells #[.slice A1 s.cells.length c1,.slice B1 s.tin.length d1,.slice D1 s.tout.length e1] 26)=x:=⟨_,rfl⟩
 obtain⟨xb,hxb⟩:∃ x,W.heap.size=x:=⟨_,rfl⟩
 rw[hw1] at k1 hb1;rw[hw1];have HB1:=zh hb1;have HXB:=zh hxb;rw[hxb] at k1;rw[hxb];have aN:=zh k1;obtain⟨z0,z1,z2⟩:=zlp k1;clear hw1 hxb k1 hb1;have hSS:(fun w':World=>w'.cell? ⟨xb,0,none⟩=some (.slice A1 s.cells.length c1)/\w'.cell? ⟨xb,1,none⟩=some (.slice B1 s.tin.length d1)/\w'.cell? ⟨xb,2,none⟩=some (.slice D1 s.tout.length e1)) w1.drew/\(fun _:World=>True) w1.drew:=⟨⟨z0,z1,z2⟩,trivial⟩
 refine wp_region_noPanic ?_;refine zke (fun w':World=>w'.cell? ⟨xb,0,none⟩=some (.slice A1 s.cells.length c1)/\w'.cell? ⟨xb,1,none⟩=some (.slice B1 s.tin.length d1)/\w'.cell? ⟨xb,2,none⟩=some (.slice D1 s.tout.length e1)) (fun _:World=>True) 6 (by kernel_rfl) ?_;refine zT 0 hSS ?_;(try simp only[zQ]);refine zT 2 hSS ?_;(try simp only[zQ]);have aB:=zh (show ∀ w',Below w1.heap.size w1 w'->(fun w':World=>w'.cell? ⟨xb,0,none⟩=some (.slice A1 s.cells.length c1)/\w'.cell? ⟨xb,1,none⟩=some (.slice B1 s.tin.length d1)/\w'.cell? ⟨xb,2,none⟩=some (.slice D1 s.tout.length e1)) w' from fun w' h=>⟨zb h z0,zb h z1,zb h z2⟩);clear hSS;have aQ:=zh (fun w' (hb:Below w1.heap.size w1 w')=>znj s _ w' (HS.out.later (zka HB1.out hb)) (by rw[HG.out.n];have:=HN.out;omega));have hdw:Below w1.heap.size w1 w1.drew:=(Below.refl w1.heap.size w1).drew
 have had:Calls Tryz.prog 79 [.agg #[.slice A1 s.cells.length c1,.slice B1 s.tin.length d1,.slice D1 s.tout.length e1]].toArray w1.drew fun e W'=>∃ u,e=.returned u/\OwnS W' w1.heap.size s u/\Below w1.heap.size w1 W' :=
  (aQ.out w1.drew hdw).mono fun e W' ⟨v,h1,h2,h3⟩=>⟨v,h1,h2,zka hdw h3⟩
 refine zo 1 fun K hK=>?_;refine zkg (by rfl) (.func 79) [.tmp 11] _ (by rfl) 79 _ zn7 (by rfl) _ (by rfl) _ had ?_;rintro v3 w3 ⟨ho3,hb3⟩;have HB3:=zh hb3;have oZ:=zh ho3;obtain⟨A3,c3,B3,d3,D3,e3,rfl⟩:=ho3.slices;refine hK.out _ _ ⟨aB.out _ HB3.out,trivial⟩ ?_;clear hK K had hdw ho3 hb3;(try simp only[zQ]);have had:Calls Tryz.prog 79 [.agg #[.slice A1 s.cells.length c1,.slice B1 s.tin.length d1,.slice D1 s.tout.length e1]].toArray w3 fun e W'=>∃ u,e=.returned u/\OwnS W' w3.heap.size s u/\Below w3.heap.size w3 W' :=
  (aQ.out w3 HB3.out).mono fun e W' ⟨v,h1,h2,h3⟩=>⟨v,h1,h2,h3⟩
 refine zo 3 fun K hK=>?_;refine zkg (by rfl) (.func 79) [.tmp 13] _ (by rfl) 79 _ zn7 (by rfl) _ (by rfl) _ had ?_;rintro v4 w4 ⟨gP,hb4⟩;have az:=zh (zka HB3.out hb4);have lW:=zh gP;have HO3':=zh (oZ.out.later hb4);obtain⟨A4,c4,B4,d4,D4,e4,rfl⟩:=gP.slices;refine hK.out _ _ ⟨aB.out _ az.out,trivial⟩ ?_;have vG:=zh hb4.size;clear hK K had gP hb4 oZ aQ;(try simp only[zQ]);refine zo 4 fun K hK=>?_;(try simp only[zA,zB,zC]);go_simp;refine hK.out _ _ ⟨aB.out _ az.out,trivial⟩ ?_;clear hK K;(try simp only[zQ]);refine zo 5 fun K hK=>?_;(try simp only[zA,zB,zC]);go_simp;have k5:=heap_alloc_new w4 (.cells #[.slice A3 s.cells.length c3,.slice B3 s.tin.length d3,.slice D3 s.tout.length e3,.slice A4 s.cells.length c4,.slice B4 s.tin.length d4,.slice D4 s.tout.length e4,.slice none 0 0,.int .i64 0] 140)
 have hb5:=zkd (Below.refl w4.heap.size w4) (.cells #[.slice A3 s.cells.length c3,.slice B3 s.tin.length d3,.slice D3 s.tout.length e3,.slice A4 s.cells.length c4,.slice B4 s.tin.length d4,.slice D4 s.tout.length e4,.slice none 0 0,.int .i64 0] 140);obtain⟨w5,iD⟩:∃ x,w4.alloc (.cells #[.slice A3 s.cells.length c3,.slice B3 s.tin.length d3,.slice D3 s.tout.length e3,.slice A4 s.cells.length c4,.slice B4 s.tin.length d4,.slice D4 s.tout.length e4,.slice none 0 0,.int .i64 0] 140)=x:=⟨_,rfl⟩
 obtain⟨b,hb⟩:∃ x,w4.heap.size=x:=⟨_,rfl⟩
 have aW:=zh (zka az.out hb5);have hcb:CB w5 W.heap.size b s (.slice A3 s.cells.length c3) (.slice B3 s.tin.length d3) (.slice D3 s.tout.length e3) (.slice A4 s.cells.length c4) (.slice B4 s.tin.length d4) (.slice D4 s.tout.length e4) (.slice none 0 0) []:=by
  have h1:=HB1.out.size;have hsl:=(HG.out.sm (by have:=HN.out;omega)).lim;have key:∀ q,q<w4.heap.size->w5.heap[q]?=w4.heap[q]?:=fun q hq=>by rw[<-iD];exact hb5.block q hq
  refine⟨by have:=az.out.size;omega,by rw[<-iD,<-hb];exact k5,(HO3'.out.svR hsl).keep (fun q hq hlt=>⟨by omega,by omega,by simp[Value.ownBlock]⟩) fun q _ hlt=>key q hlt,(lW.out.svR hsl).keep (fun q hq hlt=>⟨by have hq:w3.heap.size<=q:=hq;have:=HB3.out.size;omega,by omega,by simp[Value.ownBlock]⟩) fun q _ hlt=>key q hlt,[],World.ownsRow_nil _ _ _ _,fun q hq=>by simp[Value.ownBlock] at hq,fun i hi=>by simp at hi⟩
 have eu:=zh hcb;rw[iD] at hb5 aW;simp only[iD,hb];have aR:=zh (show Below W.heap.size W w5 from zka HB1.out aW.out);refine hK.out _ _ ⟨aB.out _ aW.out,trivial⟩ ?_;clear hK K hcb k5 iD hb hb5;(try simp only[zQ]);refine zo 6 fun K hK=>?_;(try simp only[zA,zB,zC]);go_simp;refine hK.out _ _ ⟨aB.out _ aW.out,trivial⟩ ?_;clear hK K;(try simp only[zQ]);refine zd ?_;refine NoPanic.normal ?_;clear z0 z1 z2 aB hbc;go_wp2_with fail
 go_loopw [19] (fun i wr=>∃ j:Nat,j<=es.length/\i=.int .i64 j/\Hid (Below W.heap.size W wr)/\∃ ev,Hid (CB wr W.heap.size b s (.slice A3 s.cells.length c3) (.slice B3 s.tin.length d3) (.slice D3 s.tout.length e3) (.slice A4 s.cells.length c4) (.slice B4 s.tin.length d4) (.slice D4 s.tout.length e4) ev (es.take j))) (fun i _=>es.length-(intOf i).toNat)
 case atStart=>exact⟨0,Nat.zero_le _,rfl,aR,_,eu⟩
 case round =>
  clear eu aR aW lW HO3' HB3 az vG;obtain⟨j,hj,rfl,aR,ev,eu⟩:=hrel;by_cases hlt:j<es.length
  ·have hj1:(j:Int)<(es.length:Int):=by omega
   have hj0:(0:Int)<=(j:Int):=by omega
   have iC:IntKind.i64.wrap ((j:Int)+1)=(j:Int)+1:=IntWalk.i64_in _ (by have:=dP.out.1;omega);obtain⟨xs,q1,q2,q3⟩:=eu.out.ev;have hjl:(es.take j).length=j:=by simp;omega
   obtain⟨Ae,ce,rfl,-⟩:=zkb q1;have ax:=zh eu.out.box
   replace q3:∀ i (hi:i<(es.take j).length),∃ A c,xs[i]?=some (.slice A (es.take j)[i].length c)/\(es.take j)[i].length<=c/\RowC wr (fun q=>Cb W.heap.size b q/\(Value.slice Ae j ce).ownBlock≠some q) A (es.take j)[i]:=fun i hi=>by
    obtain⟨A,c,r1,r2,r3⟩:=q3 i hi;exact⟨A,c,r1,r2,r3.keep (fun q hq _=>⟨hq.1,by have:=hq.2;rwa[hjl] at this⟩) fun _ _ _=>rfl⟩
   rw[hjl] at q1 q2 ax eu;have Q1:=zh q1;have Q2:=zh q2;have Q3:=zh q3;obtain⟨a,A',c',eA,-,hce,-,hrc⟩:=(HE.out.later aR.out) j hlt;have hci:=(dP.out.2 _ (List.getElem_mem hlt)).1;have hcl:=kS.out _ (List.getElem_mem hlt);have htk:es.take (j+1)=es.take j++[es[j]]:=List.take_succ_eq_append_getElem hlt;obtain⟨E,hE⟩:∃ E,es[j]=E:=⟨_,rfl⟩
   rw[hE] at hce hrc hci hcl htk;have lN:=zh htk;have aY:=zh hlt;have iw:=zh hrc;have dR:=zh hci;have aQ:=zh hcl;subst eA;clear q1 q2 q3 hE hrc hci hcl htk hlt hjl;go_upto_region 5 with fail;have hbe:=bEv;have hbx:=ax.out;have z6:wr.cell? ⟨b,6,none⟩=some (.slice Ae j ce):=zc hbx rfl;have aB:=zh (show ∀ w',Below wr.heap.size wr w'->(fun _:World=>True) w'/\(fun w':World=>w'.cell? ⟨b,6,none⟩=some (.slice Ae j ce)) w' from fun w' h=>⟨trivial,zb h z6⟩);have hSS:(fun _:World=>True) wr.drew/\(fun w':World=>w'.cell? ⟨b,6,none⟩=some (.slice Ae j ce)) wr.drew:=⟨trivial,z6⟩
   refine wp_region_noPanic ?_;refine zke (fun _:World=>True) (fun w':World=>w'.cell? ⟨b,6,none⟩=some (.slice Ae j ce)) 11 (by kernel_rfl) ?_;refine zT 0 hSS ?_;(try simp only[zQ]);refine zT 1 hSS ?_;(try simp only[zQ]);refine zT 2 hSS ?_;(try simp only[zQ]);refine zT 3 hSS ?_;(try simp only[zQ]);refine zkO (i:=4) (v:=?_) rfl (by kernel_rfl) (by kernel_rfl) (by kernel_rfl) (by decide) rfl (by kernel_rfl) (by kernel_rfl) (fun _ _ _ h=>h) (Or.inl ⟨by rfl,?_⟩) hSS ?_;rotate_left 1
   ·(intro w hSw;(try dsimp only at hSw);(try simp only[zA,zB,zC]);go_simp;(try with_reducible rfl))
   (try simp only[zQ]);refine zT 5 hSS ?_;(try simp only[zQ]);have hdw:Below wr.heap.size wr wr.drew:=(Below.refl wr.heap.size wr).drew;have had:Calls Tryz.prog 80 [.slice A' E.length c'].toArray wr.drew fun e W'=>∃ u,e=.returned u/\DiR wr.heap.size W' u E/\Below wr.heap.size wr W' :=
    (zq0 E A' c' Any wr.drew (iw.out.later hdw) dR.out aQ.out).mono fun e W' ⟨v,h1,h2,h3⟩=>⟨v,h1,h2,zka hdw h3⟩
   refine zo 6 fun K hK=>?_;refine zkg (by rfl) (.func 80) [.tmp 28] _ (by rfl) 80 _ zs2 (by rfl) _ (by rfl) _ had ?_;rintro dv w3 ⟨hd3,hb3⟩;obtain⟨Ad,cd,rfl,-⟩:=zkb hd3.1;have HD3:=zh hd3;have HB3:=zh hb3;refine hK.out _ _ (aB.out _ hb3) ?_;clear hK K had hd3 hb3 hSS hdw;(try simp only[zQ]);obtain⟨ln,hln⟩:∃ x,E.length=x:=⟨_,rfl⟩
   have iO:=zh hln;rw[hln];clear hln;refine zo 7 fun K hK=>?_;(try simp only[zA,zB,zC]);go_simp;have k4:=heap_alloc_new w3 (.cells #[.slice Ad ln cd] 55);have dH:=zkd (Below.refl w3.heap.size w3) (.cells #[.slice Ad ln cd] 55);obtain⟨w4,hw4⟩:∃ x,w3.alloc (.cells #[.slice Ad ln cd] 55)=x:=⟨_,rfl⟩
   obtain⟨b4,hb4⟩:∃ x,w3.heap.size=x:=⟨_,rfl⟩
   have kF:=zh dH;simp only[hw4,hb4] at k4 kF ⊢;have fw:=zh (show Below w3.heap.size w3 w4 by rw[hb4];exact kF.out);have aM:=zh (zka HB3.out fw.out);refine hK.out _ _ (aB.out _ aM.out) ?_;clear hK K hw4 dH hb4;(try simp only[zQ]);have hrow:=zkt Q1.out aM.out;obtain⟨ix,hix,hz0,hz1,hz2⟩:=info_parts zrO;refine zo 8 fun K hK=>?_;have hlen6:j+1<=1000001:=by have:=aY.out;have:=dP.out.1;omega
   have hns:W.heap.size<=w4.heap.size:=Nat.le_trans aR.out.size aM.out.size;refine zky (by rfl) (.tmp 27) (.tmp 30) 45 (by rfl) W.heap.size 55 ix _ 1 24 Tryz.underlying45 hix hz0 hz1 hz2 rfl (by decide) (.slice Ae j ce) j xs (by rfl) hrow ⟨b4,0,none⟩ 1 1 [.slice Ad ln cd] (by rfl) rfl (fun j u hj=>by
    rw[Addr.add_lit,Nat.zero_add];exact zc k4 (by simpa using hj)) (by intro u hu;simp at hu;subst hu;rfl) (by unfold maxLen;omega) (by omega) hns ?_
   intro v5 w5 bY hg5 jy;obtain⟨A5,c5,rfl,-⟩:=zkb bY;have hbn:(Value.slice Ae j ce).ownBlock≠some b:=fun e=>(Q2.out b e).2 rfl;have fO:w5.heap[b]?=_:=(Chg.row hg5).keep (zkc ax.out aM.out) hbn;refine hK.out _ _ ⟨trivial,zc fO rfl⟩ ?_;have fq:=zh bY;have uh:=zh hg5;have oV:=zh jy;have vE:=zh fO;have hSS:(fun _:World=>True) w5/\(fun w':World=>w'.cell? ⟨b,6,none⟩=some (.slice Ae j ce)) w5:=⟨trivial,zc fO rfl⟩
   have xf:∀ o,w5.frozen? ⟨b,o,none⟩=false:=fun _=>zf fO;have x6:w5.cell? ⟨b,6,none⟩=some (.slice Ae j ce):=zc fO rfl;clear hK K bY hg5 jy fO hrow hix hz0 hz1 hz2 k4 hns z6;(try simp only[zQ]);refine zT 9 hSS ?_;(try simp only[zQ]);refine zT 10 hSS ?_;(try simp only[zQ]);refine zp 11 fun K hK=>?_;(try simp only[zA,zB,zC]);go_simp;have bz:=heap_setCell_same w5 b 6 _ _ (.slice A5 (j+1) c5) vE.out;have hc6:=(Chg.refl (fun q=>q=b) w5).setCell (p:=⟨b,6,none⟩) (.inl rfl) (.slice A5 (j+1) c5);obtain⟨w6,eP⟩:∃ x,w5.setCell ⟨b,6,none⟩ (.slice A5 (j+1) c5)=x:=⟨_,rfl⟩
   rw[eP] at bz hc6 ⊢;simp at bz;refine hK.out _ _ trivial ?_;have hjl:(es.take j).length=j:=by simp;have:=aY.out;omega
   have aV:=zh (CB.step eu.out Q3.out (by rw[hjl];exact Q1.out) aM.out (by have h9:=HD3.out.later fw.out;rw[iO.out] at h9;exact h9) (Nat.le_refl _) (by rw[hjl];exact fq.out) uh.out oV.out hc6 bz);have sJ:=zh hc6;clear hK K eP xf x6 hc6 bz hSS aB hbx hbe;(try simp only[zQ]);refine zd ?_;refine NoPanic.normal ?_;have hbw:Below W.heap.size W w6:=by
    have h1:=zka aR.out aM.out;have h2:Below W.heap.size W w5:=h1.trans ((Chg.row uh.out).below h1.size fun q e=>by have:=(Q2.out q e).1;exact this);exact h2.trans (sJ.out.below h2.size fun q e=>by have e:q=b:=e;have:=eu.out.nb;omega)
   have dS:=zh hbw;clear hbw hjl;go_wp2_with fail;exact⟨⟨j+1,by have:=aY.out;omega,by go_num,dS,_,by rw[lN.out];exact aV⟩,by have:=aY.out;simp[intOf];omega⟩
  ·obtain rfl:j=es.length:=by omega
   have hj1:¬ (es.length:Int)<(es.length:Int):=by omega
   have jD:=eu.out.cu;rw[List.take_length] at jD;have hat:=zu6 jD es.length (Nat.le_refl _) HG.out HN.out dP.out;rw[List.take_length] at hat
   have dQ:=zh jD;have HAT:=zh hat
   clear jD hat
   go_wp2_with fail;refine HAT.out.mono ?_;rintro e7 w7 ⟨bH,v7,rfl,hv7⟩;have hl7:(atE s es).2.Lim:=by
    obtain⟨_,_,_,_,_,_,_,_,_,_,_,_,_,h⟩:=hv7;exact h
   obtain⟨A7,c7,B7,d7,D7,e7,rfl⟩:=hv7.slices;have eU:=zkd bH (.cells #[.slice A7 (atE s es).2.cells.length c7,.slice B7 (atE s es).2.tin.length d7,.slice D7 (atE s es).2.tout.length e7] 26);have bR:=zh eU;have p9:=zh (zka aR.out eU);obtain⟨R,hR⟩:∃ R,atE s es=R:=⟨_,rfl⟩
   have HRR:=zh hR;rw[hR] at bR p9 ⊢;obtain⟨er,y⟩:=R;clear bH hv7 eU HAT hl7 hR;by_cases h0:er=0
   ·subst h0;go_wp2_with fail;go_ret2;exact⟨p9.out,.inl ⟨by rw[HRR.out],b,rfl,dQ.out.later bR.out⟩⟩
   ·have hne:(er==0)=false:=by simpa using h0
    go_wp2_with fail;go_ret2;exact⟨p9.out,.inr ⟨by rw[HRR.out];exact h0,by rw[HRR.out];rfl⟩⟩
structure EvB (s:SS) (es:List (List CH)):Prop where
 n:es.length<=30
 cells:s.cells.length<=12
 tin:s.tin.length<=40
 tout:s.tout.length<=40
 row:∀ l∈s.cells,l.length<=40
 ev:∀ e∈es,e.length<=10
theorem zqI {W:World} {s:SS} {es:List (List CH)} {v:Value} {A0:Option Addr} {c0:Nat} (hs:SV W Any s v) (he:RowE W Any A0 es) (hel:es.length<=4398046511103*2) (hee:∀ e∈es,e.length<=4398046511103) :
  Calls Tryz.prog 31 #[v,.slice A0 es.length c0] W fun e W'=>∃ r:Int,e=.returned (.int .i64 r)/\(r=0\/r=1/\EvB s es)/\Below W.heap.size W W':=by
 obtain⟨A,c,B,d,D,e,rfl,hr1,hr2,hr3,hc1,hc2,hc3,hl1,hl2,hl3,hl4⟩:=hs;have HE:=zh (he.later (zkd (Below.refl W.heap.size W) (.cells #[.slice A s.cells.length c,.slice B s.tin.length d,.slice D s.tout.length e] 26)));have ag:=zh (hr1.later (zkd (Below.refl W.heap.size W) (.cells #[.slice A s.cells.length c,.slice B s.tin.length d,.slice D s.tout.length e] 26)));have cB:=zh hl2;have sG:=zh hee;obtain⟨m,hm⟩:∃ m,es.length=m:=⟨_,rfl⟩
 have HM:=zh hm;rw[hm] at hel;rw[hm];unfold LI at hl1 hl3 hl4;clear hr1 hr2 hr3 hc1 hc2 hc3 hl2 he hee hm;by_cases g1:30<m
 ·have k1:(30:Int)<(m:Int):=by omega
  go_enter Tryz.func31,Tryz.ntmps31;go_wp2_with fail;go_ret;exact⟨_,rfl,.inl rfl,zkd (Below.refl _ _) _⟩
 have k1:¬ (30:Int)<(m:Int):=by omega
 by_cases g2:12<s.cells.length
 ·have k2:(12:Int)<(s.cells.length:Int):=by omega
  go_enter Tryz.func31,Tryz.ntmps31;go_wp2_with fail;go_ret;exact⟨_,rfl,.inl rfl,zkd (Below.refl _ _) _⟩
 have k2:¬ (12:Int)<(s.cells.length:Int):=by omega
 by_cases g3:40<s.tin.length
 ·have k3:(40:Int)<(s.tin.length:Int):=by omega
  go_enter Tryz.func31,Tryz.ntmps31;go_wp2_with fail;go_ret;exact⟨_,rfl,.inl rfl,zkd (Below.refl _ _) _⟩
 have k3:¬ (40:Int)<(s.tin.length:Int):=by omega
 by_cases g4:40<s.tout.length
 ·have k4:(40:Int)<(s.tout.length:Int):=by omega
  go_enter Tryz.func31,Tryz.ntmps31;go_wp2_with fail;go_ret;exact⟨_,rfl,.inl rfl,zkd (Below.refl _ _) _⟩
 have k4:¬ (40:Int)<(s.tout.length:Int):=by omega
 have HG:=zh (show m<=30/\s.cells.length<=12/\s.tin.length<=40/\s.tout.length<=40 by omega);obtain⟨n,hn⟩:∃ n,s.cells.length=n:=⟨_,rfl⟩
 have HN:=zh hn;rw[hn] at k2 hl1;simp only[hn] at ag HE ⊢;clear g1 g2 g3 g4 hn;go_enter Tryz.func31,Tryz.ntmps31;go_wp2_with fail;have HB:=zh (zkd (Below.refl W.heap.size W) (.cells #[.slice A n c,.slice B s.tin.length d,.slice D s.tout.length e] 26));obtain⟨c0',c1',c2'⟩:=zlp (heap_alloc_new W (.cells #[.slice A n c,.slice B s.tin.length d,.slice D s.tout.length e] 26));obtain⟨W0,hW0⟩:∃ x,W.alloc (.cells #[.slice A n c,.slice B s.tin.length d,.slice D s.tout.length e] 26)=x:=⟨_,rfl⟩
 rw[hW0] at HB c0' c1' c2' ag HE ⊢;clear hW0
 go_loopw [5] (fun i wr=>∃ j:Nat,j<=n/\i=.int .i64 j/\wr=W0/\Hid (∀ l∈s.cells.take j,l.length<=40)) (fun i _=>n-(intOf i).toNat)
 case atStart=>exact⟨0,Nat.zero_le _,rfl,rfl,zh (by simp)⟩
 case round =>
  obtain⟨j,hj,rfl,hwr,dN⟩:=hrel;subst hwr;by_cases hlt:j<n
  ·have hj1:(j:Int)<(n:Int):=by omega
   have hj0:(0:Int)<=(j:Int):=by omega
   have iC:IntKind.i64.wrap ((j:Int)+1)=(j:Int)+1:=IntWalk.i64_in _ (by omega);have hjs:j<s.cells.length:=by rw[HN.out];exact hlt
   obtain⟨a,A',c',rfl,-,hce,-,-⟩:=ag.out j hjs;have htk:=List.take_succ_eq_append_getElem hjs;have hle:=cB.out _ (List.getElem_mem hjs);obtain⟨E,hE⟩:∃ E,s.cells[j]=E:=⟨_,rfl⟩
   rw[hE] at hce htk hle;unfold LI at hle;by_cases ve:40<E.length
   ·have k5:(40:Int)<(E.length:Int):=by omega
    go_wp2_with fail;go_ret;exact⟨_,rfl,.inl rfl,HB.out⟩
   ·have k5:¬ (40:Int)<(E.length:Int):=by omega
    have lN:=zh htk;have kS:=zh (show E.length<=40 by omega);clear htk hE hle;go_wp2_with fail;exact⟨⟨j+1,hlt,by go_num,by first|rfl|trivial,zh (by rw[lN.out];intro l hl;rcases List.mem_append.1 hl with h|h;exact dN.out l h;obtain rfl:=List.mem_singleton.1 h;exact kS.out)⟩,by simp[intOf];omega⟩
  ·obtain rfl:j=n:=by omega
   have hj1:¬ (j:Int)<(j:Int):=by omega
   have hall:=dN.out;rw[List.take_of_length_le (by rw[HN.out];exact Nat.le_refl _)] at hall;have mh:=zh hall;clear hall;go_wp2_with fail
   go_loopw [6] (fun i w2=>∃ q:Nat,q<=m/\i=.int .i64 q/\w2=wr/\Hid (∀ l∈es.take q,l.length<=10)) (fun i _=>m-(intOf i).toNat)
   case atStart=>exact⟨0,Nat.zero_le _,rfl,rfl,zh (by simp)⟩
   case round =>
    obtain⟨q,hq,rfl,hw2,HQ⟩:=hrel;subst hw2;by_cases hlq:q<m
    ·have hq1:(q:Int)<(m:Int):=by omega
     have hq0:(0:Int)<=(q:Int):=by omega
     have hwq:IntKind.i64.wrap ((q:Int)+1)=(q:Int)+1:=IntWalk.i64_in _ (by have:=HG.out.1;omega);have fQ:q<es.length:=by rw[HM.out];exact hlq
     obtain⟨a,A',c',rfl,-,hce,-,-⟩:=HE.out q fQ;have htk:=List.take_succ_eq_append_getElem fQ;have hle:=sG.out _ (List.getElem_mem fQ);obtain⟨E,hE⟩:∃ E,es[q]=E:=⟨_,rfl⟩
     rw[hE] at hce htk hle;by_cases h10:10<E.length
     ·have k5:(10:Int)<(E.length:Int):=by omega
      go_wp2_with fail;go_ret;exact⟨_,rfl,.inl rfl,HB.out⟩
     ·have k5:¬ (10:Int)<(E.length:Int):=by omega
      have lN:=zh htk;have kS:=zh (show E.length<=10 by omega);clear htk hE hle;go_wp2_with fail;exact⟨⟨q+1,hlq,by go_num,by first|rfl|trivial,zh (by rw[lN.out];intro l hl;rcases List.mem_append.1 hl with h|h;exact HQ.out l h;obtain rfl:=List.mem_singleton.1 h;exact kS.out)⟩,by simp[intOf];omega⟩
    ·obtain rfl:q=m:=by omega
     have hq1:¬ (q:Int)<(q:Int):=by omega
     have hev:=HQ.out;rw[List.take_of_length_le (by rw[HM.out];exact Nat.le_refl _)] at hev;have um:=zh hev;clear hev;go_wp2_with fail;go_ret;exact⟨_,rfl,.inr ⟨rfl,by rw[HM.out];exact HG.out.1,by first|exact HG.out.2.1|(rw[HN.out];exact HG.out.2.1),HG.out.2.2.1,HG.out.2.2.2,mh.out,um.out⟩,HB.out⟩
theorem zrC:IsFn Tryz.prog 21 Tryz.f21:=⟨Tryz.func21,by kernel_rfl,by kernel_rfl⟩
theorem zqR (s:SS) (v:Value) (w:World) (hv:SV w Any s v) (hcl:s.cells.length<=1000000):Calls Tryz.prog 32 #[v] w fun e W'=>∃ v',e=.returned v'/\OwnS W' w.heap.size s v'/\Below w.heap.size w W':=by
 have h0:=bI0;have h1:=bS12;have HV:=zh hv;obtain⟨A,c,B,d,D,e,rfl,hr1,hr2,hr3,hc1,hc2,hc3,hl1,hl2,hl3,hl4⟩:=hv;have hk:=heap_alloc_new w (.cells #[.slice A s.cells.length c,.slice B s.tin.length d,.slice D s.tout.length e] 26);have hbw:Below w.heap.size w ((w.alloc (.cells #[.slice A s.cells.length c,.slice B s.tin.length d,.slice D s.tout.length e] 26)).alloc (.cells #[.slice none 0 0,.slice none 0 0,.slice none 0 0] 26)):=zkd (zkd (Below.refl _ _) _) _;have hk2:=zkr hk (.cells #[.slice none 0 0,.slice none 0 0,.slice none 0 0] 26);have hz1:((w.alloc (.cells #[.slice A s.cells.length c,.slice B s.tin.length d,.slice D s.tout.length e] 26)).alloc (.cells #[.slice none 0 0,.slice none 0 0,.slice none 0 0] 26)).heap.size=w.heap.size+1+1:=by simp
 have hk3:=heap_alloc_new (w.alloc (.cells #[.slice A s.cells.length c,.slice B s.tin.length d,.slice D s.tout.length e] 26)) (.cells #[.slice none 0 0,.slice none 0 0,.slice none 0 0] 26);rw[World.size_alloc] at hk3;have HI:=zh (show s.I from ⟨fun l hl=>by
  obtain⟨i,hi,rfl⟩:=List.mem_iff_getElem.1 hl;obtain⟨_,_,_,_,_,_,_,hr⟩:=hr1 i hi;exact hr.fits,hr2.fits,hr3.fits⟩)
 go_enter Tryz.func32,Tryz.ntmps32;go_upto_region 1 with fail;obtain⟨w1,hw1⟩:∃ x,(w.alloc (.cells #[.slice A s.cells.length c,.slice B s.tin.length d,.slice D s.tout.length e] 26)).alloc (.cells #[.slice none 0 0,.slice none 0 0,.slice none 0 0] 26)=x:=⟨_,rfl⟩
 rw[hw1] at hbw hk2 hk3 hz1 ⊢;have HB1:=zh hbw;have aN:=zh hk2;have jh:=zh hk3;have HR1:=zh (hr1.later hbw);have HR2:=zh (hr2.later hbw);have HR3:=zh (hr3.later hbw);have HL:=zh (show s.Lim from ⟨hl1,hl2,hl3,hl4⟩);clear hk hbw hk2 hk3 hw1 hr1 hr2 hr3 hl1 hl2 hl3 hl4 HV;obtain⟨z0,z1,z2⟩:=zlp aN.out;have hSS:(fun w':World=>w'.cell? ⟨w.heap.size,1,none⟩=some (.slice B s.tin.length d)/\w'.cell? ⟨w.heap.size,2,none⟩=some (.slice D s.tout.length e)) w1.drew/\(fun _:World=>True) w1.drew:=⟨⟨z1,z2⟩,trivial⟩
 refine wp_region_noPanic ?_;refine zke (fun w':World=>w'.cell? ⟨w.heap.size,1,none⟩=some (.slice B s.tin.length d)/\w'.cell? ⟨w.heap.size,2,none⟩=some (.slice D s.tout.length e)) (fun _:World=>True) 10 (by kernel_rfl) ?_;refine zT 1 hSS ?_;(try simp only[zQ]);refine zT 2 hSS ?_;(try simp only[zQ]);refine zT 5 hSS ?_;(try simp only[zQ]);refine zT 6 hSS ?_;(try simp only[zQ]);refine zm7 (fun A f l a wr=>∃ (l0 l3 l4 l7 l8 l9:Bool) (v5 v8 v9 v12 v13 v3:Value) (b3:Nat),f=(!l0).toNat+(!l3).toNat+(!l4).toNat+(!l7).toNat+(!l8).toNat+(!l9).toNat+1/\l = #[l0,true,true,l3,l4,true,true,l7,l8,l9,false] /\
  a=(((((A.put (some 5) v5).put (some 8) v8).put (some 9) v9).put (some 12) v12).put (some 13) v13).put (some 3) v3/\Hid (Below w1.heap.size w1 wr)/\Hid (Rws wr w1.heap.size (zlD l0 l3 l4 l7 l9 v5 v8 v9 v12 b3 s))/\Hid ((l3=true->l0=true)/\(l7=true->l4=true)/\(l8=true->v13=.agg #[.slice none 0 0,v8,v12]/\l3=true/\l7=true)/\(l9=true->v3=.pointer (some ⟨b3,0,none⟩)))/\Hid (l9=false->v3=undef)) (fun A f l a wr h=>?_) ?_ ⟨false,false,false,false,false,false,undef,undef,undef,undef,undef,undef,0,rfl,rfl,(by simp only[Act.put,zD,zE,zF]),zh (Below.refl _ _).drew,zh (zrn _ _ _ _ _ _ _ _),zh ⟨fun h=>(by cases h),fun h=>(by cases h),fun h=>(by cases h),fun h=>(by cases h)⟩,zh (fun _=>rfl)⟩
 ·obtain⟨_,_,_,_,_,_,_,_,_,_,_,_,_,_,_,_,hb,_⟩:=h;exact⟨⟨zb hb.out z1,zb hb.out z2⟩,trivial⟩
 rintro A' hA f l a wr ⟨l0,l3,l4,l7,l8,l9,v5,v8,v9,v12,v13,v3,b3,hf,rfl,ha,ae,HRW,HC,HU⟩;by_cases hall:(l0&&l3&&l4&&l7&&l8&&l9)=true
 ·left
  simp only[Bool.and_eq_true] at hall;obtain⟨⟨⟨⟨⟨rfl,rfl⟩,rfl⟩,rfl⟩,rfl⟩,rfl⟩:=hall;obtain⟨-,-,kM,h3⟩:=HC.out;obtain⟨rfl,-,-⟩:=kM rfl;obtain rfl:=h3 rfl;subst hf ha hA;have hrow:=HRW.out.row none;obtain⟨B8,c8,e8,-,-⟩:=zkb (HRW.out.row (some .inp));change v8=.slice B8 s.tin.length c8 at e8;obtain⟨bS,c12,e12,-,-⟩:=zkb (HRW.out.row (some .out));change v12=.slice bS s.tout.length c12 at e12;subst e8 e12;have hbx:=zlB hrow;have c0:wr.cell? ⟨b3,0,none⟩=some (.slice none 0 0):=zc hbx rfl;have c1:wr.cell? ⟨b3,1,none⟩=some (.slice none 0 0):=zc hbx rfl;have c2:wr.cell? ⟨b3,2,none⟩=some (.slice none 0 0):=zc hbx rfl;have cf:∀ j,wr.frozen? ⟨b3,j,none⟩=false:=fun j=>zf hbx;refine zp 10 fun K hK=>?_;(try simp only[zQ]);go_simp;have hb3:w1.heap.size<=b3/\b3<wr.heap.size:=hrow.lt b3 rfl
  have hch:Chg (fun b=>b=b3) wr (((wr.setCell ⟨b3,0,none⟩ (.slice none 0 0)).setCell ⟨b3,1,none⟩ (.slice B8 s.tin.length c8)).setCell ⟨b3,2,none⟩ (.slice bS s.tout.length c12)) :=
   (((Chg.refl (fun b=>b=b3) wr).setCell (p:=⟨b3,0,none⟩) (.inl rfl) _).setCell (p:=⟨b3,1,none⟩) (.inl rfl) _).setCell (p:=⟨b3,2,none⟩) (.inl rfl) _
  have hh:=heap_setCell_same _ b3 2 _ _ (.slice bS s.tout.length c12) (heap_setCell_same _ b3 1 _ _ (.slice B8 s.tin.length c8) (heap_setCell_same wr b3 0 _ _ (.slice none 0 0) hbx));have ax:=zh (ae.out.trans (hch.below ae.out.size fun b e=>by omega));have hrw:=(HRW.out.upd none (r:=⟨boxV b3,26,3,1,[.slice none 0 0,.slice B8 s.tin.length c8,.slice bS s.tout.length c12]⟩) (hch.mono fun b _ e=>by subst e;rfl) (zpl hb3.1 hh) (fun b hb=>.inl hb)).upd (some .all) (r:=⟨.slice none 0 0,24,1,0,[]⟩) (Chg.refl _ _) (zl5 _ _ _) (fun b hb=>by simp[Value.ownBlock] at hb);rw[zuK (fc:=fun _=>.slice none 0 0)] at hrw;have iw:=zh hrw;obtain⟨w2,hw2⟩:∃ x,((wr.setCell ⟨b3,0,none⟩ (.slice none 0 0)).setCell ⟨b3,1,none⟩ (.slice B8 s.tin.length c8)).setCell ⟨b3,2,none⟩ (.slice bS s.tout.length c12)=x:=⟨_,rfl⟩
  rw[hw2] at ax iw ⊢;have aA:(fun w':World=>w'.cell? ⟨w.heap.size,1,none⟩=some (.slice B s.tin.length d)/\w'.cell? ⟨w.heap.size,2,none⟩=some (.slice D s.tout.length e)) w2:=⟨zb ax.out z1,zb ax.out z2⟩
  refine hK.out _ _ aA ?_;clear hK K hSS aA hch hh hrw hw2 hbx c0 c1 c2 cf hrow HRW ae HU HC kM h3 h0 h1;refine zd ?_;refine NoPanic.normal ?_;obtain⟨vi,jo⟩:∃ x,Value.slice B8 s.tin.length c8=x:=⟨_,rfl⟩
  obtain⟨vo,kJ⟩:∃ x,Value.slice bS s.tout.length c12=x:=⟨_,rfl⟩
  rw[jo,kJ] at iw;have rP:=zh jo;have rO:=zh kJ;clear jo kJ;go_wp2_with fail
  go_loopw [4] (fun i wr=>∃ j:Nat,j<=s.cells.length/\i=.int .i64 j/\Hid (Below w1.heap.size w1 wr)/\∃ vc fc,Hid (Rws wr w1.heap.size (zkM vc vi vo fc b3 s j))) (fun i _=>s.cells.length-(intOf i).toNat)
  case atStart=>exact⟨0,Nat.zero_le _,rfl,ax,_,_,iw⟩
  case round =>
   clear ax iw;obtain⟨j,hj,rfl,ae,vc,fc,HRW⟩:=hrel;have y0:=zb ae.out z0;by_cases hlt:j<s.cells.length
   ·have hj1:(j:Int)<(s.cells.length:Int):=by omega
    have hj0:(0:Int)<=(j:Int):=by omega
    obtain⟨a,l,Al,cl,rfl,Hl,hcl0,hlc,hrl⟩:=(HR1.out.later ae.out).nd hlt;have mK:=zh hrl;have cB:=zh (show l.length<=LI by rw[<-Hl.out];exact HL.out.2.1 _ (List.getElem_mem hlt));have hbx:=zlB (HRW.out.row none);have x0:wr.cell? ⟨b3,0,none⟩=some vc:=zc hbx rfl;have hz0:wr.frozen? ⟨b3,0,none⟩=false:=zf hbx;obtain⟨Av,cv,dO,-⟩:=zkb (HRW.out.row (some .all));change vc=.slice Av j cv at dO;subst dO;have hS0:(fun w':World=>w'.cell? ⟨w.heap.size,0,none⟩=some (.slice (some a) s.cells.length c)/\w'.cell? (a.add j)=some (.slice Al l.length cl)) wr.drew/\(fun w':World=>w'.cell? ⟨b3,0,none⟩=some (.slice Av j cv)) wr.drew:=⟨⟨y0,hcl0⟩,x0⟩
    obtain⟨i0,hi0,hq0,hq1,hq2⟩:=info_parts zpM;go_upto_region 5 with fail;refine wp_region_noPanic ?_;refine zke (fun w':World=>w'.cell? ⟨w.heap.size,0,none⟩=some (.slice (some a) s.cells.length c)/\w'.cell? (a.add j)=some (.slice Al l.length cl)) (fun w':World=>w'.cell? ⟨b3,0,none⟩=some (.slice Av j cv)) 12 (by kernel_rfl) ?_;refine zT 0 hS0 ?_;(try simp only[zQ]);refine zkO (i:=1) (v:=?_) rfl (by kernel_rfl) (by kernel_rfl) (by kernel_rfl) (by decide) rfl (by kernel_rfl) (by kernel_rfl) (fun _ _ _ h=>h) (Or.inl ⟨by rfl,?_⟩) hS0 ?_;rotate_left 1
    ·(intro w hSw;(try dsimp only at hSw);(try simp only[zA,zB,zC]);go_simp;(try with_reducible rfl))
    (try simp only[zQ]);refine zT 3 hS0 ?_;(try simp only[zQ]);refine zT 4 hS0 ?_;(try simp only[zQ]);refine zT 5 hS0 ?_;(try simp only[zQ]);refine zT 6 hS0 ?_;(try simp only[zQ]);refine zT 7 hS0 ?_;(try simp only[zQ]);refine zo 2 fun K hK=>?_;(try simp only[zA,zB,zC]);go_simp;have HB0:=zh (show Below wr.heap.size wr (wr.alloc (.cells #[] 3)).drew from (zkd (Below.refl _ _) _).drew);have hS1:(fun w':World=>w'.cell? ⟨w.heap.size,0,none⟩=some (.slice (some a) s.cells.length c)/\w'.cell? (a.add j)=some (.slice Al l.length cl)) (wr.alloc (.cells #[] 3)).drew/\(fun w':World=>w'.cell? ⟨b3,0,none⟩=some (.slice Av j cv)) (wr.alloc (.cells #[] 3)).drew:=⟨⟨zb HB0.out y0,zb HB0.out hcl0⟩,zb HB0.out x0⟩
    have hsz:=ae.out.size;have hd0:=HRW.out.upd (some (.el j)) (r:=⟨.slice (some ⟨wr.heap.size,0,none⟩) 0 0,3,1,0,[]⟩) (W':=wr.alloc (.cells #[] 3)) (Chg.of_below (zkd (Below.refl _ _) _)) (znu wr _ hsz) (fun b hb=>.inr (by simp[Value.ownBlock] at hb;omega));have HD0:=zh (hd0.later (Below.refl _ _).drew);obtain⟨wa,nC⟩:∃ x,(wr.alloc (.cells #[] 3)).drew=x:=⟨_,rfl⟩
    rw[nC] at hS1 HD0 HB0 ⊢;refine hK.out _ _ hS1 ?_;clear hK K hS0 hd0 nC;(try simp only[zQ]);have hszA:=(zka ae.out HB0.out).size;have hrow:=HD0.out.row (some (.el j));rw[zkE] at hrow;refine zo 8 fun K hK=>?_;refine zlR (by rfl) (.tmp 23) (.tmp 28) (by rfl) w1.heap.size (.slice (some ⟨wr.heap.size,0,none⟩) 0 0) 0 [] (by rfl) hrow Al l cl (by rfl) (mK.out.later HB0.out) cB.out rfl hszA (fun v8 wb ho hg ak=>?_);rw[Nat.zero_add,List.nil_append] at ho;have hd1:=HD0.out.upd (some (.el j)) (r:=⟨v8,3,1,l.length,zkf l⟩) ((Chg.row hg).mono fun b _ hb=>by rw[zkE];exact hb) ho (fun b hb=>by
     rw[zkE];rcases ak with h5|h5
     ·exact .inl (h5▸hb)
     ·exact .inr (by rw[h5] at hb;injection hb with hb;omega))
    have HD1:=zh hd1;have fI:=zh (show Below wr.heap.size wr wb from HB0.out.grown hg HB0.out.size (fun g e=>by simp[Value.ownBlock] at e;omega));have hS2:(fun w':World=>w'.cell? ⟨w.heap.size,0,none⟩=some (.slice (some a) s.cells.length c)/\w'.cell? (a.add j)=some (.slice Al l.length cl)) wb/\(fun w':World=>w'.cell? ⟨b3,0,none⟩=some (.slice Av j cv)) wb:=⟨⟨zb fI.out y0,zb fI.out hcl0⟩,zb fI.out x0⟩
    obtain⟨A8,dn,rfl,-⟩:=zkb ho;refine hK.out _ _ hS2 ?_;clear hK K hd1 ho hg ak hrow hS1;(try simp only[zQ]);have h1:=zuB;refine zo 9 fun K hK=>?_;(try simp only[zA,zB,zC]);go_simp;have dV:=zh (show Below wr.heap.size wr (wb.alloc (.cells #[.slice A8 l.length dn] 24)) from zkd fI.out _);have HD2:=zh (HD1.out.later (show Below wb.heap.size wb (wb.alloc (.cells #[.slice A8 l.length dn] 24)) from zkd (Below.refl _ _) _));have aK:=zh (show(wb.alloc (.cells #[.slice A8 l.length dn] 24)).heap[wb.heap.size]?=some (.cells #[.slice A8 l.length dn] 24 (0,0)) from heap_alloc_new wb _)
    have ow:(fun w':World=>w'.cell? ⟨w.heap.size,0,none⟩=some (.slice (some a) s.cells.length c)/\w'.cell? (a.add j)=some (.slice Al l.length cl)) (wb.alloc (.cells #[.slice A8 l.length dn] 24))/\(fun w':World=>w'.cell? ⟨b3,0,none⟩=some (.slice Av j cv)) (wb.alloc (.cells #[.slice A8 l.length dn] 24)):=⟨⟨zb dV.out y0,zb dV.out hcl0⟩,zb dV.out x0⟩
    obtain⟨wc,hwc⟩:∃ x,(wb.alloc (.cells #[.slice A8 l.length dn] 24))=x:=⟨_,rfl⟩
    rw[hwc] at dV HD2 aK ow ⊢;refine hK.out _ _ ow ?_;clear hK K hwc hS2 HD1;(try simp only[zQ]);have jq:=(zka ae.out dV.out).size;have hrow:=HD2.out.row (some .all);rw[zki (by simp),zki (by simp)] at hrow;change wc.ownsRow w1.heap.size 24 1 (.slice Av j cv) j ((List.range j).map fc) at hrow;refine zo 10 fun K hK=>?_;refine zky (by rfl) (.tmp 22) (.tmp 30) 23 (by rfl) w1.heap.size 24 i0 _ 1 24 Tryz.underlying23 hi0 hq0 hq1 hq2 rfl (by decide) (.slice Av j cv) j ((List.range j).map fc) (by rfl) hrow ⟨wb.heap.size,0,none⟩ 1 1 [.slice A8 l.length dn] (by rfl) rfl (fun q u hq=>by
     match q,hq with
     | 0,hq=>injection hq with hq;subst hq;exact zc aK.out rfl) (fun u hu=>by simp at hu;subst hu;rfl) (by unfold maxLen;omega) (by omega) jq (fun vd wd ho hg ak=>?_)
    have hd3:=HD2.out.upd (some .all) (r:=⟨vd,24,1,j+1,(List.range j).map fc++[.slice A8 l.length dn]⟩) ((Chg.row hg).mono fun b _ hb=>hb) ho (fun b hb=>by
     rcases ak with h5|h5
     ·exact .inl (h5▸hb)
     ·exact .inr (by rw[h5] at hb;injection hb with hb;omega))
    have HD3:=zh hd3;have uS:∀ g,(Value.slice Av j cv).ownBlock=some g->(zkM (.slice Av j cv) vi vo fc b3 s j (some .all)).v.ownBlock=some g:=fun g e=>e;have hsep:∀ g,(Value.slice Av j cv).ownBlock=some g->g≠b3:=fun g e h=>HRW.out.sep (some .all) none g (by simp) e (by rw[h];rfl);have hlo:∀ g,(Value.slice Av j cv).ownBlock=some g->w1.heap.size<=g:=fun g e=>(HRW.out.lt (some .all) g e).1;have nU:Chg (fun b=>(Value.slice Av j cv).ownBlock=some b) wc wd:=Chg.row hg;have dU:=zh (show Below w1.heap.size w1 wd from (zka ae.out dV.out).grown hg jq (fun g e=>hlo g e));have fZ:=zlB (HD3.out.row none);have e0:wd.cell? ⟨b3,0,none⟩=some (.slice Av j cv):=zc fZ rfl;have ez:wd.frozen? ⟨b3,0,none⟩=false:=zf fZ;have hab:a.block<w1.heap.size:=by
     obtain⟨a',_,_,e',_,hc',_⟩:=HR1.out j hlt;injection e' with e';subst e';have:=World.block_lt_of_cell? w1 _ hc';rwa[zkn] at this
    have gV:(fun w':World=>w'.cell? ⟨w.heap.size,0,none⟩=some (.slice (some a) s.cells.length c)/\w'.cell? (a.add j)=some (.slice Al l.length cl)) wd/\(fun w':World=>w'.cell? ⟨b3,0,none⟩=some (.slice Av j cv)) wd:=⟨⟨zb dU.out z0,zkG hcl0 (by rw[zkn];exact(dU.out.block _ hab).trans (ae.out.block _ hab).symm)⟩,e0⟩
    have hd4:=HD3.out.set none (g:=b3) (o:=0) (by rfl) (by show 0<3;decide) vd;have hd5:Rws (wd.setCell ⟨b3,0,none⟩ vd) w1.heap.size (zkM vd vi vo (fun i=>if i=j then .slice A8 l.length dn else fc i) b3 s (j+1)):=by
     rw[<-znZ (.slice Av j cv) vd vi vo fc b3 s j l (.slice A8 l.length dn) (.slice (some ⟨wr.heap.size,0,none⟩) 0 0) (by rw[List.getD_eq_getElem?_getD,List.getElem?_eq_getElem hlt];exact Hl.out)];exact hd4
    have HD5:=zh hd5;have hb3lt:=(HD3.out.lt none b3 rfl)
    have pY:=zh (show Below w1.heap.size w1 (wd.setCell ⟨b3,0,none⟩ vd) from dU.out.trans ((((Chg.refl (fun b=>b=b3) wd).setCell (p:=⟨b3,0,none⟩) (.inl rfl) vd)).below dU.out.size fun b e=>by omega));obtain⟨Ad,cd',rfl,-⟩:=zkb ho;refine hK.out _ _ gV ?_;clear hK K hd3 hd4 hd5 ho hg ak hrow ow nU uS hsep hlo fZ;(try simp only[zQ]);refine zo 11 fun K hK=>?_;(try simp only[zA,zB,zC]);go_simp;refine hK.out _ _ gV ?_;clear hK K;(try simp only[zQ]);refine zp 12 fun K hK=>?_;(try simp only[zA,zB,zC]);go_simp;refine hK.out _ _ ⟨zb pY.out z0,?_⟩ ?_;rotate_left 1
    ·clear hK K;(try simp only[zQ]);refine zd ?_;refine NoPanic.normal ?_;go_wp2_with fail;exact⟨⟨j+1,by omega,by go_num,pY,_,_,HD5⟩,by simp[intOf];omega⟩
    ·refine zkG hcl0 (by rw[zkn];exact(pY.out.block _ hab).trans (ae.out.block _ hab).symm)
   ·obtain rfl:j=s.cells.length:=by omega
    have hj1:¬ (s.cells.length:Int)<(s.cells.length:Int):=by omega
    have hbx:=zlB (HRW.out.row none);have x0:wr.cell? ⟨b3,0,none⟩=some vc:=zc hbx rfl;have x1:wr.cell? ⟨b3,1,none⟩=some vi:=zc hbx rfl;have x2:wr.cell? ⟨b3,2,none⟩=some vo:=zc hbx rfl;obtain⟨Av,cv,dO,-⟩:=zkb (HRW.out.row (some .all));change vc=.slice Av s.cells.length cv at dO;subst dO;rw[<-rP.out] at x1;rw[<-rO.out] at x2;have hk3:=zkc jh.out ae.out;have q0:wr.cell? ⟨w.heap.size+1,0,none⟩=some (.slice none 0 0):=zc hk3 rfl;have q1:wr.cell? ⟨w.heap.size+1,1,none⟩=some (.slice none 0 0):=zc hk3 rfl;have q2:wr.cell? ⟨w.heap.size+1,2,none⟩=some (.slice none 0 0):=zc hk3 rfl;have cf:∀ j,wr.frozen? ⟨w.heap.size+1,j,none⟩=false:=fun j=>zf hk3;have bO:=zh (znq HRW.out);have pz:=zh hk3;clear hbx hk3 HRW;go_wp2_with fail
    have hch:Chg (fun b=>b=w.heap.size+1) wr (((wr.setCell ⟨w.heap.size+1,0,none⟩ (.slice Av s.cells.length cv)).setCell ⟨w.heap.size+1,1,none⟩ (.slice B8 s.tin.length c8)).setCell ⟨w.heap.size+1,2,none⟩ (.slice bS s.tout.length c12)) :=
     (((Chg.refl (fun b=>b=w.heap.size+1) wr).setCell (p:=⟨w.heap.size+1,0,none⟩) (.inl rfl) _).setCell (p:=⟨w.heap.size+1,1,none⟩) (.inl rfl) _).setCell (p:=⟨w.heap.size+1,2,none⟩) (.inl rfl) _
    have hh:=heap_setCell_same _ (w.heap.size+1) 2 _ _ (.slice bS s.tout.length c12) (heap_setCell_same _ (w.heap.size+1) 1 _ _ (.slice B8 s.tin.length c8) (heap_setCell_same wr (w.heap.size+1) 0 _ _ (.slice Av s.cells.length cv) pz.out));obtain⟨w9,aZ⟩:∃ x,((wr.setCell ⟨w.heap.size+1,0,none⟩ (.slice Av s.cells.length cv)).setCell ⟨w.heap.size+1,1,none⟩ (.slice B8 s.tin.length c8)).setCell ⟨w.heap.size+1,2,none⟩ (.slice bS s.tout.length c12)=x:=⟨_,rfl⟩
    rw[aZ] at hch hh ⊢;have t0:w9.cell? ⟨w.heap.size+1,0,none⟩=some (.slice Av s.cells.length cv):=zc hh (by simp);have t1:w9.cell? ⟨w.heap.size+1,1,none⟩=some (.slice B8 s.tin.length c8):=zc hh (by simp);have t2:w9.cell? ⟨w.heap.size+1,2,none⟩=some (.slice bS s.tout.length c12):=zc hh (by simp);refine bodyPost_ret (v:=.agg #[.slice Av s.cells.length cv,.slice B8 s.tin.length c8,.slice bS s.tout.length c12]) (by simp[results,Tryz.results32,go_sem,t0,t1,t2]) rfl ⟨_,rfl,?_,(zka HB1.out ae.out).trans (hch.below (zka HB1.out ae.out).size fun b e=>by omega)⟩;have hrw:=bO.out.chg hch (fun i b hb e=>by have:=(bO.out.lt i b hb).1;omega);rw[<-rP.out,<-rO.out] at hrw;exact⟨_,_,_,_,rfl,hrw.mono (by omega),HI.out⟩
 ·right
  have au:=HC.out;refine⟨f-1,?_,?_,?_⟩
  ·clear HC au HRW HU ha ae;subst hf;revert hall;revert l0 l3 l4 l7 l8 l9
   decide
  ·have hc:(l8=true->l3=true/\l7=true):=fun h=>(au.2.2.1 h).2;clear HC au HRW HU ha ae hf;revert hall hc;revert l0 l3 l4 l7 l8 l9
   decide +kernel
  intro i hi;have hcase:(i=0/\l0=false)\/(i=3/\l3=false/\l0=true)\/(i=4/\l4=false)\/(i=7/\l7=false/\l4=true/\l3=true)\/(i=8/\l8=false/\l3=true/\l7=true)\/(i=9/\l9=false):=by
   refine of_decide_eq_true ((List.all_eq_true (p:=fun i=>decide ((i=0/\l0=false)\/(i=3/\l3=false/\l0=true)\/(i=4/\l4=false)\/(i=7/\l7=false/\l4=true/\l3=true)\/(i=8/\l8=false/\l3=true/\l7=true)\/(i=9/\l9=false)))).1 ?_ i hi);have hc:(l3=true->l0=true)/\(l7=true->l4=true)/\(l8=true->l3=true/\l7=true):=⟨au.1,au.2.1,fun h=>(au.2.2.1 h).2⟩
   clear HC au HRW HU ha ae hf hi;revert hall hc;revert l0 l3 l4 l7 l8 l9
   decide +kernel
  clear hi hall;subst ha hA;rcases hcase with⟨rfl,rfl⟩|⟨rfl,rfl,rfl⟩|⟨rfl,rfl⟩|⟨rfl,rfl,rfl,rfl⟩|⟨rfl,rfl,rfl,rfl⟩|⟨rfl,rfl⟩
  ·refine wpOp_step rfl (fun K' aG=>?_);have hK:=zh aG;clear aG;(try simp only[zQ]);go_simp;obtain rfl:l3=false:=by
    rcases l3 with _|_
    ·rfl
    ·cases au.1 rfl
   have hsz:=ae.out.size;have hrw:=HRW.out.upd (some .inp) (r:=⟨.slice (some ⟨wr.heap.size,0,none⟩) 0 0,3,1,0,[]⟩) (W':=wr.alloc (.cells #[] 3)) (Chg.of_below (zkd (Below.refl _ _) _)) (znu wr _ hsz) (fun b hb=>.inr (by simp[Value.ownBlock] at hb;omega));rw[r1_0] at hrw;exact hK.out _ _ ⟨true,false,l4,l7,l8,l9,_,v8,v9,v12,v13,v3,b3,(by subst hf;simp;omega),rfl,(by simp only[Act.put,zD,zE,zF]),zh (zkd ae.out _),zh hrw,zh ⟨fun h=>(by cases h),au.2.1,fun h=>(by have:=(au.2.2.1 h).2.1;cases this),au.2.2.2⟩,HU⟩
  ·refine wpOp_step rfl (fun K' aG=>?_);have hK:=zh aG;clear aG;have hsz:=ae.out.size;have hrow:=HRW.out.row (some .inp);change wr.ownsRow w1.heap.size 3 1 v5 0 [] at hrow;refine zlR (by rfl) (.tmp 5) (.tmp 7) (by rfl) w1.heap.size v5 0 [] (by rfl) hrow B s.tin d (by rfl) (HR2.out.later ae.out) HL.out.2.2.1 rfl hsz (fun v' w' ho hg ak=>?_);rw[Nat.zero_add,List.nil_append] at ho;have nZ:Below w1.heap.size w1 w':=ae.out.grown hg hsz (fun g e=>(hrow.lt g e).1);have hrw:=HRW.out.upd (some .inp) (r:=⟨v',3,1,s.tin.length,zkf s.tin⟩) ((Chg.row hg).mono fun b _ hb=>hb) ho (fun b hb=>by
    rcases ak with h5|h5
    ·exact .inl (h5▸hb)
    ·exact .inr (by rw[h5] at hb;injection hb with hb;omega))
   rw[r1_3] at hrw;have uZ:l8=false:=by
    rcases l8 with _|_
    ·rfl
    ·have:=(au.2.2.1 rfl).2.1;cases this
   subst uZ;exact hK.out _ _ ⟨true,true,l4,l7,false,l9,v5,v',v9,v12,v13,v3,b3,(by subst hf;simp;omega),rfl,(by simp only[zQ]),zh nZ,zh hrw,zh ⟨fun _=>rfl,au.2.1,fun h=>(by cases h),au.2.2.2⟩,HU⟩
  ·refine wpOp_step rfl (fun K' aG=>?_);have hK:=zh aG;clear aG;(try simp only[zQ]);go_simp;obtain rfl:l7=false:=by
    rcases l7 with _|_
    ·rfl
    ·cases au.2.1 rfl
   have hsz:=ae.out.size;have hrw:=HRW.out.upd (some .out) (r:=⟨.slice (some ⟨wr.heap.size,0,none⟩) 0 0,3,1,0,[]⟩) (W':=wr.alloc (.cells #[] 3)) (Chg.of_below (zkd (Below.refl _ _) _)) (znu wr _ hsz) (fun b hb=>.inr (by simp[Value.ownBlock] at hb;omega));rw[r1_4] at hrw;exact hK.out _ _ ⟨l0,l3,true,false,l8,l9,v5,v8,_,v12,v13,v3,b3,(by subst hf;simp;omega),rfl,(by simp only[Act.put,zD,zE,zF]),zh (zkd ae.out _),zh hrw,zh ⟨au.1,fun h=>(by cases h),fun h=>(by have:=(au.2.2.1 h).2.2;cases this),au.2.2.2⟩,HU⟩
  ·refine wpOp_step rfl (fun K' aG=>?_);have hK:=zh aG;clear aG;have hsz:=ae.out.size;have hrow:=HRW.out.row (some .out);change wr.ownsRow w1.heap.size 3 1 v9 0 [] at hrow;refine zlR (by rfl) (.tmp 9) (.tmp 11) (by rfl) w1.heap.size v9 0 [] (by rfl) hrow D s.tout e (by rfl) (HR3.out.later ae.out) HL.out.2.2.2 rfl hsz (fun v' w' ho hg ak=>?_);rw[Nat.zero_add,List.nil_append] at ho;have nZ:Below w1.heap.size w1 w':=ae.out.grown hg hsz (fun g e=>(hrow.lt g e).1);have hrw:=HRW.out.upd (some .out) (r:=⟨v',3,1,s.tout.length,zkf s.tout⟩) ((Chg.row hg).mono fun b _ hb=>hb) ho (fun b hb=>by
    rcases ak with h5|h5
    ·exact .inl (h5▸hb)
    ·exact .inr (by rw[h5] at hb;injection hb with hb;omega))
   rw[r1_7] at hrw;have uZ:l8=false:=by
    rcases l8 with _|_
    ·rfl
    ·have:=(au.2.2.1 rfl).2.2;cases this
   subst uZ;exact hK.out _ _ ⟨l0,true,true,true,false,l9,v5,v8,v9,v',v13,v3,b3,(by subst hf;simp;omega),rfl,(by simp only[zQ]),zh nZ,zh hrw,zh ⟨au.1,fun _=>rfl,fun h=>(by cases h),au.2.2.2⟩,HU⟩
  ·refine wpOp_step rfl (fun K' aG=>?_);have hK:=zh aG;clear aG;obtain⟨B8,c8,e8,-,-⟩:=zkb (HRW.out.row (some .inp));change v8=.slice B8 s.tin.length c8 at e8;obtain⟨bS,c12,e12,-,-⟩:=zkb (HRW.out.row (some .out));change v12=.slice bS s.tout.length c12 at e12;subst e8 e12;(try simp only[zQ]);go_simp;exact hK.out _ _ ⟨l0,true,l4,true,true,l9,v5,_,v9,_,_,v3,b3,(by subst hf;simp;omega),rfl,(by simp only[Act.put,zD,zE,zF]),ae,HRW,zh ⟨au.1,au.2.1,fun _=>⟨rfl,rfl,rfl⟩,au.2.2.2⟩,HU⟩
  ·refine wpOp_step rfl (fun K' aG=>?_);have hK:=zh aG;clear aG;obtain rfl:=HU.out rfl;(try simp only[zQ]);go_simp;have hsz:=ae.out.size;have hrw:=HRW.out.upd none (r:=⟨boxV wr.heap.size,26,3,1,[.slice none 0 0,.slice none 0 0,.slice none 0 0]⟩) (W':=wr.alloc (.cells #[.slice none 0 0,.slice none 0 0,.slice none 0 0] 26)) (Chg.of_below (zkd (Below.refl _ _) _)) (zpT wr _ hsz _ _ _ _) (fun b hb=>.inr (by simp[Value.ownBlock] at hb;omega));rw[r1_9] at hrw;exact hK.out _ _ ⟨l0,l3,l4,l7,l8,true,v5,v8,v9,v12,v13,_,wr.heap.size,(by subst hf;simp),rfl,(by simp only[Act.put,zD,zE,zF]),zh (zkd ae.out _),zh hrw,zh ⟨au.1,au.2.1,au.2.2.1,fun _=>rfl⟩,zh (fun h=>(by cases h))⟩
def ShR (W:World) (n0 n1 sz:Nat) (A:Option Addr) (n:Nat):Prop :=
 ∀ k,k<n->∃ q arr ty,A=some ⟨q,0,none⟩/\n0<=q/\q<n1/\W.heap[q]?=some (.cells arr ty (0,0))/\∀ o,o<n*sz->∃ x:Int,arr[o]?=some (.int .i64 x)
def Sh (W:World) (n0 n1 sz:Nat) (A:Option Addr) (ls:List Nat):Prop :=
 ∀ i (hi:i<ls.length),∃ g A' c',A=some ⟨g,0,none⟩/\W.cell? ⟨g,i,none⟩=some (.slice A' ls[i] c')/\ls[i]<=c'/\ShR W n0 n1 sz A' ls[i]
section
variable {W:World} {n0 n1 sz:Nat}
theorem znN {q o:Nat} {arr:Array Value} {ty:TypeId} {x y:Int} (hq:W.heap[q]?=some (.cells arr ty (0,0))) (hx:arr[o]?=some (.int .i64 x)) {g i:Nat} {A:Option Addr} {n c:Nat} (h:W.cell? ⟨g,i,none⟩=some (.slice A n c)):(W.setCell ⟨q,o,none⟩ (.int .i64 y)).cell? ⟨g,i,none⟩=some (.slice A n c):=by
 by_cases e:g=q
 ·subst e;have h2:=heap_setCell_same W g o _ _ (.int .i64 y) hq;have h3:arr[i]?=some (.slice A n c):=by have h4:=h;simp only[World.cell?,hq] at h4;simpa using h4
  refine zc h2 ?_;by_cases e2:o=i
  ·subst e2;rw[hx] at h3;cases h3
  ·simp[Array.getElem?_setIfInBounds,e2,h3]
 ·exact zkG h (heap_setCell_other W ⟨q,o,none⟩ g _ e)
theorem ShR.set {q o:Nat} {arr:Array Value} {ty:TypeId} {x y:Int} (hq:W.heap[q]?=some (.cells arr ty (0,0))) (hx:arr[o]?=some (.int .i64 x)) {A:Option Addr} {n:Nat} (h:ShR W n0 n1 sz A n):ShR (W.setCell ⟨q,o,none⟩ (.int .i64 y)) n0 n1 sz A n:=fun k hk=>by
 obtain⟨p,ar,tp,e1,e2,e3,e4,e5⟩:=h k hk;by_cases e:p=q
 ·subst e;rw[hq] at e4;injection e4 with e4;injection e4 with e4 e6;subst e4 e6;refine⟨p,_,_,e1,e2,e3,heap_setCell_same W p o _ _ (.int .i64 y) hq,fun j hj=>?_⟩;obtain⟨z,hz⟩:=e5 j hj;by_cases e7:o=j
  ·subst e7;have hlt:o<arr.size:=(Array.getElem?_eq_some_iff.1 hz).1;exact⟨y,by simp[Array.getElem?_setIfInBounds,hlt]⟩
  ·exact⟨z,by simp[Array.getElem?_setIfInBounds,e7,hz]⟩
 ·exact⟨p,ar,tp,e1,e2,e3,(heap_setCell_other W ⟨q,o,none⟩ p _ e).trans e4,e5⟩
theorem Sh.set {q o:Nat} {arr:Array Value} {ty:TypeId} {x y:Int} (hq:W.heap[q]?=some (.cells arr ty (0,0))) (hx:arr[o]?=some (.int .i64 x)) {A:Option Addr} {ls:List Nat} (h:Sh W n0 n1 sz A ls):Sh (W.setCell ⟨q,o,none⟩ (.int .i64 y)) n0 n1 sz A ls:=fun i hi=>by
 obtain⟨g,A',c',e1,e2,e3,e4⟩:=h i hi;exact⟨g,A',c',e1,znN hq hx e2,e3,e4.set hq hx⟩
theorem ShR.later {W':World} {A:Option Addr} {n:Nat} (h:ShR W n0 n1 sz A n) (hb:Below W.heap.size W W'):ShR W' n0 n1 sz A n:=fun k hk=>by
 obtain⟨p,ar,tp,e1,e2,e3,e4,e5⟩:=h k hk;exact⟨p,ar,tp,e1,e2,e3,zkc e4 hb,e5⟩
theorem Sh.later {W':World} {A:Option Addr} {ls:List Nat} (h:Sh W n0 n1 sz A ls) (hb:Below W.heap.size W W'):Sh W' n0 n1 sz A ls:=fun i hi=>by
 obtain⟨g,A',c',e1,e2,e3,e4⟩:=h i hi;exact⟨g,A',c',e1,zb hb e2,e3,e4.later hb⟩
theorem zpj {E:TypeId} {A:Option Addr} {n c:Nat} {xs:List Value} (h:W.ownsRow n0 E sz (.slice A n c) n xs) (hn:n1=W.heap.size) (hs:0<sz) (hx:∀ o,o<n*sz->∃ x:Int,xs[o]?=some (.int .i64 x)):ShR W n0 n1 sz A n:=fun k hk=>by
 rcases h.2 with⟨e1,e2⟩|⟨g,cap,cur,e,hb,hg,-⟩
 ·omega
 ·injection e with e;subst e;have hlt:=zko hg;refine⟨g,cur,E,rfl,hb,by omega,hg,fun o ho=>?_⟩;obtain⟨x,hx⟩:=hx o ho;have h5:=h.cellAt o (by have:0<n*sz:=Nat.mul_pos (by omega) hs;omega);simp only[World.cell?,hg] at h5;exact⟨x,by rw[<-hx];simpa using h5⟩
theorem zrJ (l:List CH) (o:Nat) (ho:o<l.length*4):∃ x:Int,(zk3 l)[o]?=some (.int .i64 x):=by
 have h:=zmK l (o / 4) (o % 4) (by omega) (by omega);rw[show o / 4*4+o % 4=o by omega] at h;rw[h];have h4:o % 4<4:=Nat.mod_lt _ (by decide);rcases hm:o % 4 with _|_|_|_|m
 ·exact⟨_,rfl⟩
 ·exact⟨_,rfl⟩
 ·exact⟨_,rfl⟩
 ·exact⟨_,rfl⟩
 ·omega
end
def znR (W:World) (n0:Nat) (v:Value) (es:List (List CH)):Prop :=
 ∃ xs,W.ownsRow n0 55 1 v es.length xs/\∀ i (hi:i<es.length),∃ A c,xs[i]?=some (.slice A es[i].length c)/\DiR n0 W (.slice A es[i].length c) es[i]/\∀ b,(Value.slice A es[i].length c).ownBlock=some b->v.ownBlock≠some b
theorem znR.push {W W4 W5:World} {n0 m:Nat} {v v' dv:Value} {es:List (List CH)} {e:List CH} {xs:List Value} (q1:W.ownsRow n0 55 1 v es.length xs)
  (q3:∀ i (hi:i<es.length),∃ A c,xs[i]?=some (.slice A es[i].length c)/\DiR n0 W (.slice A es[i].length c) es[i]/\∀ b,(Value.slice A es[i].length c).ownBlock=some b->v.ownBlock≠some b)
  (hb4:Below W.heap.size W W4) (hd:DiR m W4 dv e) (hm:W.heap.size<=m) (hn:n0<=W.heap.size)
  (ho:W5.ownsRow n0 55 1 v' (es.length+1) (xs++[dv])) (hg:W4.grownBy W5 v.ownBlock) (ak:v'.ownBlock=v.ownBlock\/v'.ownBlock=some W4.heap.size):znR W5 n0 v' (es++[e]):=by
 have hs4:=hb4.size;have hlt:∀ b,v.ownBlock=some b->b<W.heap.size:=fun b hb=>(q1.lt b hb).2;have hkeep:∀ q,q<W4.heap.size->v.ownBlock≠some q->W5.heap[q]?=W4.heap[q]?:=fun q h0 h1=>hg.block q h0 (fun e=>h1 e.symm);have hne:∀ q,q<W4.heap.size->v.ownBlock≠some q->v'.ownBlock≠some q:=fun q hq h1 e=>by
  rcases ak with e1|e1
  ·exact h1 (e1▸e)
  ·rw[e1] at e;injection e with e;omega
 refine⟨xs++[dv],by rw[List.length_append];exact ho,fun i hi=>?_⟩;rw[List.length_append] at hi;by_cases hi2:i<es.length
 ·obtain⟨A,c,r1,r2,r3⟩:=q3 i hi2;rw[List.getElem_append_left hi2];have hl2:∀ b,(Value.slice A es[i].length c).ownBlock=some b->b<W4.heap.size:=fun b hb=>Nat.lt_of_lt_of_le (r2.1.lt b hb).2 hs4;refine⟨A,c,?_,⟨zlo (zkt r2.1 hb4) fun b hb=>hkeep b (hl2 b hb) (r3 b hb),r2.2⟩,fun b hb=>hne b (hl2 b hb) (r3 b hb)⟩;rw[List.getElem?_append_left (by have:=(List.getElem?_eq_some_iff.1 r1).1;exact this)];exact r1
 ·obtain rfl:i=es.length:=by simp at hi;omega
  obtain⟨A,c,rfl,-⟩:=hd.rowC;have hxl:xs.length=es.length:=by have:=q1.1;simpa using this
  rw[List.getElem_append_right (Nat.le_refl _)];simp only[Nat.sub_self,List.getElem_cons_zero];have qY:∀ b,(Value.slice A e.length c).ownBlock=some b->v.ownBlock≠some b:=fun b hb e2=>by have:=(hd.1.lt b hb).1;have:=hlt b e2;omega
  exact⟨A,c,by rw[List.getElem?_append_right (by omega),hxl,Nat.sub_self];rfl,⟨zlO (zlo hd.1 fun b hb=>hkeep b (hd.1.lt b hb).2 (qY b hb)) (by omega),hd.2⟩,fun b hb=>hne b (hd.1.lt b hb).2 (qY b hb)⟩
theorem znR.nil (W:World) (n0:Nat):znR W n0 (.slice none 0 0) []:=⟨[],World.ownsRow_nil _ _ _ _,fun i hi=>by simp at hi⟩
theorem znR.rowE {W:World} {n0:Nat} {v:Value} {es:List (List CH)} (h:znR W n0 v es):∃ A c,v=.slice A es.length c/\es.length<=c/\RowE W Any A es/\Sh W n0 W.heap.size 4 A (es.map (·.length)):=by
 obtain⟨xs,h1,h2⟩:=h;obtain⟨A,c,rfl,hc,-⟩:=zkb h1;have key:∀ i (hi:i<es.length),∃ g,A=some ⟨g,0,none⟩/\W.cell? ⟨g,i,none⟩=xs[i]?:=fun i hi=>by
  rcases h1.2 with⟨e1,e2⟩|⟨g,cap,cur,e,hb,hg,-⟩
  ·omega
  ·injection e with e;exact⟨g,e,by subst e;exact h1.cellAt i (by omega)⟩
 refine⟨A,c,rfl,hc,fun i hi=>?_,fun i hi=>?_⟩
 ·obtain⟨g,e1,e2⟩:=key i hi;obtain⟨A',c',r1,r2,-⟩:=h2 i hi;obtain⟨A2,c2,e3,e4,e5⟩:=r2.rowC;injection e3 with e3 _ e6;subst e3 e6;exact⟨_,A',c',e1,trivial,by rw[Addr.add_lit,Nat.zero_add,e2,r1],e4,e5.keep (fun _ _ _=>trivial) fun _ _ _=>rfl⟩
 ·rw[List.length_map] at hi;obtain⟨g,e1,e2⟩:=key i hi;obtain⟨A',c',r1,r2,-⟩:=h2 i hi;obtain⟨A2,c2,e3,e4,e5⟩:=r2.rowC;injection e3 with e3 _ e6;subst e3 e6;rw[List.getElem_map];exact⟨g,A',c',e1,by rw[e2,r1],e4,zpj r2.1 rfl (by decide) fun o ho=>zrJ _ o ho⟩
theorem OwnS.sh {W:World} {n0:Nat} {s:SS} {v:Value} (h:OwnS W n0 s v):∃ A c B d D e,v=.agg #[.slice A s.cells.length c,.slice B s.tin.length d,.slice D s.tout.length e]/\Sh W n0 W.heap.size 1 A (s.cells.map (·.length))/\ShR W n0 W.heap.size 1 B s.tin.length:=by
 obtain⟨vc,vi,vo,fc,rfl,hr,-⟩:=h;obtain⟨A,c,e1,-⟩:=zkb (hr.row .all);obtain⟨B,d,e2,-⟩:=zkb (hr.row .inp);obtain⟨D,e,e3,-⟩:=zkb (hr.row .out);change vc=.slice A s.cells.length c at e1;change vi=.slice B s.tin.length d at e2;change vo=.slice D s.tout.length e at e3;subst e1 e2 e3;have hfi:∀ (l:List Int) o,o<l.length*1->∃ x:Int,(zkf l)[o]?=some (.int .i64 x):=fun l o ho=>⟨l[o]'(by omega),by simp[zkf]⟩
 refine⟨A,c,B,d,D,e,rfl,fun i hi=>?_,zpj (hr.row .inp) rfl (by decide) (hfi _)⟩;rw[List.length_map] at hi;have hel:=hr.row (.el i);simp only[zlN,if_pos hi] at hel;have hgd:s.cells.getD i []=s.cells[i]:=by rw[List.getD_eq_getElem?_getD,List.getElem?_eq_getElem hi];rfl
 rw[hgd] at hel;obtain⟨A',c',e1,e2,-⟩:=zkb hel;rw[e1] at hel;have hall:=hr.row .all;rcases hall.2 with⟨e3,e4⟩|⟨g,cap,cur,e3,hb,hg,-⟩
 ·change s.cells.length=0 at e4;omega
 ·injection e3 with e3;have h5:=hr.cell .all (g:=g) (by show(Value.slice A _ c).ownBlock=_;rw[e3];rfl) (o:=i) (u:=fc i) (by simp[zlN,hi]);rw[List.getElem_map];exact⟨g,A',c',e3,by rw[h5,e1],e2,zpj hel rfl (by decide) (hfi _)⟩
theorem Sh.mono {W:World} {n0 m0 n1 sz:Nat} {A:Option Addr} {ls:List Nat} (h:Sh W n0 n1 sz A ls) {m1:Nat} (h0:m0<=n0) (h1:n1<=m1):Sh W m0 m1 sz A ls:=fun i hi=>by
 obtain⟨g,A',c',e1,e2,e3,e4⟩:=h i hi;refine⟨g,A',c',e1,e2,e3,fun k hk=>?_⟩;obtain⟨p,ar,tp,f1,f2,f3,f4,f5⟩:=e4 k hk;exact⟨p,ar,tp,f1,by omega,by omega,f4,f5⟩
structure SpW (w9 wr:World) (nc n1 ob:Nat) (A1:Option Addr) (l1:List Nat) (A2:Option Addr) (l2:List Nat) (c2:Nat):Prop where
 chg:Chg (fun q=>nc<=q/\q<n1) w9 wr
 m:Sh wr nc n1 4 A1 l1
 o:Sh wr nc n1 1 A2 l2
 bx:wr.cell? ⟨ob,0,none⟩=some (.slice A2 l2.length c2)
theorem SpW.set {w9 wr:World} {nc n1 ob:Nat} {A1:Option Addr} {l1:List Nat} {A2:Option Addr} {l2:List Nat} {c2 q o:Nat} {arr:Array Value} {ty:TypeId} {x:Int} (h:SpW w9 wr nc n1 ob A1 l1 A2 l2 c2) (hq:wr.heap[q]?=some (.cells arr ty (0,0))) (hx:arr[o]?=some (.int .i64 x)) (h1:nc<=q) (h2:q<n1) (y:Int):SpW w9 (wr.setCell ⟨q,o,none⟩ (.int .i64 y)) nc n1 ob A1 l1 A2 l2 c2 :=
 ⟨h.chg.setCell (.inl ⟨h1,h2⟩) _,h.m.set hq hx,h.o.set hq hx,znN hq hx h.bx⟩
theorem znm {ops:Array Oper} {rest:List Oper} {o:Oper} {a:Act} {W:World} {Q:Exit->Act->World->Prop} (hgd:o.guard=none) (s x:Operand)
  (ho:o.op=.call { callee:=.builtin .append,args := #[s,x],argTypes := #[55,55] }) (base:Nat) (v:Value) (n:Nat) (xs:List Value) (hs:a.eval s=v) (hrow:W.ownsRow base 64 4 v n xs)
  (A:Option Addr) (l:List CH) (c:Nat) (hx:a.eval x=.slice A l.length c) (hr:RowC W Any A l) (hl:n+l.length<=1000000) (hb:base<=W.heap.size)
  (h:∀ v' w',w'.ownsRow base 64 4 v' (n+l.length) (xs++zk3 l)->W.grownBy w' v.ownBlock->(v'.ownBlock=v.ownBlock\/v'.ownBlock=some W.heap.size)->wpList Tryz.prog ops Q rest (a.put o.dst v') w') :
  wpList Tryz.prog ops Q (o::rest) a W:=by
 obtain⟨i,hi,hz0,hz1,hz2⟩:=info_parts zo6;rcases A with _|ad
 ·have hl0:l=[]:=by
   rcases l with _|⟨y,l⟩
   ·rfl
   ·obtain⟨_,h0,_⟩:=hr 0 (by simp);cases h0
  subst hl0;refine wpList_plain hgd fun K hK=>?_;have hrun:(Builtin.append_ #[55,55] o.type #[v,.slice none 0 c]).run Tryz.prog W=.ok v W:=by
   rcases hrow.2 with⟨rfl,h0⟩|⟨g,cap,cur,rfl,_,_,hnc,_⟩
   ·simp[Builtin.append_,run_underlying Tryz.underlying55,sizeOf,typeInfo,hi,Builtin.lenOf,Builtin.firstCells]
   ·simp[Builtin.append_,run_underlying Tryz.underlying55,sizeOf,typeInfo,hi,Builtin.lenOf,Builtin.firstCells,hnc,storeCells]
  unfold Oper.wp execOp;simp only[ho,resolve,invoke,builtin,Sem.run_bind,Sem.run_pure,Result.andThen_ok,List.map_toArray,List.map_cons,List.map_nil,hs,hx,List.length_nil,hrun];exact hK _ _ (h v W (by simpa[zk3] using hrow) (zmF _ _) (.inl rfl))
 ·obtain⟨h1,h2⟩:=hr.news;exact wpList_append_own_at (P:=Tryz.prog) _ hgd s x 55 ho base 64 i _ 4 32 Tryz.underlying55 hi hz0 hz1 hz2 rfl (by decide) v n xs hs hrow ad l.length c (zk3 l) hx (znD l) h1 h2 (by unfold maxLen;omega) (by omega) hb (fun v' w' h1 h2 _ h4=>h v' w' h1 h2 h4)
theorem znk {ops:Array Oper} {rest:List Oper} {o:Oper} {a:Act} {W:World} {Q:Exit->Act->World->Prop} (hgd:o.guard=none) (s x:Operand)
  (ho:o.op=.call { callee:=.builtin .append,args := #[s,x],argTypes := #[45,45] }) (base:Nat) (v:Value) (n:Nat) (xs:List Value) (hs:a.eval s=v) (hrow:W.ownsRow base 55 1 v n xs)
  (b:Nat) (y:Value) (hy:y.oneCell'=true) (hx:a.eval x=.slice (some ⟨b,0,none⟩) 1 1) (hc:W.cell? ⟨b,0,none⟩=some y) (hl:n+1<=1000000) (hb:base<=W.heap.size)
  (h:∀ v' w',w'.ownsRow base 55 1 v' (n+1) (xs++[y])->W.grownBy w' v.ownBlock->(v'.ownBlock=v.ownBlock\/v'.ownBlock=some W.heap.size)->wpList Tryz.prog ops Q rest (a.put o.dst v') w') :
  wpList Tryz.prog ops Q (o::rest) a W:=by
 obtain⟨i,hi,hz0,hz1,hz2⟩:=info_parts zrO;refine wpList_append_own_at (P:=Tryz.prog) _ hgd s x 45 ho base 55 i _ 1 24 Tryz.underlying45 hi hz0 hz1 hz2 rfl (by decide) v n xs hs hrow ⟨b,0,none⟩ 1 1 [y] hx (by simp) (fun j u hj=>?_) (fun u hu=>?_) (by unfold maxLen;omega) (by omega) hb (fun v' w' h1 h2 _ h4=>h v' w' h1 h2 h4)
 ·rw[Addr.add_lit,Nat.zero_add];rcases j with _|j
  ·rw[hc];simpa using hj
  ·simp at hj
 ·simp only[List.mem_singleton] at hu;subst hu;exact hy
end Go.Proofs.YtckhofdinldhpaaGreat
