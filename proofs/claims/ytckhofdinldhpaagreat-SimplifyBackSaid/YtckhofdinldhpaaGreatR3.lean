/-
  Texts of the proof, put together without their remarks: Sp, Cal, Sn, Sv.
-/
import Derived.Test.YtckhofdinldhpaaGreatR2
import Derived.IntWalk
import Derived.BigQuiet
set_option linter.unusedSimpArgs false
set_option linter.unusedVariables false
set_option maxHeartbeats 8000000
set_option maxRecDepth 100000
namespace Go.Proofs.YtckhofdinldhpaaGreat
open Go Go.RowKit
theorem zKi (a0 a1:Value) (w:World) (h0:∃ A l c,a0=.slice A l c) (h1:∃ A l c,a1=.slice A l c):(Instr.build 148 #[(0,a0),(1,a1)]).run Tryz.prog w=.ok (.agg #[a0,a1]) w:=by
 obtain⟨A,l,c,rfl⟩:=h0;obtain⟨A',l',c',rfl⟩:=h1
 kernel_rfl
theorem zyO (xs ys:List Int) (A B:Option Addr) (c d:Nat) (w:World) (hx:RowI w Any A xs) (hy:RowI w Any B ys) (hl:xs.length<=4096) (hm:ys.length<=4096) :
  Calls Tryz.prog 47 #[.slice A xs.length c,.slice B ys.length d] w fun e w'=>∃ tb vI vO,e=.returned (.tuple #[.pointer (some ⟨tb,0,none⟩),.int .i64 0])/\w.heap.size<=tb/\w'.heap[tb]?=some (.cells #[vI,vO] 148 (0,0)) /\
   w'.ownsRow w.heap.size 3 1 vI xs.length (zkj xs)/\w'.ownsRow w.heap.size 3 1 vO ys.length (zkj ys)/\vI.ownBlock≠some tb/\vO.ownBlock≠some tb/\(∀ b,vI.ownBlock=some b->vO.ownBlock≠some b)/\Below w.heap.size w w':=by
 have hxl:¬ (4096:Int)<(xs.length:Int):=by omega
 have hyl:¬ (4096:Int)<(ys.length:Int):=by omega
 have HX:=zh (fun w' (hb:Below w.heap.size w w')=>zk2 xs A c Any w' (hx.later hb) (by unfold LI;omega));have HY:=zh (fun w' (hb:Below w.heap.size w w')=>zk2 ys B d Any w' (hy.later hb) (by unfold LI;omega));obtain⟨n,hn⟩:∃ n,xs.length=n:=⟨_,rfl⟩
 obtain⟨m,hm'⟩:∃ m,ys.length=m:=⟨_,rfl⟩
 rw[hn,hm'];rw[hn] at hxl HX;rw[hm'] at hyl HY;have HN:=zh hn;have HM:=zh hm';clear hx hy hn hm' hl hm;go_enter Tryz.func47,Tryz.ntmps47;go_wp2_with fail;refine(HX.out _ (Below.refl _ _)).mono ?_;rintro e w1 ⟨v1,rfl,ho1,hf1,aa⟩;rw[HN.out] at ho1;obtain⟨A1,c1,rfl,-⟩:=zkm ho1;have HO1:=zh ho1;have HB1:=zh aa;clear ho1 aa;go_wp2_with fail;refine(HY.out _ HB1.out).mono ?_;rintro e w2 ⟨v2,rfl,ho2,hf2,ag⟩;rw[HM.out] at ho2;obtain⟨A2,c2,rfl,-⟩:=zkm ho2;have xD:=zh ho2;have HB2:=zh ag;have hbt:=fun w=>zKi (.slice A1 n c1) (.slice A2 m c2) w ⟨_,_,_,rfl⟩ ⟨_,_,_,rfl⟩;clear ho2 ag;go_wp2_with fail;go_ret2;have h1:=zk7 HO1.out HB2.out;have hs1:=HB1.out.size;have hs2:=HB2.out.size;refine⟨w2.heap.size,.slice A1 n c1,.slice A2 m c2,rfl,by omega,heap_alloc_new w2 _,?_,?_,fun e=>?_,fun e=>?_,fun b e1 e2=>?_,zkb (zka HB1.out HB2.out) _⟩
 ·exact h1.alloc _
 ·obtain⟨x1,x2⟩:=xD.out.alloc (.cells #[.slice A1 n c1,.slice A2 m c2] 148);refine⟨x1,?_⟩;rcases x2 with x2|⟨g,cap,cur,y1,y2,y3⟩
  ·exact .inl x2
  ·exact .inr ⟨g,cap,cur,y1,by omega,y3⟩
 ·have:=(h1.lt _ e).2;omega
 ·have:=(xD.out.lt _ e).2;omega
 ·have:=(HO1.out.lt _ e1).2;have:=(xD.out.lt _ e2).1;omega
theorem zKz {W:World} {n0:Nat} {P:Ph} {S:ST} (h:SR W n0 P S):Calls Tryz.prog 63 #[.pointer (some ⟨P.tb,0,none⟩)] W (OwnI W S.tin):=by
 obtain⟨A,c,hv,hc,hr⟩:=zsv (h.rws.row .tin) h.wf.tin.2;have hv':P.vI=.slice A S.tin.length c:=hv;have x0:W.cell? ⟨P.tb,0,none⟩=some (.slice A S.tin.length c):=by rw[<-hv'];exact zc h.tbox rfl
 have HC:=zh (zk2 S.tin A c Any W hr (by have:=h.wf.tin.1;unfold LI;omega));obtain⟨n,hn⟩:∃ n,S.tin.length=n:=⟨_,rfl⟩
 rw[hn] at x0 HC;clear h hv hv' hr hn hc;go_enter Tryz.func63,Tryz.ntmps63;go_wp2_with fail;refine HC.out.mono ?_;rintro e w1 ⟨v1,rfl,h1⟩;have H1:=zh h1;obtain⟨A1,c1,rfl,-⟩:=zkm h1.1;clear h1;go_wp2_with fail;go_ret;exact⟨_,rfl,H1.out⟩
theorem zyN {W:World} {n0:Nat} {P:Ph} {S:ST} (h:SR W n0 P S):Calls Tryz.prog 64 #[.pointer (some ⟨P.tb,0,none⟩)] W (OwnI W S.tout):=by
 obtain⟨A,c,hv,hc,hr⟩:=zsv (h.rws.row .tout) h.wf.tout.2;have hv':P.vO=.slice A S.tout.length c:=hv;have x0:W.cell? ⟨P.tb,1,none⟩=some (.slice A S.tout.length c):=by rw[<-hv'];exact zc h.tbox rfl
 have HC:=zh (zk2 S.tout A c Any W hr (by have:=h.wf.tout.1;unfold LI;omega));obtain⟨n,hn⟩:∃ n,S.tout.length=n:=⟨_,rfl⟩
 rw[hn] at x0 HC;clear h hv hv' hr hn hc;go_enter Tryz.func64,Tryz.ntmps64;go_wp2_with fail;refine HC.out.mono ?_;rintro e w1 ⟨v1,rfl,h1⟩;have H1:=zh h1;obtain⟨A1,c1,rfl,-⟩:=zkm h1.1;clear h1;go_wp2_with fail;go_ret;exact⟨_,rfl,H1.out⟩
def zLm (W:World) (S:ST) (s:ByteArray) (e:Ending) (W':World):Prop:=∃ v l b,e=.returned (.tuple #[v,.bool b])/\S.look s=(if b=true then some l else none)/\(b=false->l=[])/\W'.ownsRow W.heap.size 3 1 v l.length (zkj l)/\(∀ x∈l,I64 x)/\Below W.heap.size W W'
theorem zwN {W:World} {n0:Nat} {P:Ph} {S:ST} (h:SR W n0 P S) (s:ByteArray):Calls Tryz.prog 184 #[.pointer (some ⟨P.sb,0,none⟩),.string s] W (zLm W S s):=by
 have vG:=zh (zqh h s);have nM:=zh ((zvD n0 P S h.wf).fits s);clear h;go_enter Tryz.func184,Tryz.ntmps184;go_wp2_with fail;refine vG.out.mono ?_;rintro e w1 ⟨aa,hr⟩;have HB1:=zh aa;clear aa;rcases hr with⟨hno,A,c,rfl⟩|⟨l,A,c,hso,rfl,aU⟩
 ·have bY:=zh hno;have dO:=zh (zk2 [] A c Any w1 (fun i hi=>by simp at hi) (by simp[LI]));clear hno;simp only[List.length_nil] at dO;go_wp2_with fail;refine dO.out.mono ?_;rintro e w2 ⟨v2,rfl,ho2,hf2,ag⟩;obtain⟨A2,c2,rfl,-⟩:=zkm ho2;have HO:=zh ho2;have HB2:=zh ag;clear ho2 ag;go_wp2_with fail;go_ret2;refine⟨.slice A2 0 c2,[],false,rfl,bY.out,fun _=>rfl,?_,by simp,zka HB1.out HB2.out⟩;obtain⟨x1,x2⟩:=HO.out;refine⟨x1,?_⟩;rcases x2 with x2|⟨g,cap,cur,y1,y2,y3⟩
  ·exact .inl x2
  ·exact .inr ⟨g,cap,cur,y1,by have:=HB1.out.size;omega,y3⟩
 ·have hll:=nM.out l hso;have kY:=zh hso;have dO:=zh (zk2 l A c Any w1 aU (by unfold LI;omega));clear hso aU;go_wp2_with fail;refine dO.out.mono ?_;rintro e w2 ⟨v2,rfl,ho2,hf2,ag⟩;obtain⟨A2,c2,rfl,-⟩:=zkm ho2;have HO:=zh ho2;have lF:=zh hf2;have HB2:=zh ag;clear ho2 ag hf2;go_wp2_with fail;go_ret2;refine⟨.slice A2 l.length c2,l,true,rfl,kY.out,(fun h=>by cases h),?_,lF.out,zka HB1.out HB2.out⟩;obtain⟨x1,x2⟩:=HO.out;refine⟨x1,?_⟩;rcases x2 with x2|⟨g,cap,cur,y1,y2,y3⟩
  ·exact .inl x2
  ·exact .inr ⟨g,cap,cur,y1,by have:=HB1.out.size;omega,y3⟩
structure SStp (n0:Nat) (P:Ph) (S:ST) (W:World) (P':Ph) (S':ST) (W':World):Prop where
 st:Stp n0 (rows P S) W (rows P' S') W'
 wf:S'.WF
theorem SStp.sr {n0:Nat} {P P':Ph} {S S':ST} {W W':World} (h:SStp n0 P S W P' S' W'):SR W' n0 P' S':=⟨h.st.rws,h.wf⟩
theorem SStp.trans {n0:Nat} {P P' P'':Ph} {S S' S'':ST} {W W' W'':World} (h:SStp n0 P S W P' S' W') (h':SStp n0 P' S' W' P'' S'' W''):SStp n0 P S W P'' S'' W'':=⟨h.st.trans h'.st,h'.wf⟩
theorem SStp.refl {n0:Nat} {P:Ph} {S:ST} {W W':World} (h:SR W n0 P S) (hb:Below W.heap.size W W'):SStp n0 P S W P S W':=⟨(Stp.refl h.rws).below hb,h.wf⟩
theorem zm4 (w:World) (n0:Nat):w.ownsRow n0 nilR.E nilR.sz nilR.v nilR.n nilR.xs:=⟨rfl,.inl ⟨rfl,rfl⟩⟩
theorem Stp.drop {I:Type} [DecidableEq I] {n0:Nat} {d:I->RowD} {W:World} (h:Rws W n0 d) (i:I):Stp n0 d W (updR d i nilR) W :=
 Stp.upd h (Chg.refl _ _) (zm4 W n0) (fun b hb=>by simp[nilR,Value.ownBlock] at hb)
theorem zlN {P P':Ph} (h1:P'.fV=P.fV) (h2:P'.fC=P.fC):∀ (fs:List FR) (i:Nat),zk4 P' i fs=zk4 P i fs
 | [],_=>rfl
 | f::fs,i=>by simp[zk4,h1,h2,zlN h1 h2 fs]
theorem zqr (P:Ph):∀ (fs:List FR) (i m:Nat),(zk4 P i fs).take (m*3)=zk4 P i (fs.take m)
 | [],i,m=>by simp[zk4]
 | f::fs,i,0=>by simp[zk4]
 | f::fs,i,m+1=>by
  rw[show(m+1)*3=m*3+1+1+1 by omega];simp only[zk4,List.take_succ_cons,zqr P fs (i+1) m]
def zla (S:ST):Int×ST:=if S.calls.length=0\/0<S.cur.loc then (20,S) else (0,{ S with calls:=S.calls.take (S.calls.length-1) })
theorem zt5 {S:ST} (h:S.WF):({ S with calls:=S.calls.take (S.calls.length-1) }:ST).WF:=by
 obtain⟨kd,h1,h2,h3⟩:=h.ex;exact⟨⟨kd,h1,fun f hf=>h2 f (List.mem_of_mem_take hf),h3⟩,by have:=h.ncalls;simp;omega,h.cells,h.tin,h.tout⟩
theorem zus {W:World} {n0:Nat} {P:Ph} {S:ST} (h:SR W n0 P S) (m c:Nat) (hm:S.calls.length=m+1) (hv:P.vF=.slice (some ⟨P.gF,0,none⟩) (m+1) c) :
  SStp n0 P S W { P with vF:=.slice (some ⟨P.gF,0,none⟩) m c } { S with calls:=S.calls.take (S.calls.length-1) } (W.setCell ⟨P.sb,3,none⟩ (.slice (some ⟨P.gF,0,none⟩) m c)):=by
 refine⟨?_,zt5 h.wf⟩;have hrow:W.ownsRow n0 92 3 P.vF S.calls.length (zk4 P 0 S.calls):=h.rws.row .calls;have mq:W.ownsRow n0 92 3 (.slice (some ⟨P.gF,0,none⟩) m c) m (zk4 P 0 (S.calls.take m)):=by
  rw[hv,hm] at hrow;have e1:zk4 P 0 S.calls=zk4 P 0 (S.calls.take m)++(zk4 P 0 S.calls).drop (m*3):=by rw[<-zqr,List.take_append_drop]
  rw[e1] at hrow;exact ownsRow_pop (by rw[zpE];simp[hm]) hrow
 have st1:Stp n0 (rows P S) W (updR (rows P S) .calls ⟨.slice (some ⟨P.gF,0,none⟩) m c,92,3,m,zk4 P 0 (S.calls.take m)⟩) W :=
  Stp.upd h.rws (Chg.refl _ _) mq (fun b hb=>.inl (by show P.vF.ownBlock=some b;rw[hv];exact hb))
 have st2:=Stp.set (i:=Res.sb) st1.rws (g:=P.sb) (by rw[zko (by simp)];rfl) (o:=3) (by rw[zko (by simp)];simp[rows]) (.slice (some ⟨P.gF,0,none⟩) m c);have st3:=Stp.drop st2.rws (Res.fv m);have st4:=Stp.drop st3.rws (Res.fc m);refine(((st1.trans st2).trans st3).trans st4).cast ?_;have hm1:S.calls.length-1=m:=by omega
 funext r
 cases r with
 | fv i =>
  by_cases e:i=m
  ·subst e;have h2:(S.calls.take (S.calls.length-1))[i]?=none:=List.getElem?_eq_none (by rw[List.length_take];omega);simp[updR,rows,nilR,h2]
  ·simp only[updR,Res.fv.injEq,e,reduceCtorEq,if_false,rows,hm1];by_cases hi:i<m
   ·simp[hi]
   ·have h1:S.calls[i]?=none:=List.getElem?_eq_none (by omega);have h2:(S.calls.take m)[i]?=none:=List.getElem?_eq_none (by rw[List.length_take];omega);rw[h1,h2]
 | fc i =>
  by_cases e:i=m
  ·subst e;have h2:(S.calls.take (S.calls.length-1))[i]?=none:=List.getElem?_eq_none (by rw[List.length_take];omega);simp[updR,rows,nilR,h2]
  ·simp only[updR,Res.fc.injEq,e,reduceCtorEq,if_false,rows,hm1];by_cases hi:i<m
   ·simp[hi]
   ·have h1:S.calls[i]?=none:=List.getElem?_eq_none (by omega);have h2:(S.calls.take m)[i]?=none:=List.getElem?_eq_none (by rw[List.length_take];omega);rw[h1,h2]
 | calls =>
  simp only[updR,reduceCtorEq,if_false,if_true,rows,hm1];simp only[List.length_take,hm];rw[zlN (P:=P) (P':={ P with vF:=.slice (some ⟨P.gF,0,none⟩) m c }) rfl rfl];simp
 | sb=>simp[updR,rows]
 | tb=>simp[updR,rows]
 | tin=>simp[updR,rows]
 | tout=>simp[updR,rows]
 | bv=>simp[updR,rows]
 | bc=>simp[updR,rows]
 | cb i=>simp[updR,rows]
 | ci i=>simp[updR,rows]
 | x i=>simp[updR,rows]
theorem zwR {W:World} {n0:Nat} {P:Ph} {S:ST} (h:SR W n0 P S):Calls Tryz.prog 188 #[.pointer (some ⟨P.sb,0,none⟩)] W fun e W'=>e=.returned (.int .i64 (zla S).1)/\∃ P',SStp n0 P S W P' (zla S).2 W'/\P'.sb=P.sb:=by
 obtain⟨A,c,lQ,hc,h2⟩:=h.calls;have hx:W.cell? ⟨P.sb,3,none⟩=some (.slice A S.calls.length c):=by rw[<-lQ];exact zc h.box rfl
 have hfz:W.frozen? ⟨P.sb,3,none⟩=false:=zf h.box;have pV:=h.wf.ncalls;have HS:=zh h;have bV:=zh (zlw h);obtain⟨h3,h4,h5⟩:=h.cur3;obtain⟨L,hL⟩:∃ L,S.calls.length=L:=⟨_,rfl⟩
 obtain⟨lc,hlc⟩:∃ lc,S.cur.loc=lc:=⟨_,rfl⟩
 obtain⟨cp,hcp⟩:∃ cp,curP P S=cp:=⟨_,rfl⟩
 rw[hcp] at h5 bV;rw[hlc] at h5;obtain⟨R,hR⟩:∃ R,zla S=R:=⟨_,rfl⟩
 rw[hR];have HR:=zh (show R=if L=0\/0<lc then (20,S) else (0,{ S with calls:=S.calls.take (S.calls.length-1) }) by rw[<-hR,zla,hL,hlc]);have uZ:=zh lQ;have HL:=zh hL;have H2:=zh h2;rw[hL] at hx pV;rw[hL] at hc;clear h lQ h2 h3 h4 hL hlc hcp hR;rcases Nat.eq_zero_or_pos L with h0|h0
 ·subst h0;have HX:=zh (show R=(20,S) by rw[HR.out,if_pos (.inl rfl)]);clear HR;go_enter Tryz.func188,Tryz.ntmps188;go_wp2_with fail;go_ret;exact⟨by rw[HX.out];rfl,P,by rw[HX.out];exact SStp.refl HS.out (Below.refl _ _),rfl⟩
 ·obtain⟨m,rfl⟩:∃ m,L=m+1:=⟨L-1,by omega⟩
  obtain⟨rfl,-⟩:=H2.out (by rw[HL.out];exact h0);by_cases hl:0<lc
  ·have HX:=zh (show R=(20,S) by rw[HR.out,if_pos (.inr hl)]);have hl':(0:Int)<(lc:Int):=by omega
   clear HR;go_enter Tryz.func188,Tryz.ntmps188;go_wp2_with fail;refine bV.out.mono ?_;rintro e w1 ⟨rfl,rfl⟩;go_wp2_with fail;go_ret;exact⟨by rw[HX.out];rfl,P,by rw[HX.out];exact SStp.refl HS.out (Below.refl _ _),rfl⟩
  ·obtain rfl:lc=0:=by omega
   have HX:=zh (show R=(0,{ S with calls:=S.calls.take (S.calls.length-1) }) by rw[HR.out,if_neg (by omega)]);have oH:=zh (zus (HS.out.later (Below.refl _ _).drew) m c HL.out (by rw[uZ.out,HL.out]));clear HR;go_enter Tryz.func188,Tryz.ntmps188;go_wp2_with fail;refine bV.out.mono ?_;rintro e w1 ⟨rfl,rfl⟩;go_upto_region 5 with fail;have hSS:(fun _:World=>True) w1.drew/\(fun w':World=>w'.cell? ⟨P.sb,3,none⟩=some (.slice (some ⟨P.gF,0,none⟩) (m+1) c)) w1.drew:=⟨trivial,hx⟩
   have hm1:(m:Int)<=(c:Int):=by omega
   have hm0:(0:Int)<=(m:Int):=by omega
   have hw1:IntKind.i64.wrap (m:Int)=(m:Int):=IntWalk.i64_in _ (by omega);refine wp_region_noPanic ?_;refine zkc (fun _:World=>True) (fun w':World=>w'.cell? ⟨P.sb,3,none⟩=some (.slice (some ⟨P.gF,0,none⟩) (m+1) c)) 14 (by kernel_rfl) ?_;refine zT 0 hSS ?_;(try simp only[zQ]);refine zT 1 hSS ?_;(try simp only[zQ]);refine zT 2 hSS ?_;(try simp only[zQ]);refine zT 3 hSS ?_;(try simp only[zQ]);refine zkV (i:=4) (v:=?_) rfl (by kernel_rfl) (by kernel_rfl) (by kernel_rfl) (by decide) rfl (by kernel_rfl) (by kernel_rfl) (fun _ _ _ h=>h) (Or.inl ⟨by rfl,?_⟩) hSS ?_;rotate_left 1
   ·(intro w hSw;(try dsimp only at hSw);(try simp only[zA,zB,zC]);go_simp;(try with_reducible rfl))
   (try simp only[zQ]);refine zT 5 hSS ?_;(try simp only[zQ]);refine zT 6 hSS ?_;(try simp only[zQ]);refine zT 7 hSS ?_;(try simp only[zQ]);refine zkV (i:=8) (v:=?_) rfl (by kernel_rfl) (by kernel_rfl) (by kernel_rfl) (by decide) rfl (by kernel_rfl) (by kernel_rfl) (fun _ _ _ h=>h) (Or.inl ⟨by rfl,?_⟩) hSS ?_;rotate_left 1
   ·(intro w hSw;(try dsimp only at hSw);(try simp only[zA,zB,zC]);go_simp;(try with_reducible rfl))
   (try simp only[zQ]);refine zT 9 hSS ?_;(try simp only[zQ]);refine zT 10 hSS ?_;(try simp only[zQ]);refine zT 11 hSS ?_;(try simp only[zQ]);refine zT 12 hSS ?_;(try simp only[zQ]);refine zT 13 hSS ?_;(try simp only[zQ]);refine zp 14 fun K hK=>?_;(try simp only[zA,zB,zC]);have hx1:w1.drew.cell? ⟨P.sb,3,none⟩=some (.slice (some ⟨P.gF,0,none⟩) (m+1) c):=hx;have hfz1:w1.drew.frozen? ⟨P.sb,3,none⟩=false:=hfz;go_simp;refine hK.out _ _ trivial ?_;clear hK K hSS hx1 hfz1;(try simp only[zQ]);refine zd ?_;refine NoPanic.normal ?_;clear hx hfz;go_wp2_with fail;go_ret;refine⟨by rw[HX.out];rfl,{ P with vF:=.slice (some ⟨P.gF,0,none⟩) m c },?_,rfl⟩;rw[HX.out];exact⟨oH.out.st.after (Below.refl _ _).drew HS.out.rws,oH.out.wf⟩
def ST.setCur (S:ST) (f:FR):ST:=if S.calls.length=0 then { S with base:=f } else { S with calls:=S.calls.set (S.calls.length-1) f }
def hI (S:ST):Res:=if S.calls.length=0 then .sb else .calls
def oI (S:ST):Nat:=if S.calls.length=0 then 0 else (S.calls.length-1)*3
def vI (S:ST):Res:=if S.calls.length=0 then .bv else .fv (S.calls.length-1)
def cI (S:ST):Res:=if S.calls.length=0 then .bc else .fc (S.calls.length-1)
def Ph.setCur (P:Ph) (S:ST) (vv vc:Value):Ph:=if S.calls.length=0 then { P with vV:=vv,vC:=vc } else { P with fV:=fun i=>if i=S.calls.length-1 then vv else P.fV i,fC:=fun i=>if i=S.calls.length-1 then vc else P.fC i }
theorem zrW {P P':Ph} {vv vc:Value} {f:FR}:∀ (fs:List FR) (i j:Nat),j<fs.length->(∀ q,q≠i+j->P'.fV q=P.fV q/\P'.fC q=P.fC q)->P'.fV (i+j)=vv->P'.fC (i+j)=vc ->
  zk4 P' i (fs.set j f)=(((zk4 P i fs).set (j*3) vv).set (j*3+1) vc).set (j*3+2) (.int .i64 f.loc)
 | g::fs,i,0,_,h,h1,h2=>by
  have hr:zk4 P' (i+1) fs=zk4 P (i+1) fs:=by
   have key:∀ (l:List FR) (q:Nat),i<q->zk4 P' q l=zk4 P q l:=by
    intro l
    induction l with
    | nil=>intro q _;rfl
    | cons a l ih=>intro q hq;simp[zk4,(h q (by omega)).1,(h q (by omega)).2,ih (q+1) (by omega)]
   exact key fs (i+1) (by omega)
  simp only[Nat.add_zero] at h1 h2;simp[zk4,h1,h2,hr]
 | g::fs,i,j+1,hj,h,h1,h2=>by
  have ih:=zrW (P:=P) (P':=P') (vv:=vv) (vc:=vc) (f:=f) fs (i+1) j (by simpa using hj) (fun q hq=>h q (by omega)) (by rw[show i+1+j=i+(j+1) by omega];exact h1) (by rw[show i+1+j=i+(j+1) by omega];exact h2);rw[show(j+1)*3=j*3+1+1+1 by omega];simp only[List.set_cons_succ,zk4,(h i (by omega)).1,(h i (by omega)).2,ih]
theorem znL (P:Ph) (S:ST) (f:FR) (vv vc:Value):rows (P.setCur S vv vc) (S.setCur f) =
  updR (updR (updR (rows P S) (vI S) ⟨vv,83,3,f.vs.length,zk5 f.vs⟩) (cI S) ⟨vc,97,1,f.cs.length,ptrs P.cb f.cs⟩) (hI S)
   { rows P S (hI S) with xs:=(((rows P S (hI S)).xs.set (oI S) vv).set (oI S+1) vc).set (oI S+2) (.int .i64 f.loc) }:=by
 by_cases h0:S.calls.length=0
 ·simp only[Ph.setCur,ST.setCur,hI,vI,cI,oI,h0,if_true];have hc:S.calls=[]:=List.length_eq_zero_iff.1 h0;funext r
  cases r<;>simp[updR,rows,hc,zk4]
 ·obtain⟨m,hm⟩:∃ m,S.calls.length=m+1:=⟨S.calls.length-1,by omega⟩
  have hm1:S.calls.length-1=m:=by omega
  simp only[Ph.setCur,ST.setCur,hI,vI,cI,oI,h0,if_false,hm1];funext r
  cases r with
  | calls =>
   have hq:∀ q,q≠0+m->({ P with fV:=fun i=>if i=m then vv else P.fV i,fC:=fun i=>if i=m then vc else P.fC i }:Ph).fV q=P.fV q/\({ P with fV:=fun i=>if i=m then vv else P.fV i,fC:=fun i=>if i=m then vc else P.fC i }:Ph).fC q=P.fC q:=fun q h=>by
    have h':q≠m:=by omega
    simp[h']
   have:=zrW (P:=P) (P':={ P with fV:=fun i=>if i=m then vv else P.fV i,fC:=fun i=>if i=m then vc else P.fC i }) (vv:=vv) (vc:=vc) (f:=f) S.calls 0 m (by omega) hq (by simp) (by simp);simp only[updR,if_true,rows,List.length_set,this]
  | fv i =>
   by_cases e:i=m
   ·subst e;simp[updR,rows,hm]
   ·have e':m≠i:=Ne.symm e;simp[updR,rows,e,e']
  | fc i =>
   by_cases e:i=m
   ·subst e;simp[updR,rows,hm]
   ·have e':m≠i:=Ne.symm e;simp[updR,rows,e,e']
  | sb=>simp[updR,rows]
  | tb=>simp[updR,rows]
  | tin=>simp[updR,rows]
  | tout=>simp[updR,rows]
  | bv=>simp[updR,rows]
  | bc=>simp[updR,rows]
  | cb i=>simp[updR,rows]
  | ci i=>simp[updR,rows]
  | x i=>simp[updR,rows]
def znO (f:FR):VD:=f.vs.getD (f.vs.length-1) ⟨⟨#[]⟩,0,0⟩
def zpv (f:FR):Nat:=f.cs.getD (f.vs.length-1) 0
def FR.pop (f:FR):FR:=⟨f.vs.take (f.vs.length-1),f.cs.take (f.vs.length-1),f.loc-1⟩
def zku (S:ST) (name:ByteArray) (x:Int):Int×ST :=
 if S.cur.loc=0\/((znO S.cur).s.toList==name.toList)=false then (6,S)
 else if ((znO S.cur).k=1/\(S.cell (zpv S.cur)).getD 0 0≠x)\/((znO S.cur).k=3/\0<(S.cell (zpv S.cur)).length) then (16,S)
 else (0,S.setCur S.cur.pop)
theorem ST.WF.cur2 {S:ST} (h:S.WF):∃ kd:Nat->Int×Int,S.cur.WF kd S.nc/\∀ i,i<S.nc->((kd i).1=1->(S.cell i).length=1)/\((kd i).1=2->((S.cell i).length:Int)=(kd i).2)/\((kd i).1=1\/(kd i).1=2\/(kd i).1=3):=by
 obtain⟨kd,h1,h2,h3⟩:=h.ex;refine⟨kd,?_,h3⟩;rcases Nat.eq_zero_or_pos S.calls.length with h0|h0
 ·rw[zmj h0];exact h1
 ·rw[zmC h0];exact h2 _ (List.getElem_mem _)
theorem zrH {S:ST} (h:S.WF) {m:Nat} (hm:m<S.cur.vs.length) (hc:m<S.cur.cs.length) (hk:S.cur.vs[m].k=1):(S.cell S.cur.cs[m]).length=1:=by
 obtain⟨kd,h1,h2⟩:=h.cur2;refine(h2 _ (h1.num _ (List.getElem_mem hc))).1 ?_;rw[h1.kind m hm hc];exact hk
theorem zlO {W:World} {n0:Nat} {P:Ph} {S:ST} (h:SR W n0 P S):curP P S=⟨(curP P S).block,oI S,none⟩/\(rows P S (hI S)).v.ownBlock=some (curP P S).block/\oI S+2<(rows P S (hI S)).xs.length:=by
 by_cases h0:S.calls.length=0
 ·simp[curP,oI,hI,h0,rows,Value.ownBlock]
 ·obtain⟨A,c,hv,_,h2⟩:=h.calls;obtain⟨rfl,-⟩:=h2 (by omega);simp only[curP,oI,hI,h0,if_false,rows];refine⟨by first|rfl|trivial,by rw[hv];rfl,?_⟩;rw[zpE];omega
theorem zvo (cb:Nat->Nat) (cs:List Nat) (m:Nat):ptrs cb (cs.take m)=(ptrs cb cs).take m:=by simp[ptrs]
theorem zqp:∀ (vs:List VD) (m:Nat),zk5 (vs.take m)=(zk5 vs).take (m*3)
 | [],m=>by simp[zk5]
 | v::vs,0=>by simp[zk5]
 | v::vs,m+1=>by
  have:=zqp vs m;rw[show(m+1)*3=m*3+1+1+1 by omega];simp only[zk5,List.take_succ_cons,List.flatMap_cons,List.cons_append,List.nil_append] at *
  rw[this]
theorem zst (P:Ph) (S:ST):rows P S (vI S)=⟨curV P S,83,3,S.cur.vs.length,zk5 S.cur.vs⟩/\rows P S (cI S)=⟨curC P S,97,1,S.cur.cs.length,ptrs P.cb S.cur.cs⟩:=by
 by_cases h0:S.calls.length=0
 ·simp[vI,cI,curV,curC,h0,rows,zmj h0]
 ·have hl:S.calls.length-1<S.calls.length:=by omega
  simp[vI,cI,curV,curC,h0,rows,zmC (show 0<S.calls.length by omega),List.getElem?_eq_getElem hl]
theorem zzU (S:ST):hI S≠vI S/\hI S≠cI S/\vI S≠cI S:=by
 unfold hI vI cI
 split<;>simp
theorem zyq {W:World} {n0:Nat} {P:Ph} {S:ST} (h:SR W n0 P S) (f:FR) (hwf:(S.setCur f).WF) (W2:World) (vv vc:Value)
  (hst:Stp n0 (rows P S) W (updR (updR (rows P S) (vI S) ⟨vv,83,3,f.vs.length,zk5 f.vs⟩) (cI S) ⟨vc,97,1,f.cs.length,ptrs P.cb f.cs⟩) W2) :
  SStp n0 P S W (P.setCur S vv vc) (S.setCur f) (((W2.setCell ⟨(curP P S).block,oI S,none⟩ vv).setCell ⟨(curP P S).block,oI S+1,none⟩ vc).setCell ⟨(curP P S).block,oI S+2,none⟩ (.int .i64 f.loc)):=by
 refine⟨?_,hwf⟩;obtain⟨_,hb,ho⟩:=zlO h;obtain⟨n1,n2,_⟩:=zzU S;have hd:updR (updR (rows P S) (vI S) ⟨vv,83,3,f.vs.length,zk5 f.vs⟩) (cI S) ⟨vc,97,1,f.cs.length,ptrs P.cb f.cs⟩ (hI S)=rows P S (hI S):=by rw[zko n2,zko n1]
 have s1:=Stp.set (i:=hI S) hst.rws (g:=(curP P S).block) (by rw[hd];exact hb) (o:=oI S) (by rw[hd];omega) vv;rw[hd] at s1;have s2:=Stp.set (i:=hI S) s1.rws (g:=(curP P S).block) (by rw[zkF];exact hb) (o:=oI S+1) (by rw[zkF];simp;omega) vc;rw[zkF] at s2;have s3:=Stp.set (i:=hI S) s2.rws (g:=(curP P S).block) (by rw[zkF];exact hb) (o:=oI S+2) (by rw[zkF];simp;omega) (.int .i64 f.loc);rw[zkF] at s3;refine((((hst.trans s1).trans s2).trans s3)).cast ?_;rw[znL];funext r;by_cases e:r=hI S
 ·subst e;simp
 ·simp only[updR,e,if_false]
theorem zsc {S:ST} (h:S.WF) (f:FR) (hf:∀ kd,S.cur.WF kd S.nc->f.WF kd S.nc):(S.setCur f).WF:=by
 obtain⟨kd,h1,h2,h3⟩:=h.ex;by_cases h0:S.calls.length=0
 ·have hc:S.calls=[]:=List.length_eq_zero_iff.1 h0;simp only[ST.setCur,h0,if_true];refine⟨⟨kd,hf kd (by rw[zmj h0];exact h1),fun g hg=>?_,h3⟩,h.ncalls,h.cells,h.tin,h.tout⟩;rw[hc] at hg
  cases hg
 ·simp only[ST.setCur,h0,if_false];refine⟨⟨kd,h1,fun g hg=>?_,h3⟩,by simpa using h.ncalls,h.cells,h.tin,h.tout⟩;rcases List.mem_or_eq_of_mem_set hg with hg|rfl
  ·exact h2 g hg
  ·exact hf kd (by rw[zmC (by omega)];exact h2 _ (List.getElem_mem _))
theorem zzo {f:FR} {kd:Nat->Int×Int} {nc:Nat} (h:f.WF kd nc):f.pop.WF kd nc:=by
 refine⟨?_,?_,?_,fun v hv=>h.fld v (List.mem_of_mem_take hv),fun c hc=>h.num c (List.mem_of_mem_take hc),fun i hi hi'=>?_⟩
 ·have:=h.len;simp[FR.pop,this]
 ·have:=h.loc;simp[FR.pop];omega
 ·have:=h.lim;simp[FR.pop];omega
 ·have h1:i<f.vs.length:=by simp[FR.pop] at hi;omega
  have h2:i<f.cs.length:=by rw[h.len];exact h1
  have:=h.kind i h1 h2;simpa[FR.pop] using this
theorem zxF {W:World} {n0:Nat} {P:Ph} {S:ST} (h:SR W n0 P S) (m:Nat) (hm:S.cur.vs.length=m+1) (ga c g c2:Nat) (hv:curV P S=.slice (some ⟨ga,0,none⟩) (m+1) c) (hc:curC P S=.slice (some ⟨g,0,none⟩) (m+1) c2) :
  Stp n0 (rows P S) W (updR (updR (rows P S) (vI S) ⟨.slice (some ⟨ga,0,none⟩) m c,83,3,S.cur.pop.vs.length,zk5 S.cur.pop.vs⟩) (cI S) ⟨.slice (some ⟨g,0,none⟩) m c2,97,1,S.cur.pop.cs.length,ptrs P.cb S.cur.pop.cs⟩) W:=by
 obtain⟨kd,hw⟩:=h.curWF;have hcl:S.cur.cs.length=m+1:=by rw[hw.len];exact hm
 obtain⟨r1,r2⟩:=zst P S;obtain⟨n1,n2,n3⟩:=zzU S;have e1:S.cur.pop.vs.length=m:=by simp[FR.pop,hm]
 have e2:S.cur.pop.cs.length=m:=by simp[FR.pop,hm,hcl]
 have o1:W.ownsRow n0 83 3 (.slice (some ⟨ga,0,none⟩) m c) m (zk5 S.cur.pop.vs):=by
  have:=h.rws.row (vI S);rw[r1,hv,hm] at this;have e:zk5 S.cur.vs=zk5 S.cur.pop.vs++(zk5 S.cur.vs).drop (m*3):=by
   simp only[FR.pop,hm,Nat.add_sub_cancel];rw[zqp,List.take_append_drop]
  dsimp only at this;rw[e] at this;exact ownsRow_pop (by rw[zv7,e1]) this
 have o2:W.ownsRow n0 97 1 (.slice (some ⟨g,0,none⟩) m c2) m (ptrs P.cb S.cur.pop.cs):=by
  have:=h.rws.row (cI S);rw[r2,hc,hcl] at this;have e:ptrs P.cb S.cur.cs=ptrs P.cb S.cur.pop.cs++(ptrs P.cb S.cur.cs).drop m:=by
   simp only[FR.pop,hm,Nat.add_sub_cancel];rw[zvo,List.take_append_drop]
  dsimp only at this;rw[e] at this;exact ownsRow_pop (by simp[ptrs,e2]) this
 rw[e1,e2];have s1:=Stp.upd (i:=vI S) (r:=⟨.slice (some ⟨ga,0,none⟩) m c,83,3,m,zk5 S.cur.pop.vs⟩) h.rws (Chg.refl _ _) o1 (fun b hb=>.inl (by rw[r1];show(curV P S).ownBlock=some b;rw[hv];exact hb));refine s1.trans (Stp.upd (i:=cI S) s1.rws (Chg.refl _ _) o2 (fun b hb=>.inl ?_));rw[zko (Ne.symm n3),r2]
 show(curC P S).ownBlock=some b
 rw[hc];exact hb
theorem zpN {W:World} {n0:Nat} {P:Ph} {S:ST} (h:SR W n0 P S) (m c g c2 lc B O:Nat) (a:Addr) (hm:S.cur.vs.length=m+1) (hv:curV P S=.slice (some a) (m+1) c) (hc:curC P S=.slice (some ⟨g,0,none⟩) (m+1) c2) (hB:(curP P S).block=B) (hO:oI S=O) (hlc:S.cur.loc=lc) (h0:lc≠0) :
  ∃ P',SStp n0 P S W P' (S.setCur S.cur.pop) (((W.setCell ⟨B,O,none⟩ (.slice (some a) m c)).setCell ⟨B,O+1,none⟩ (.slice (some ⟨g,0,none⟩) m c2)).setCell ⟨B,O+2,none⟩ (.int .i64 ((lc:Int)-1))).drew/\P'.sb=P.sb:=by
 have hr:=h.rws.row (vI S);rw[(zst P S).1] at hr;obtain⟨ga,ca,hga,_⟩:=zlt hr (by dsimp only;omega);dsimp only at hga;have ha:a=⟨ga,0,none⟩:=by
  have:=hv.symm.trans hga;injection this with e1;injection e1
 subst ha;have key:=zyq h S.cur.pop (zsc h.wf _ fun kd hk=>zzo hk) W _ _ (zxF h m hm ga c g c2 hv hc);have el:((S.cur.pop.loc:Nat):Int)=(lc:Int)-1:=by simp only[FR.pop,hlc];omega
 rw[hB,hO,el] at key;exact⟨_,⟨key.st.below (Below.refl _ _).drew,key.wf⟩,by unfold Ph.setCur;split<;>rfl⟩
theorem zxd {W:World} {n0:Nat} {P:Ph} {S:ST} (h:SR W n0 P S) (name:ByteArray) (x:Int):Calls Tryz.prog 186 #[.pointer (some ⟨P.sb,0,none⟩),.string name,.int .i64 x] W fun e W'=>e=.returned (.int .i64 (zku S name x).1)/\∃ P',SStp n0 P S W P' (zku S name x).2 W'/\P'.sb=P.sb:=by
 have HS:=zh h;have bV:=zh (zlw h);obtain⟨kd,hw⟩:=h.curWF;obtain⟨A,c,hcv,hc,hrow⟩:=h.curVs;obtain⟨h3,h4,h5⟩:=h.cur3;obtain⟨A2,c2,hcc,hc2,_⟩:=zkm h.curCs;rw[hcv] at h3;rw[hcc,hw.len] at h4;obtain⟨hh1,lT,hh3⟩:=zlO h;obtain⟨B,hB⟩:∃ B,(curP P S).block=B:=⟨_,rfl⟩
 obtain⟨O,hO⟩:∃ O,oI S=O:=⟨_,rfl⟩
 have hcp:curP P S=⟨B,O,none⟩:=by rw[hh1,hB,hO]
 have dh:=zh hB;have dU:=zh hO;rw[hcp] at h3 h4 h5 bV;dsimp only at h3 h4 h5;obtain⟨R,hR⟩:∃ R,zku S name x=R:=⟨_,rfl⟩
 rw[hR];obtain⟨lc,hlc⟩:∃ lc,S.cur.loc=lc:=⟨_,rfl⟩
 obtain⟨L,hL⟩:∃ L,S.cur.vs.length=L:=⟨_,rfl⟩
 have hlim:=hw.lim;have hloc:=hw.loc;rw[hlc] at h5 hloc;rw[hL] at h3 h4 hlim hloc;have ae:=zh hrow;have dS:=zh hw;have lC:=zh hlc;have HL:=zh hL;have HRR:=zh hR;have aI:=zh hcc;have jl:=zh hcv;have lI:=zh hc2;have hfz:∀ i,W.frozen? ⟨B,i,none⟩=false:=fun i=>h.rws.frozen (hI S) (by rw[<-hB];exact lT) i;clear h hw hcv hrow hcp hR hlc hL hcc hc2 hh1 lT hh3 hB hO;by_cases hl0:lc=0
 ·subst hl0;have HX:=zh (show R=(6,S) by rw[<-HRR.out,zku,if_pos (.inl lC.out)]);go_enter Tryz.func186,Tryz.ntmps186;go_wp2_with fail;refine bV.out.mono ?_;rintro e w1 ⟨rfl,rfl⟩;go_wp2_with fail;go_ret;exact⟨by rw[HX.out];rfl,P,by rw[HX.out];exact SStp.refl HS.out (Below.refl _ _),rfl⟩
 ·obtain⟨m,rfl⟩:∃ m,L=m+1:=⟨L-1,by omega⟩
  have pz:m<S.cur.vs.length:=by rw[HL.out];omega
  obtain⟨a,rfl,-,⟨y0,y1,y2⟩,-⟩:=ae.out m pz;obtain⟨v,hv⟩:∃ v,S.cur.vs[m]=v:=⟨_,rfl⟩
  rw[hv] at y0 y1 y2;have hlv:znO S.cur=v:=by rw[<-hv,znO,HL.out];simp[pz]
  have qN:=zh hlv;obtain⟨b,hb⟩:∃ b,(v.s.toList==name.toList)=b:=⟨_,rfl⟩
  have e1:((lc:Int)==0)=false:=by simp;omega
  have HB:=zh hb;have hml2:(m:Int)<((m+1:Nat):Int):=by omega
  clear hlv hb
  cases b
  ·have HX:=zh (show R=(6,S) by rw[<-HRR.out,zku,if_pos (.inr (by rw[qN.out];exact HB.out))]);have hbn:=HB.out;clear hv;go_enter Tryz.func186,Tryz.ntmps186;go_wp2_with fail;refine bV.out.mono ?_;rintro e w1 ⟨rfl,rfl⟩;go_wp2_with fail;go_ret;exact⟨by rw[HX.out];rfl,P,by rw[HX.out];exact SStp.refl HS.out (Below.refl _ _),rfl⟩
  ·have hbn:=HB.out;have hmc:m<S.cur.cs.length:=by rw[dS.out.len];exact pz
   obtain⟨id,hid⟩:∃ id,S.cur.cs[m]=id:=⟨_,rfl⟩
   have av:id<S.nc:=by rw[<-hid];exact dS.out.num _ (List.getElem_mem hmc)
   have hlcc:zpv S.cur=id:=by rw[<-hid,zpv,HL.out];simp[hmc]
   obtain⟨g,c2',hcc',_,_,hcell⟩:=zlt HS.out.curCs (by omega);obtain⟨rfl,rfl⟩:A2=some ⟨g,0,none⟩/\c2=c2':=by
    have:=aI.out.symm.trans hcc';injection this with e1 _ e3;exact⟨e1,e3⟩
   have z0:W.cell? ⟨g,m,none⟩=some (.pointer (some ⟨P.cb id,0,none⟩)):=by rw[hcell m (by omega)];simp[ptrs,hmc,hid]
   obtain⟨A3,c3,hci,hc3,aU⟩:=HS.out.items av;have z1:W.cell? ⟨P.cb id,0,none⟩=some (.slice A3 (S.cell id).length c3):=by rw[<-hci];exact zc (HS.out.cbox av) rfl
   obtain⟨l,hl⟩:∃ l,S.cell id=l:=⟨_,rfl⟩
   have hll:=(HS.out.wf.cells id av).1;have hk1:v.k=1->l.length=1:=fun hk=>by
    have:=zrH HS.out.wf pz hmc (by rw[hv];exact hk);rw[hid,hl] at this;exact this
   rw[hl] at z1 aU hll;have dO:=zh hl;have HR2:=zh (show R=if (v.k=1/\l.getD 0 0≠x)\/(v.k=3/\0<l.length) then (16,S) else (0,S.setCur S.cur.pop) by
    rw[<-HRR.out,zku,if_neg (by rw[qN.out,HB.out,lC.out];simp;omega),qN.out,hlcc,hl])
   have dM:=zh aU;clear hcell hcc' hci aU hl hlcc hid HRR hv;by_cases k1:v.k=1
   ·have hl1:=hk1 k1;obtain⟨a3,rfl,hx0⟩:=dM.out.nd (i:=0) (by omega);simp only[Addr.add_zero'] at hx0;obtain⟨x0,hx0'⟩:∃ x0,l.getD 0 0=x0:=⟨_,rfl⟩
    rw[hx0'] at hx0 HR2;rw[k1] at y1 HR2;rw[hl1] at z1;by_cases j6:x0=x
    ·subst j6;have HX:=zh (show R=(0,S.setCur S.cur.pop) by rw[HR2.out,if_neg (by simp)]);have aS:=zh (zpN HS.out m c g c2 lc B O a HL.out (by rw[jl.out,HL.out]) (by rw[aI.out,dS.out.len,HL.out]) dh.out dU.out lC.out hl0);clear HR2 hx0' hk1 k1 hl1;go_enter Tryz.func186,Tryz.ntmps186;go_wp2_with fail;refine bV.out.mono ?_;rintro e w1 ⟨rfl,rfl⟩;go_upto_region 10 with fail;have hSS:(fun _:World=>True) w1.drew/\(fun w':World=>w'.cell? ⟨B,O,none⟩=some (.slice (some a) (m+1) c)/\w'.cell? ⟨B,O+1,none⟩=some (.slice (some ⟨g,0,none⟩) (m+1) c2)) w1.drew:=⟨trivial,h3,h4⟩
     have hm1:(m:Int)<=(c:Int):=by omega
     have hm2:(m:Int)<=(c2:Int):=by omega
     have hm0:(0:Int)<=(m:Int):=by omega
     refine wp_region_noPanic ?_;refine zkc (fun _:World=>True) (fun w':World=>w'.cell? ⟨B,O,none⟩=some (.slice (some a) (m+1) c)/\w'.cell? ⟨B,O+1,none⟩=some (.slice (some ⟨g,0,none⟩) (m+1) c2)) 16 (by kernel_rfl) ?_;refine zT 0 hSS ?_;(try simp only[zQ]);refine zT 1 hSS ?_;(try simp only[zQ]);refine zT 2 hSS ?_;(try simp only[zQ]);refine zT 3 hSS ?_;(try simp only[zQ]);refine zT 4 hSS ?_;(try simp only[zQ]);refine zkV (i:=5) (v:=?_) rfl (by kernel_rfl) (by kernel_rfl) (by kernel_rfl) (by decide) rfl (by kernel_rfl) (by kernel_rfl) (fun _ _ _ h=>h) (Or.inl ⟨by rfl,?_⟩) hSS ?_;rotate_left 1
     ·(intro w hSw;(try dsimp only at hSw);(try simp only[zA,zB,zC]);go_simp;(try with_reducible rfl))
     (try simp only[zQ]);refine zT 6 hSS ?_;(try simp only[zQ]);refine zT 7 hSS ?_;(try simp only[zQ]);refine zT 8 hSS ?_;(try simp only[zQ]);refine zT 9 hSS ?_;(try simp only[zQ]);refine zT 10 hSS ?_;(try simp only[zQ]);refine zkV (i:=11) (v:=?_) rfl (by kernel_rfl) (by kernel_rfl) (by kernel_rfl) (by decide) rfl (by kernel_rfl) (by kernel_rfl) (fun _ _ _ h=>h) (Or.inl ⟨by rfl,?_⟩) hSS ?_;rotate_left 1
     ·(intro w hSw;(try dsimp only at hSw);(try simp only[zA,zB,zC]);go_simp;(try with_reducible rfl))
     (try simp only[zQ]);refine zT 12 hSS ?_;(try simp only[zQ]);refine zT 13 hSS ?_;(try simp only[zQ]);refine zT 14 hSS ?_;(try simp only[zQ]);refine zT 15 hSS ?_;(try simp only[zQ]);refine zp 16 fun K hK=>?_;(try simp only[zA,zB,zC]);have g3:w1.drew.cell? ⟨B,O,none⟩=some (.slice (some a) (m+1) c):=h3;have gf:w1.drew.frozen? ⟨B,O,none⟩=false:=hfz O;go_simp;refine hK.out _ _ trivial ?_;clear hK K hSS;(try simp only[zQ]);have j4:(w1.setCell ⟨B,O,none⟩ (.slice (some a) m c)).drew.cell? ⟨B,O+1,none⟩=some (.slice (some ⟨g,0,none⟩) (m+1) c2):=(World.cell?_setCell_other w1 ⟨B,O,none⟩ ⟨B,O+1,none⟩ _ (by simp)).trans h4
     have j5:((w1.setCell ⟨B,O,none⟩ (.slice (some a) m c)).setCell ⟨B,O+1,none⟩ (.slice (some ⟨g,0,none⟩) m c2)).cell? ⟨B,O+2,none⟩=some (.int .i64 lc):=(World.cell?_setCell_other _ ⟨B,O+1,none⟩ ⟨B,O+2,none⟩ _ (by simp)).trans ((World.cell?_setCell_other w1 ⟨B,O,none⟩ ⟨B,O+2,none⟩ _ (by simp)).trans h5);refine zp 17 fun K hK=>?_;(try simp only[zA,zB,zC]);go_simp;refine hK.out _ _ trivial ?_;clear hK K;(try simp only[zQ]);refine zp 18 fun K hK=>?_;(try simp only[zA,zB,zC]);go_simp;refine hK.out _ _ trivial ?_;clear hK K;(try simp only[zQ]);refine zp 19 fun K hK=>?_;(try simp only[zA,zB,zC]);go_simp;refine hK.out _ _ trivial ?_;clear hK K;(try simp only[zQ]);refine zd ?_;refine NoPanic.normal ?_;clear g3 gf h3 h4 h5;go_wp2_with fail;go_ret;refine⟨by rw[HX.out];rfl,?_⟩;rw[HX.out];exact aS.out
    ·have HX:=zh (show R=(16,S) by rw[HR2.out,if_pos (.inl ⟨rfl,j6⟩)]);have e5:(x0==x)=false:=by simpa using j6
     have e6:(x0 != x)=true:=by simpa using j6
     clear HR2 j6 hx0' hk1 k1 hl1;go_enter Tryz.func186,Tryz.ntmps186;go_wp2_with fail;refine bV.out.mono ?_;rintro e w1 ⟨rfl,rfl⟩;go_wp2_with fail;go_ret;exact⟨by rw[HX.out];rfl,P,by rw[HX.out];exact SStp.refl HS.out (Below.refl _ _),rfl⟩
   ·have x1:(v.k==1)=false:=by simpa using k1
    have pJ:=k1;by_cases k3:v.k=3
    ·rw[k3] at y1 HR2 x1;have hk3:True:=trivial;by_cases hl0':l.length=0
     ·have HX:=zh (show R=(0,S.setCur S.cur.pop) by rw[HR2.out,if_neg (by simp[hl0'])]);rw[hl0'] at z1;have aS:=zh (zpN HS.out m c g c2 lc B O a HL.out (by rw[jl.out,HL.out]) (by rw[aI.out,dS.out.len,HL.out]) dh.out dU.out lC.out hl0);clear HR2 hk1 k1 pJ k3 hl0' x1;go_enter Tryz.func186,Tryz.ntmps186;go_wp2_with fail;refine bV.out.mono ?_;rintro e w1 ⟨rfl,rfl⟩;go_upto_region 10 with fail;have hSS:(fun _:World=>True) w1.drew/\(fun w':World=>w'.cell? ⟨B,O,none⟩=some (.slice (some a) (m+1) c)/\w'.cell? ⟨B,O+1,none⟩=some (.slice (some ⟨g,0,none⟩) (m+1) c2)) w1.drew:=⟨trivial,h3,h4⟩
      have hm1:(m:Int)<=(c:Int):=by omega
      have hm2:(m:Int)<=(c2:Int):=by omega
      have hm0:(0:Int)<=(m:Int):=by omega
      refine wp_region_noPanic ?_;refine zkc (fun _:World=>True) (fun w':World=>w'.cell? ⟨B,O,none⟩=some (.slice (some a) (m+1) c)/\w'.cell? ⟨B,O+1,none⟩=some (.slice (some ⟨g,0,none⟩) (m+1) c2)) 16 (by kernel_rfl) ?_;refine zT 0 hSS ?_;(try simp only[zQ]);refine zT 1 hSS ?_;(try simp only[zQ]);refine zT 2 hSS ?_;(try simp only[zQ]);refine zT 3 hSS ?_;(try simp only[zQ]);refine zT 4 hSS ?_;(try simp only[zQ]);refine zkV (i:=5) (v:=?_) rfl (by kernel_rfl) (by kernel_rfl) (by kernel_rfl) (by decide) rfl (by kernel_rfl) (by kernel_rfl) (fun _ _ _ h=>h) (Or.inl ⟨by rfl,?_⟩) hSS ?_;rotate_left 1
      ·(intro w hSw;(try dsimp only at hSw);(try simp only[zA,zB,zC]);go_simp;(try with_reducible rfl))
      (try simp only[zQ]);refine zT 6 hSS ?_;(try simp only[zQ]);refine zT 7 hSS ?_;(try simp only[zQ]);refine zT 8 hSS ?_;(try simp only[zQ]);refine zT 9 hSS ?_;(try simp only[zQ]);refine zT 10 hSS ?_;(try simp only[zQ]);refine zkV (i:=11) (v:=?_) rfl (by kernel_rfl) (by kernel_rfl) (by kernel_rfl) (by decide) rfl (by kernel_rfl) (by kernel_rfl) (fun _ _ _ h=>h) (Or.inl ⟨by rfl,?_⟩) hSS ?_;rotate_left 1
      ·(intro w hSw;(try dsimp only at hSw);(try simp only[zA,zB,zC]);go_simp;(try with_reducible rfl))
      (try simp only[zQ]);refine zT 12 hSS ?_;(try simp only[zQ]);refine zT 13 hSS ?_;(try simp only[zQ]);refine zT 14 hSS ?_;(try simp only[zQ]);refine zT 15 hSS ?_;(try simp only[zQ]);refine zp 16 fun K hK=>?_;(try simp only[zA,zB,zC]);have g3:w1.drew.cell? ⟨B,O,none⟩=some (.slice (some a) (m+1) c):=h3;have gf:w1.drew.frozen? ⟨B,O,none⟩=false:=hfz O;go_simp;refine hK.out _ _ trivial ?_;clear hK K hSS;(try simp only[zQ]);have j4:(w1.setCell ⟨B,O,none⟩ (.slice (some a) m c)).drew.cell? ⟨B,O+1,none⟩=some (.slice (some ⟨g,0,none⟩) (m+1) c2):=(World.cell?_setCell_other w1 ⟨B,O,none⟩ ⟨B,O+1,none⟩ _ (by simp)).trans h4
      have j5:((w1.setCell ⟨B,O,none⟩ (.slice (some a) m c)).setCell ⟨B,O+1,none⟩ (.slice (some ⟨g,0,none⟩) m c2)).cell? ⟨B,O+2,none⟩=some (.int .i64 lc):=(World.cell?_setCell_other _ ⟨B,O+1,none⟩ ⟨B,O+2,none⟩ _ (by simp)).trans ((World.cell?_setCell_other w1 ⟨B,O,none⟩ ⟨B,O+2,none⟩ _ (by simp)).trans h5);refine zp 17 fun K hK=>?_;(try simp only[zA,zB,zC]);go_simp;refine hK.out _ _ trivial ?_;clear hK K;(try simp only[zQ]);refine zp 18 fun K hK=>?_;(try simp only[zA,zB,zC]);go_simp;refine hK.out _ _ trivial ?_;clear hK K;(try simp only[zQ]);refine zp 19 fun K hK=>?_;(try simp only[zA,zB,zC]);go_simp;refine hK.out _ _ trivial ?_;clear hK K;(try simp only[zQ]);refine zd ?_;refine NoPanic.normal ?_;clear g3 gf h3 h4 h5;go_wp2_with fail;go_ret;refine⟨by rw[HX.out];rfl,?_⟩;rw[HX.out];exact aS.out
     ·have HX:=zh (show R=(16,S) by rw[HR2.out,if_pos (.inr ⟨rfl,by omega⟩)]);have e5:(0:Int)<(l.length:Int):=by omega
      clear HR2 hk1 k1 pJ k3 hl0' x1;go_enter Tryz.func186,Tryz.ntmps186;go_wp2_with fail;refine bV.out.mono ?_;rintro e w1 ⟨rfl,rfl⟩;go_wp2_with fail;go_ret;exact⟨by rw[HX.out];rfl,P,by rw[HX.out];exact SStp.refl HS.out (Below.refl _ _),rfl⟩
    ·have x3:(v.k==3)=false:=by simpa using k3
     have HX:=zh (show R=(0,S.setCur S.cur.pop) by rw[HR2.out,if_neg (by simp[k1,k3])]);have aS:=zh (zpN HS.out m c g c2 lc B O a HL.out (by rw[jl.out,HL.out]) (by rw[aI.out,dS.out.len,HL.out]) dh.out dU.out lC.out hl0);clear HR2 hk1 k1 pJ k3;go_enter Tryz.func186,Tryz.ntmps186;go_wp2_with fail;refine bV.out.mono ?_;rintro e w1 ⟨rfl,rfl⟩;go_upto_region 10 with fail;have hSS:(fun _:World=>True) w1.drew/\(fun w':World=>w'.cell? ⟨B,O,none⟩=some (.slice (some a) (m+1) c)/\w'.cell? ⟨B,O+1,none⟩=some (.slice (some ⟨g,0,none⟩) (m+1) c2)) w1.drew:=⟨trivial,h3,h4⟩
     have hm1:(m:Int)<=(c:Int):=by omega
     have hm2:(m:Int)<=(c2:Int):=by omega
     have hm0:(0:Int)<=(m:Int):=by omega
     refine wp_region_noPanic ?_;refine zkc (fun _:World=>True) (fun w':World=>w'.cell? ⟨B,O,none⟩=some (.slice (some a) (m+1) c)/\w'.cell? ⟨B,O+1,none⟩=some (.slice (some ⟨g,0,none⟩) (m+1) c2)) 16 (by kernel_rfl) ?_;refine zT 0 hSS ?_;(try simp only[zQ]);refine zT 1 hSS ?_;(try simp only[zQ]);refine zT 2 hSS ?_;(try simp only[zQ]);refine zT 3 hSS ?_;(try simp only[zQ]);refine zT 4 hSS ?_;(try simp only[zQ]);refine zkV (i:=5) (v:=?_) rfl (by kernel_rfl) (by kernel_rfl) (by kernel_rfl) (by decide) rfl (by kernel_rfl) (by kernel_rfl) (fun _ _ _ h=>h) (Or.inl ⟨by rfl,?_⟩) hSS ?_;rotate_left 1
     ·(intro w hSw;(try dsimp only at hSw);(try simp only[zA,zB,zC]);go_simp;(try with_reducible rfl))
     (try simp only[zQ]);refine zT 6 hSS ?_;(try simp only[zQ]);refine zT 7 hSS ?_;(try simp only[zQ]);refine zT 8 hSS ?_;(try simp only[zQ]);refine zT 9 hSS ?_;(try simp only[zQ]);refine zT 10 hSS ?_;(try simp only[zQ]);refine zkV (i:=11) (v:=?_) rfl (by kernel_rfl) (by kernel_rfl) (by kernel_rfl) (by decide) rfl (by kernel_rfl) (by kernel_rfl) (fun _ _ _ h=>h) (Or.inl ⟨by rfl,?_⟩) hSS ?_;rotate_left 1
     ·(intro w hSw;(try dsimp only at hSw);(try simp only[zA,zB,zC]);go_simp;(try with_reducible rfl))
     (try simp only[zQ]);refine zT 12 hSS ?_;(try simp only[zQ]);refine zT 13 hSS ?_;(try simp only[zQ]);refine zT 14 hSS ?_;(try simp only[zQ]);refine zT 15 hSS ?_;(try simp only[zQ]);refine zp 16 fun K hK=>?_;(try simp only[zA,zB,zC]);have g3:w1.drew.cell? ⟨B,O,none⟩=some (.slice (some a) (m+1) c):=h3;have gf:w1.drew.frozen? ⟨B,O,none⟩=false:=hfz O;go_simp;refine hK.out _ _ trivial ?_;clear hK K hSS;(try simp only[zQ]);have j4:(w1.setCell ⟨B,O,none⟩ (.slice (some a) m c)).drew.cell? ⟨B,O+1,none⟩=some (.slice (some ⟨g,0,none⟩) (m+1) c2):=(World.cell?_setCell_other w1 ⟨B,O,none⟩ ⟨B,O+1,none⟩ _ (by simp)).trans h4
     have j5:((w1.setCell ⟨B,O,none⟩ (.slice (some a) m c)).setCell ⟨B,O+1,none⟩ (.slice (some ⟨g,0,none⟩) m c2)).cell? ⟨B,O+2,none⟩=some (.int .i64 lc):=(World.cell?_setCell_other _ ⟨B,O+1,none⟩ ⟨B,O+2,none⟩ _ (by simp)).trans ((World.cell?_setCell_other w1 ⟨B,O,none⟩ ⟨B,O+2,none⟩ _ (by simp)).trans h5);refine zp 17 fun K hK=>?_;(try simp only[zA,zB,zC]);go_simp;refine hK.out _ _ trivial ?_;clear hK K;(try simp only[zQ]);refine zp 18 fun K hK=>?_;(try simp only[zA,zB,zC]);go_simp;refine hK.out _ _ trivial ?_;clear hK K;(try simp only[zQ]);refine zp 19 fun K hK=>?_;(try simp only[zA,zB,zC]);go_simp;refine hK.out _ _ trivial ?_;clear hK K;(try simp only[zQ]);refine zd ?_;refine NoPanic.normal ?_;clear g3 gf h3 h4 h5;go_wp2_with fail;go_ret;refine⟨by rw[HX.out];rfl,?_⟩;rw[HX.out];exact aS.out
def ST.newCell (S:ST) (l:List Int):ST:={ S with cell:=fun i=>if i=S.nc then l else S.cell i,nc:=S.nc+1 }
def Ph.newCell (P:Ph) (S:ST) (b:Nat) (v:Value):Ph:={ P with cb:=fun i=>if i=S.nc then b else P.cb i,ci:=fun i=>if i=S.nc then v else P.ci i }
theorem zto {cb:Nat->Nat} {nc b:Nat} {cs:List Nat} (h:∀ c∈cs,c<nc):ptrs (fun i=>if i=nc then b else cb i) cs=ptrs cb cs:=by
 unfold ptrs;refine List.map_congr_left fun c hc=>?_;have:=h c hc;have e:c≠nc:=by omega
 simp[e]
theorem zm0 {S:ST} (hw:S.WF) (P:Ph) (b:Nat) (v:Value) (l:List Int):rows (P.newCell S b v) (S.newCell l) =
  updR (updR (rows P S) (.cb S.nc) ⟨boxV b,100,1,1,[v]⟩) (.ci S.nc) ⟨v,3,1,l.length,zkj l⟩:=by
 obtain⟨kd,h1,h2,_⟩:=hw.ex;funext r
 cases r with
 | cb i =>
  by_cases e:i=S.nc
  ·subst e;simp[updR,rows,Ph.newCell,ST.newCell]
  ·have:(i<S.nc+1)=(i<S.nc):=by simp;omega
   simp[updR,rows,Ph.newCell,ST.newCell,e,this]
 | ci i =>
  by_cases e:i=S.nc
  ·subst e;simp[updR,rows,Ph.newCell,ST.newCell]
  ·have:(i<S.nc+1)=(i<S.nc):=by simp;omega
   simp[updR,rows,Ph.newCell,ST.newCell,e,this]
 | bc=>simp[updR,rows,Ph.newCell,ST.newCell,zto h1.num]
 | fc i =>
  simp only[updR,reduceCtorEq,if_false,rows,ST.newCell,Ph.newCell]
  cases hi:S.calls[i]? with
  | none=>rfl
  | some f=>simp only[zto (h2 f (List.mem_of_getElem? hi)).num]
 | calls =>
  simp only[updR,reduceCtorEq,if_false,rows,ST.newCell];rw[zlN (P:=P) (P':=P.newCell S b v) rfl rfl];rfl
 | fv i=>simp[updR,rows,Ph.newCell,ST.newCell]
 | sb=>simp[updR,rows,Ph.newCell,ST.newCell]
 | tb=>simp[updR,rows,Ph.newCell,ST.newCell]
 | tin=>simp[updR,rows,Ph.newCell,ST.newCell]
 | tout=>simp[updR,rows,Ph.newCell,ST.newCell]
 | bv=>simp[updR,rows,Ph.newCell,ST.newCell]
 | x i=>simp[updR,rows]
theorem FR.WF.new {f:FR} {kd:Nat->Int×Int} {nc:Nat} (h:f.WF kd nc) (k:Int×Int):f.WF (fun i=>if i=nc then k else kd i) (nc+1):=by
 refine⟨h.len,h.loc,h.lim,h.fld,fun c hc=>by have:=h.num c hc;omega,fun i hi hi'=>?_⟩;have:=h.num _ (List.getElem_mem hi');rw[if_neg (by omega)];exact h.kind i hi hi'
theorem znN (S:ST) (l:List Int):(S.newCell l).cur=S.cur:=rfl
theorem zoD {S:ST} (h:S.WF) (l:List Int) (k:Int×Int) (hl:l.length<=1000) (hf:∀ x∈l,I64 x) (hk:(k.1=1->l.length=1)/\(k.1=2->(l.length:Int)=k.2)/\(k.1=1\/k.1=2\/k.1=3)):(S.newCell l).WF:=by
 obtain⟨kd,h1,h2,h3⟩:=h.ex;refine⟨⟨fun i=>if i=S.nc then k else kd i,h1.new k,fun f hf=>(h2 f hf).new k,fun i hi=>?_⟩,h.ncalls,fun i hi=>?_,h.tin,h.tout⟩
 ·simp only[ST.newCell] at hi ⊢;by_cases e:i=S.nc
  ·subst e;simpa using hk
  ·simp only[e,if_false];exact h3 i (by omega)
 ·simp only[ST.newCell] at hi ⊢;by_cases e:i=S.nc
  ·subst e;simpa using⟨hl,hf⟩
  ·simp only[e,if_false];exact h.cells i (by omega)
theorem zvf (P:Ph) (S:ST):rows P S (.cb S.nc)=nilR/\rows P S (.ci S.nc)=nilR:=by simp[rows]
theorem zou {k:Nat} (w:World) (n0:Nat) (E:TypeId) (xs:List Value) (hn:n0<=w.heap.size) (hx:xs.length=k):(w.alloc (.cells xs.toArray E)).ownsRow n0 E k (.slice (some ⟨w.heap.size,0,none⟩) 1 1) 1 xs :=
 ⟨by omega,.inr ⟨w.heap.size,1,xs.toArray,rfl,hn,heap_alloc_new w _,Nat.le_refl _,by decide,by simp[hx],by rw[Nat.one_mul,<-hx];simp⟩⟩
theorem zsH {W w2:World} {n0:Nat} {P:Ph} {S:ST} (h:SR W n0 P S) (hb:Below W.heap.size W w2) (x:Int) (hx:I64 x) :
  SStp n0 P S W (P.newCell S w2.heap.size (.slice (some ⟨w2.heap.size+1,0,none⟩) 1 1)) (S.newCell [x]) ((w2.alloc (.cells #[.slice (some ⟨w2.heap.size+1,0,none⟩) 1 1] 100)).alloc (.cells #[.int .i64 x] 3)):=by
 have hn:n0<=w2.heap.size:=by
  have h1:=(h.rws.lt .sb P.sb rfl)
  have h2:=hb.size;omega
 obtain⟨r1,r2⟩:=zvf P S;have s0:=(Stp.refl h.rws).below hb;have s1:=Stp.upd (i:=Res.cb S.nc) (r:=⟨boxV w2.heap.size,100,1,1,[.slice (some ⟨w2.heap.size+1,0,none⟩) 1 1]⟩) s0.rws (Chg.of_below (zkb (Below.refl _ _) (.cells #[.slice (some ⟨w2.heap.size+1,0,none⟩) 1 1] 100))) (zou w2 n0 _ [_] hn rfl) (fun b hb=>.inr (by simp[Value.ownBlock] at hb;omega));have o2:=zou (k:=1) (w2.alloc (.cells #[.slice (some ⟨w2.heap.size+1,0,none⟩) 1 1] 100)) n0 3 [.int .i64 x] (by simp;omega) rfl;rw[World.size_alloc] at o2;have s2:=Stp.upd (i:=Res.ci S.nc) (r:=⟨.slice (some ⟨w2.heap.size+1,0,none⟩) 1 1,3,1,1,[.int .i64 x]⟩) s1.rws (Chg.of_below (zkb (Below.refl _ _) (.cells #[.int .i64 x] 3))) o2 (fun b hb=>.inr (by simp[Value.ownBlock] at hb;simp;omega));refine⟨((s0.trans s1).trans s2).cast ?_,zoD h.wf [x] (1,0) (by simp) (by simpa using hx) (by simp)⟩;rw[zm0 h.wf];rfl
theorem zqR {W w2:World} {n0:Nat} {P:Ph} {S:ST} (h:SR W n0 P S) (hb:Below W.heap.size W w2) :
  SStp n0 P S W (P.newCell S w2.heap.size (.slice none 0 0)) (S.newCell []) (w2.alloc (.cells #[.slice none 0 0] 100)):=by
 have hn:n0<=w2.heap.size:=by
  have h1:=(h.rws.lt .sb P.sb rfl)
  have h2:=hb.size;omega
 have s0:=(Stp.refl h.rws).below hb;have s1:=Stp.upd (i:=Res.cb S.nc) (r:=⟨boxV w2.heap.size,100,1,1,[.slice none 0 0]⟩) s0.rws (Chg.of_below (zkb (Below.refl _ _) (.cells #[.slice none 0 0] 100))) (zou w2 n0 _ [_] hn rfl) (fun b hb=>.inr (by simp[Value.ownBlock] at hb;omega));have s2:=Stp.upd (i:=Res.ci S.nc) (r:=⟨.slice none 0 0,3,1,0,[]⟩) s1.rws (Chg.refl _ _) (World.ownsRow_nil _ _ _ _) (fun b hb=>by simp[Value.ownBlock] at hb);refine⟨((s0.trans s1).trans s2).cast ?_,zoD h.wf [] (3,0) (by simp) (by simp) (by simp)⟩;rw[zm0 h.wf];rfl
theorem zq1 (P:Ph) (S:ST):(rows P S (hI S)).xs[oI S]?=some (curV P S)/\(rows P S (hI S)).xs[oI S+1]?=some (curC P S)/\(rows P S (hI S)).xs[oI S+2]?=some (.int .i64 S.cur.loc):=by
 by_cases h0:S.calls.length=0
 ·simp[hI,oI,curV,curC,h0,rows,zmj h0]
 ·obtain⟨g1,g2,g3⟩:=zpF P S.calls 0 (S.calls.length-1) (by omega);simp only[Nat.zero_add] at g1 g2;simp only[hI,oI,curV,curC,h0,if_false,rows,zmC (show 0<S.calls.length by omega)];exact⟨g1,g2,g3⟩
theorem zKw {W:World} {n0:Nat} {P:Ph} {S:ST} (h:SR W n0 P S) (v:VD) (q:Option Addr) (hlim:S.cur.vs.length<=4398046511000) :
  Calls Tryz.prog 48 #[.pointer (some ⟨(curP P S).block,oI S,none⟩),.agg #[.string v.s,.int .u8 v.k,.int .i64 v.n],.pointer q] W fun e W'=>(∃ u,e=.returned u)/\∃ vv vc,
   Stp n0 (rows P S) W (updR (updR (updR (rows P S) (vI S) ⟨vv,83,3,S.cur.vs.length+1,zk5 S.cur.vs++[.string v.s,.int .u8 v.k,.int .i64 v.n]⟩) (cI S) ⟨vc,97,1,S.cur.vs.length+1,ptrs P.cb S.cur.cs++[.pointer q]⟩) (hI S) { rows P S (hI S) with xs:=((rows P S (hI S)).xs.set (oI S) vv).set (oI S+1) vc }) W':=by
 obtain⟨n1,n2,n3⟩:=zzU S;obtain⟨r1,r2⟩:=zst P S;obtain⟨g1,g2,_⟩:=zq1 P S;obtain⟨_,hb,_⟩:=zlO h;obtain⟨kd,hw⟩:=h.curWF;refine zs0 h.rws (hI S) (vI S) (cI S) n1 n2 n3 _ _ hb (by rw[g1,r1]) (by rw[g2,r2]) (zk5 S.cur.vs) (ptrs P.cb S.cur.cs) S.cur.vs.length (by rw[r1]) (by rw[r2,hw.len]) hlim v q
def FR.push (f:FR) (v:VD) (id:Nat):FR:=⟨f.vs++[v],f.cs++[id],f.loc+1⟩
theorem zqq (vs:List VD) (v:VD):zk5 (vs++[v])=zk5 vs++[.string v.s,.int .u8 v.k,.int .i64 v.n]:=by simp[zk5]
theorem zxD {W W':World} {n0:Nat} {P:Ph} {S:ST} (h:SR W n0 P S) (v:VD) (id:Nat) (vv vc:Value) (hwf:(S.setCur (S.cur.push v id)).WF)
  (hst:Stp n0 (rows P S) W (updR (updR (updR (rows P S) (vI S) ⟨vv,83,3,S.cur.vs.length+1,zk5 S.cur.vs++[.string v.s,.int .u8 v.k,.int .i64 v.n]⟩) (cI S) ⟨vc,97,1,S.cur.vs.length+1,ptrs P.cb S.cur.cs++[.pointer (some ⟨P.cb id,0,none⟩)]⟩) (hI S) { rows P S (hI S) with xs:=((rows P S (hI S)).xs.set (oI S) vv).set (oI S+1) vc }) W') :
  SStp n0 P S W (P.setCur S vv vc) (S.setCur (S.cur.push v id)) (W'.setCell ⟨(curP P S).block,oI S+2,none⟩ (.int .i64 ((S.cur.loc:Int)+1))):=by
 refine⟨?_,hwf⟩;obtain⟨_,hb,ho⟩:=zlO h;obtain⟨kd,hw⟩:=h.curWF;have s3:=Stp.set (i:=hI S) hst.rws (g:=(curP P S).block) (by rw[zkF];exact hb) (o:=oI S+2) (by rw[zkF];simp;omega) (.int .i64 ((S.cur.loc:Int)+1));rw[zkF] at s3;refine(hst.trans s3).cast ?_;rw[znL];have e1:(S.cur.push v id).vs.length=S.cur.vs.length+1:=by simp[FR.push]
 have e2:(S.cur.push v id).cs.length=S.cur.vs.length+1:=by simp[FR.push,hw.len]
 have e3:zk5 (S.cur.push v id).vs=zk5 S.cur.vs++[.string v.s,.int .u8 v.k,.int .i64 v.n]:=zqq _ _;have e4:ptrs P.cb (S.cur.push v id).cs=ptrs P.cb S.cur.cs++[.pointer (some ⟨P.cb id,0,none⟩)]:=by simp[FR.push,ptrs]
 have e5:(((S.cur.push v id).loc:Nat):Int)=(S.cur.loc:Int)+1:=by simp[FR.push]
 rw[e1,e2,e3,e4,e5];funext r;by_cases e:r=hI S
 ·subst e;simp
 ·simp only[updR,e,if_false]
theorem zwK {f:FR} {kd:Nat->Int×Int} {nc:Nat} (h:f.WF kd nc) (v:VD) (hv:FldV v) (hlim:f.vs.length+1<=4398046511000):(f.push v nc).WF (fun i=>if i=nc then (v.k,v.n) else kd i) (nc+1):=by
 have hl:=h.len;refine⟨by simp[FR.push,hl],by have:=h.loc;simp[FR.push];omega,by simpa[FR.push] using hlim,fun u hu=>?_,fun c hc=>?_,fun i hi hi'=>?_⟩
 ·simp only[FR.push,List.mem_append,List.mem_singleton] at hu;rcases hu with hu|rfl
  ·exact h.fld u hu
  ·exact hv
 ·simp only[FR.push,List.mem_append,List.mem_singleton] at hc;rcases hc with hc|rfl
  ·have:=h.num c hc;omega
  ·omega
 ·by_cases e:i<f.vs.length
  ·have e':i<f.cs.length:=by omega
   have a1:(f.push v nc).vs[i]=f.vs[i]:=List.getElem_append_left e;have a2:(f.push v nc).cs[i]=f.cs[i]:=List.getElem_append_left e';rw[a1];generalize (f.push v nc).cs[i]=ci at a2 ⊢;subst a2;have:=h.num _ (List.getElem_mem e');rw[if_neg (by omega)];exact h.kind i e e'
  ·have hi2:i=f.vs.length:=by simp[FR.push] at hi;omega
   have a1:(f.push v nc).vs[i]=v:=by simp[FR.push,hi2]
   have a2:(f.push v nc).cs[i]=nc:=by simp[FR.push,hi2,<-hl]
   rw[a1];generalize (f.push v nc).cs[i]=ci at a2 ⊢;subst a2;simp
theorem zs1 {S:ST} (h:S.WF) (v:VD) (hv:FldV v) (l:List Int) (hl:l.length<=1000) (hf:∀ x∈l,I64 x) (hk:(v.k=1->l.length=1)/\(v.k=2->(l.length:Int)=v.n)/\(v.k=1\/v.k=2\/v.k=3)) (hlim:S.cur.vs.length+1<=4398046511000) :
  ((S.newCell l).setCur (S.cur.push v S.nc)).WF:=by
 obtain⟨kd,h1,h2,h3⟩:=h.ex;have hn:=zoD h l (v.k,v.n) hl hf hk;have hkd:∀ i,i<S.nc+1->(((fun i=>if i=S.nc then (v.k,v.n) else kd i) i).1=1->((S.newCell l).cell i).length=1)/\(((fun i=>if i=S.nc then (v.k,v.n) else kd i) i).1=2->(((S.newCell l).cell i).length:Int)=((fun i=>if i=S.nc then (v.k,v.n) else kd i) i).2)/\(((fun i=>if i=S.nc then (v.k,v.n) else kd i) i).1=1\/((fun i=>if i=S.nc then (v.k,v.n) else kd i) i).1=2\/((fun i=>if i=S.nc then (v.k,v.n) else kd i) i).1=3):=fun i hi=>by
  simp only[ST.newCell];by_cases e:i=S.nc
  ·subst e;simpa using hk
  ·simp only[e,if_false];exact h3 i (by omega)
 by_cases h0:S.calls.length=0
 ·have hc:S.calls=[]:=List.length_eq_zero_iff.1 h0;have h0':(S.newCell l).calls.length=0:=h0;rw[zmj h0] at hlim ⊢;simp only[ST.setCur,h0',if_true];refine⟨⟨_,zwK h1 v hv hlim,fun g hg=>?_,hkd⟩,hn.ncalls,hn.cells,hn.tin,hn.tout⟩;have:g∈S.calls:=hg;rw[hc] at this
  cases this
 ·have h0':¬ (S.newCell l).calls.length=0:=h0;have hcu:S.cur.WF kd S.nc:=by rw[zmC (by omega)];exact h2 _ (List.getElem_mem _)
  simp only[ST.setCur,h0',if_false];refine⟨⟨_,h1.new (v.k,v.n),fun g hg=>?_,hkd⟩,by simpa using hn.ncalls,hn.cells,hn.tin,hn.tout⟩;rcases List.mem_or_eq_of_mem_set hg with hg|rfl
  ·exact(h2 g hg).new _
  ·exact zwK hcu v hv hlim
def zkv (S:ST) (v:VD) (x:Int):Int×ST :=
 if ¬ ((v.k=1\/v.k=3)/\v.n=0) then (7,S)
 else if (S.cur.at v.s).isSome=true then (22,S)
 else (0,(S.newCell (if v.k=1 then [x] else [])).setCur (S.cur.push v S.nc))
theorem zsa {W:World} {n0:Nat} {P:Ph} {S:ST} (h:SR W n0 P S) (v:VD) (id b B O:Nat) (hb:P.cb id=b) (hcp:curP P S=⟨B,O,none⟩) (hlim:S.cur.vs.length<=4398046511000) (hwf:(S.setCur (S.cur.push v id)).WF) :
  Calls Tryz.prog 48 #[.pointer (some ⟨B,O,none⟩),.agg #[.string v.s,.int .u8 v.k,.int .i64 v.n],.pointer (some ⟨b,0,none⟩)] W fun e W'=>(∃ u,e=.returned u) /\
   W'.cell? ⟨B,O+2,none⟩=some (.int .i64 S.cur.loc)/\W'.frozen? ⟨B,O+2,none⟩=false/\∃ P',SStp n0 P S W P' (S.setCur (S.cur.push v id)) (W'.setCell ⟨B,O+2,none⟩ (.int .i64 ((S.cur.loc:Int)+1)))/\P'.sb=P.sb:=by
 obtain⟨e0,aR,ho⟩:=zlO h;obtain⟨g1,g2,g3⟩:=zq1 P S;rw[hcp] at e0 aR;dsimp only at e0 aR;have eO:O=oI S:=by injection e0
 subst eO;have hadd:=zKw h v (some ⟨P.cb id,0,none⟩) hlim;rw[hcp,hb] at hadd;refine hadd.mono ?_;rintro e W' ⟨hu,vv,vc,hst⟩;have hr:=hst.rws;refine⟨hu,hr.cell (hI S) (by rw[zkF];exact aR) ?_,hr.frozen (hI S) (by rw[zkF];exact aR) _,P.setCur S vv vc,?_,?_⟩
 ·rw[zkF]
  show(((rows P S (hI S)).xs.set (oI S) vv).set (oI S+1) vc)[oI S+2]?=_
  rw[List.getElem?_set_ne (by omega),List.getElem?_set_ne (by omega)];exact g3
 ·have:=zxD h v id vv vc hwf (by rw[hb];exact hst);rw[hcp] at this;exact this
 ·unfold Ph.setCur;split<;>rfl
theorem zyS {W:World} {n0:Nat} {P:Ph} {S:ST} (h:SR W n0 P S) (v:VD) (ky:FldV v) (x:Int) (hx:I64 x) (hlim:S.cur.vs.length+1<=4398046511000):Calls Tryz.prog 185 #[.pointer (some ⟨P.sb,0,none⟩),.agg #[.string v.s,.int .u8 v.k,.int .i64 v.n],.int .i64 x] W fun e W'=>e=.returned (.int .i64 (zkv S v x).1)/\∃ P',SStp n0 P S W P' (zkv S v x).2 W'/\P'.sb=P.sb:=by
 have HS:=zh h;obtain⟨kd,hw⟩:=h.curWF;obtain⟨A,c,hcv,hc,hrow⟩:=h.curVs;obtain⟨h3,h4,h5⟩:=h.cur3;rw[hcv] at h3;have HLOC:=zh (show S.cur.loc<=4398046511000 by have:=hw.loc;have:=hw.lim;omega);obtain⟨R,hR⟩:∃ R,zkv S v x=R:=⟨_,rfl⟩
 rw[hR];have HRR:=zh hR;have bV:=zh (fun W' (hb:Below W.heap.size W W')=>zlw (h.later hb));have df:=zh (fun W' (hb:Below W.heap.size W W')=>zoZ S.cur.vs A c v.s (curP P S) W' (zb hb h3) (hrow.later hb) hw.lim);obtain⟨vm,vk,vn⟩:=v;dsimp only at df ⊢;clear h hw hcv hrow h3 h4 h5 hR;by_cases k13:vk=1\/vk=3
 ·by_cases hn:vn=0
  ·subst hn;obtain⟨r,hr⟩:∃ r,S.cur.at vm=r:=⟨_,rfl⟩
   have hr':zlv S.cur.vs vm S.cur.vs.length=r:=hr;rw[hr'] at df;have HR2:=zh (show R=if r.isSome=true then (22,S) else (0,(S.newCell (if vk=1 then [x] else [])).setCur (S.cur.push ⟨vm,vk,0⟩ S.nc)) by
    rw[<-HRR.out,zkv,if_neg (by simp[k13]),hr])
   obtain⟨B,O,hcp⟩:∃ B O,curP P S=⟨B,O,none⟩:=⟨_,_,(zlO HS.out).1⟩
   rw[hcp] at df bV;have rF:=zh hcp;clear HRR hr hr' hcp;rcases r with _|i
   ·rcases k13 with rfl|rfl
    ·simp only[idxZ] at df;go_enter Tryz.func185,Tryz.ntmps185;go_wp2_with fail;refine(bV.out _ (zkb (Below.refl _ _) _)).mono ?_;rintro e w1 ⟨rfl,rfl⟩;go_wp2_with fail;refine(df.out _ (zkb (Below.refl _ _) _)).mono ?_;rintro e w2 ⟨rfl,ag⟩;have hvb:=zkd (heap_alloc_new W (.cells #[.string vm,.int .u8 1,.int .i64 0] 83)) ag;have hva:=fun o=>zkl hvb o;have u0:∀ o,(w2.alloc o).cell? ⟨W.heap.size,0,none⟩=some (.string vm):=fun o=>zc (hva o) rfl;have u1:∀ o,(w2.alloc o).cell? ⟨W.heap.size,1,none⟩=some (.int .u8 1):=fun o=>zc (hva o) rfl;have u2:∀ o,(w2.alloc o).cell? ⟨W.heap.size,2,none⟩=some (.int .i64 0):=fun o=>zc (hva o) rfl;have dQ:=fun o o'=>zkl (hva o) o';have t0:∀ o o',((w2.alloc o).alloc o').cell? ⟨W.heap.size,0,none⟩=some (.string vm):=fun o o'=>zc (dQ o o') rfl
     have t1:∀ o o',((w2.alloc o).alloc o').cell? ⟨W.heap.size,1,none⟩=some (.int .u8 1):=fun o o'=>zc (dQ o o') rfl;have t2:∀ o o',((w2.alloc o).alloc o').cell? ⟨W.heap.size,2,none⟩=some (.int .i64 0):=fun o o'=>zc (dQ o o') rfl;have s1:=zsH HS.out (zka (zkb (Below.refl _ _) _) ag) x hx;have hwf:=zs1 HS.out.wf ⟨vm,1,0⟩ ky [x] (by simp) (by simpa using hx) (by simp) hlim;have HX:=zh (show R=(0,(S.newCell [x]).setCur (S.cur.push ⟨vm,1,0⟩ S.nc)) by rw[HR2.out];simp);have HAD:=zh (zsa s1.sr ⟨vm,1,0⟩ S.nc w2.heap.size B O (by simp[Ph.newCell]) rF.out (by show S.cur.vs.length<=_;omega) hwf);have bG:=zh s1;dsimp only[znN] at HAD;have hl1:=HLOC.out;clear hva dQ s1 hwf HR2;go_wp2_with fail;refine HAD.out.mono ?_;rintro e w4 ⟨⟨u,rfl⟩,y0,y1,P2,hs2,hp2⟩;have HS2:=zh hs2;have jh:=zh hp2;obtain⟨lc,hlc⟩:∃ lc,S.cur.loc=lc:=⟨_,rfl⟩
     rw[hlc] at y0 HS2 hl1;clear hs2 hp2 hlc;go_wp2_with fail;go_ret;refine⟨by rw[HX.out];rfl,P2,?_,jh.out⟩;rw[HX.out];exact bG.out.trans HS2.out
    ·simp only[idxZ] at df;go_enter Tryz.func185,Tryz.ntmps185;go_wp2_with fail;refine(bV.out _ (zkb (Below.refl _ _) _)).mono ?_;rintro e w1 ⟨rfl,rfl⟩;go_wp2_with fail;refine(df.out _ (zkb (Below.refl _ _) _)).mono ?_;rintro e w2 ⟨rfl,ag⟩;have hvb:=zkd (heap_alloc_new W (.cells #[.string vm,.int .u8 3,.int .i64 0] 83)) ag;have hva:=fun o=>zkl hvb o;have u0:∀ o,(w2.alloc o).cell? ⟨W.heap.size,0,none⟩=some (.string vm):=fun o=>zc (hva o) rfl;have u1:∀ o,(w2.alloc o).cell? ⟨W.heap.size,1,none⟩=some (.int .u8 3):=fun o=>zc (hva o) rfl;have u2:∀ o,(w2.alloc o).cell? ⟨W.heap.size,2,none⟩=some (.int .i64 0):=fun o=>zc (hva o) rfl;have dQ:=fun o o'=>zkl (hva o) o';have t0:∀ o o',((w2.alloc o).alloc o').cell? ⟨W.heap.size,0,none⟩=some (.string vm):=fun o o'=>zc (dQ o o') rfl
     have t1:∀ o o',((w2.alloc o).alloc o').cell? ⟨W.heap.size,1,none⟩=some (.int .u8 3):=fun o o'=>zc (dQ o o') rfl;have t2:∀ o o',((w2.alloc o).alloc o').cell? ⟨W.heap.size,2,none⟩=some (.int .i64 0):=fun o o'=>zc (dQ o o') rfl;have s1:=zqR HS.out (zka (zkb (Below.refl _ _) _) ag);have hwf:=zs1 HS.out.wf ⟨vm,3,0⟩ ky [] (by simp) (by simp) (by simp) hlim;have HX:=zh (show R=(0,(S.newCell []).setCur (S.cur.push ⟨vm,3,0⟩ S.nc)) by rw[HR2.out];simp);have HAD:=zh (zsa s1.sr ⟨vm,3,0⟩ S.nc w2.heap.size B O (by simp[Ph.newCell]) rF.out (by show S.cur.vs.length<=_;omega) hwf);have bG:=zh s1;dsimp only[znN] at HAD;have hl1:=HLOC.out;clear hva dQ s1 hwf HR2;go_wp2_with fail;refine HAD.out.mono ?_;rintro e w4 ⟨⟨u,rfl⟩,y0,y1,P2,hs2,hp2⟩;have HS2:=zh hs2;have jh:=zh hp2;obtain⟨lc,hlc⟩:∃ lc,S.cur.loc=lc:=⟨_,rfl⟩
     rw[hlc] at y0 HS2 hl1;clear hs2 hp2 hlc;go_wp2_with fail;go_ret;refine⟨by rw[HX.out];rfl,P2,?_,jh.out⟩;rw[HX.out];exact bG.out.trans HS2.out
   ·have HX:=zh (show R=(22,S) by rw[HR2.out];rfl);simp only[idxZ] at df;have hi0:¬ (i:Int)<0:=by omega
    clear HR2;rcases k13 with rfl|rfl
    all_goals
     go_enter Tryz.func185,Tryz.ntmps185;go_wp2_with fail;refine(bV.out _ (zkb (Below.refl _ _) _)).mono ?_;rintro e w1 ⟨rfl,rfl⟩;go_wp2_with fail;refine(df.out _ (zkb (Below.refl _ _) _)).mono ?_;rintro e w2 ⟨rfl,ag⟩;have q2:=zka (zkb (Below.refl _ _) _) ag;clear ag;go_wp2_with fail;go_ret;exact⟨by rw[HX.out];rfl,P,by rw[HX.out];exact SStp.refl HS.out q2,rfl⟩
  ·have HX:=zh (show R=(7,S) by rw[<-HRR.out,zkv,if_pos (by simp[hn])]);have e1:(vn==0)=false:=by simpa using hn
   have e2:(vn != 0)=true:=by simpa using hn
   clear hn HRR;rcases k13 with rfl|rfl
   all_goals
    go_enter Tryz.func185,Tryz.ntmps185;go_wp2_with fail;go_ret;exact⟨by rw[HX.out];rfl,P,by rw[HX.out];exact SStp.refl HS.out (zkb (Below.refl _ _) _),rfl⟩
 ·have HX:=zh (show R=(7,S) by rw[<-HRR.out,zkv,if_pos (by simp[k13])]);have x1:(vk==1)=false:=by simp;omega
  have x3:(vk==3)=false:=by simp;omega
  have y1:(vk != 1)=true:=by simp;omega
  have y3:(vk != 3)=true:=by simp;omega
  clear k13 HRR;go_enter Tryz.func185,Tryz.ntmps185;go_wp2_with fail;go_ret;exact⟨by rw[HX.out];rfl,P,by rw[HX.out];exact SStp.refl HS.out (zkb (Below.refl _ _) _),rfl⟩
theorem zp9 {P:Program} {ops:Array Oper} {o:Oper} {a:Act} {w:World} {K:Act->World->Prop} {Q:Exit->Act->World->Prop} {F:Prop} (hgd:o.guard=none) (x:Operand) (xs:Array Operand) (ats:Array TypeId)
  (ho:o.op=.call { callee:=.value x,args:=xs,argTypes:=ats }) (f:FuncId) (fn:Func) (hf:IsFn P f fn) (cap:Array Value) (hv:a.eval x=.func (.func f) #[] cap) (args:Array Value) (hargs:xs.map a.eval++cap=args) (R:Value->World->Prop)
  (hc:Calls P f args w fun e w'=>∃ v,e=.returned v/\R v w') (h:∀ v w',R v w'->K (a.put o.dst v) w') :
  if Region.wanted o (yielded ops a.tmps)=true then Oper.wp P o a w K Q else F:=by
 have hw:Region.wanted o (yielded ops a.tmps)=true:=by simp[Region.wanted,hgd]
 rw[if_pos hw];subst hargs;have e:(execOp a.eval o).run P w=.ok (.enter f (xs.map a.eval++cap)) w:=by
  unfold execOp;simp only[ho,resolve,hv,Deferred.ofValue,Sem.run_bind,Sem.run_pure,Result.andThen_ok,invoke,zkP hf,Array.empty_append]
 unfold Oper.wp;rw[e,Oper.upon_enter];refine hc.mono ?_;rintro e w' ⟨v,rfl,hR⟩;exact h v w' hR
theorem zkh {P:Program} {ops:Array Oper} {o:Oper} {a:Act} {w:World} {K:Act->World->Prop} {Q:Exit->Act->World->Prop} {F:Prop} (hgd:o.guard=none) (x:Operand) (xs:List Operand) (ats:Array TypeId)
  (ho:o.op=.call { callee:=.value x,args:=xs.toArray,argTypes:=ats }) (f:FuncId) (fn:Func) (hf:IsFn P f fn) (hv:a.eval x=.func (.func f) #[] #[]) (l:List Value) (hargs:xs.map a.eval=l) (R:Value->World->Prop)
  (hc:Calls P f l.toArray w fun e w'=>∃ v,e=.returned v/\R v w') (h:∀ v w',R v w'->K (a.put o.dst v) w') :
  if Region.wanted o (yielded ops a.tmps)=true then Oper.wp P o a w K Q else F :=
 zp9 hgd x xs.toArray ats ho f fn hf #[] hv l.toArray (by rw[List.map_toArray,hargs,Array.append_empty]) R hc h
theorem zlL {P:Program} {ops:Array Oper} {o:Oper} {a:Act} {w:World} {K:Act->World->Prop} {Q:Exit->Act->World->Prop} {F:Prop} (hgd:o.guard=none) (x:Operand) (xs:List Operand) (ats:Array TypeId)
  (ho:o.op=.call { callee:=.value x,args:=xs.toArray,argTypes:=ats }) (f:FuncId) (fn:Func) (hf:IsFn P f fn) (cap:Array Value) (hv:a.eval x=.func (.func f) #[] cap) (l:List Value) (hargs:xs.map a.eval=l) (R:Value->World->Prop)
  (hc:Calls P f (l.toArray++cap) w fun e w'=>∃ v,e=.returned v/\R v w') (h:∀ v w',R v w'->K (a.put o.dst v) w') :
  if Region.wanted o (yielded ops a.tmps)=true then Oper.wp P o a w K Q else F :=
 zp9 hgd x xs.toArray ats ho f fn hf cap hv _ (by rw[List.map_toArray,hargs]) R hc h
def RowS (w:World) (A:Option Addr) (ss:List ByteArray):Prop:=∀ i (hi:i<ss.length),∃ a:Addr,A=some a/\w.cell? (a.add i)=some (.string ss[i])
theorem RowS.later {w w':World} {A:Option Addr} {ss:List ByteArray} (h:RowS w A ss) (hb:Below w.heap.size w w'):RowS w' A ss:=fun i hi =>
 let ⟨a,h1,h2⟩:=h i hi;⟨a,h1,zb hb h2⟩
theorem RowS.nd {w:World} {A:Option Addr} {ss:List ByteArray} (h:RowS w A ss) {i:Nat} (hi:i<ss.length):∃ (a:Addr) (s:ByteArray),A=some a/\Hid (ss[i]=s)/\w.cell? (a.add i)=some (.string s) :=
 let ⟨a,h1,h2⟩:=h i hi;⟨a,ss[i],h1,rfl,h2⟩
theorem zmg {B:Nat} {w w':World} (h:Below B w w') (n:Nat):Below B w (w'.drewN n):=⟨h.os,h.tape,h.output,h.size,h.block⟩
def entL (f:FR) (acc:FR):List (VD×ByteArray)->Except Int FR
 | []=>.ok acc
 | (v,a)::r=>match f.at a with
  | none=>.error 6
  | some i=>if (f.vs.getD i ⟨⟨#[]⟩,0,0⟩).k=v.k/\(f.vs.getD i ⟨⟨#[]⟩,0,0⟩).n=v.n then entL f ⟨acc.vs++[v],acc.cs++[f.cs.getD i 0],0⟩ r else .error 7
def entR (S:ST):Except Int FR->Int×ST
 | .error e=>(e,S)
 | .ok f=>if 100<=S.calls.length then (19,S) else (0,{ S with calls:=S.calls++[f] })
def zkT (S:ST) (ps:List VD) (ss:List ByteArray):Int×ST :=
 if ps.length≠ss.length then (7,S) else entR S (entL S.cur ⟨[],[],0⟩ (ps.zip ss))
def bldF (cb:Nat->Nat) (nb:Nat) (vv vc:Value) (f:FR):Fin 3->RowD
 | 0=>⟨boxV nb,92,3,1,[vv,vc,.int .i64 f.loc]⟩
 | 1=>⟨vv,83,3,f.vs.length,zk5 f.vs⟩
 | 2=>⟨vc,97,1,f.vs.length,ptrs cb f.cs⟩
theorem zyD (cb:Nat->Nat) (w:World):Rws (w.alloc (.cells #[.slice none 0 0,.slice none 0 0,.int .i64 0] 92)) w.heap.size (bldF cb w.heap.size (.slice none 0 0) (.slice none 0 0) ⟨[],[],0⟩):=by
 refine⟨fun i=>?_,fun i j b hij hi hj=>?_⟩
 ·match i with
  | 0=>exact zou (k:=3) w w.heap.size _ [_,_,_] (Nat.le_refl _) rfl
  | 1=>exact World.ownsRow_nil _ _ _ _
  | 2=>exact World.ownsRow_nil _ _ _ _
 ·match i,j with
  | 0,0=>exact hij rfl
  | 0,1=>simp[bldF,Value.ownBlock] at hj
  | 0,2=>simp[bldF,Value.ownBlock] at hj
  | 1,_=>simp[bldF,Value.ownBlock] at hi
  | 2,_=>simp[bldF,Value.ownBlock] at hi
theorem zlc {C:Nat->Prop} {w w':World} (h:Chg C w w') {p:Addr} {u:Value} (hp:w.cell? p=some u) (hc:¬ C p.block):w'.cell? p=some u:=(World.cell?_of_block (a:=p) (h.block _ (World.block_lt_of_cell? w p hp) hc)).trans hp
theorem zKx {cb:Nat->Nat} {W:World} {n1 nb:Nat} {vv vc:Value} {f:FR} (h:Rws W n1 (bldF cb nb vv vc f)) (hlim:f.vs.length<=4398046511000) (v:VD) (id:Nat) :
  Calls Tryz.prog 48 #[.pointer (some ⟨nb,0,none⟩),.agg #[.string v.s,.int .u8 v.k,.int .i64 v.n],.pointer (some ⟨cb id,0,none⟩)] W fun e W'=>(∃ u,e=.returned u)/\∃ oM ig,Rws W' n1 (bldF cb nb oM ig ⟨f.vs++[v],f.cs++[id],f.loc⟩)/\Chg (OwnB (bldF cb nb vv vc f)) W W':=by
 have hadd:=zs0 h (0:Fin 3) 1 2 (by decide) (by decide) (by decide) nb 0 rfl rfl rfl (zk5 f.vs) (ptrs cb f.cs) f.vs.length rfl rfl hlim v (some ⟨cb id,0,none⟩);refine hadd.mono ?_;rintro e W' ⟨hu,oM,ig,hst⟩;refine⟨hu,oM,ig,?_,hst.chg⟩;have:=hst.rws;refine(Stp.refl this).cast ?_ |>.rws
 funext i
 match i with
 | 0=>simp[updR,bldF]
 | 1=>simp[updR,bldF,zk5]
 | 2=>simp[updR,bldF,ptrs]
theorem Stp.take2 {I:Type} [DecidableEq I] {n0:Nat} {d:I->RowD} {W W':World} (h:Rws W n0 d) (hb:Below W.heap.size W W') (i j:I) (hij:i≠j) (r1 r2:RowD) (o1:W'.ownsRow n0 r1.E r1.sz r1.v r1.n r1.xs) (o2:W'.ownsRow n0 r2.E r2.sz r2.v r2.n r2.xs)
  (n1:∀ b,r1.v.ownBlock=some b->W.heap.size<=b) (n2:∀ b,r2.v.ownBlock=some b->W.heap.size<=b) (hs:∀ b,r1.v.ownBlock=some b->r2.v.ownBlock≠some b):Stp n0 d W (updR (updR d i r1) j r2) W':=by
 have hl:=h.later hb;have key:∀ q,(q=j/\updR (updR d i r1) j r2 q=r2)\/(q≠j/\q=i/\updR (updR d i r1) j r2 q=r1)\/(q≠j/\q≠i/\updR (updR d i r1) j r2 q=d q):=fun q=>by
  by_cases e:q=j
  ·subst e;exact .inl ⟨rfl,zkF⟩
  ·by_cases e2:q=i
   ·subst e2;exact .inr (.inl ⟨e,rfl,by rw[zko e,zkF]⟩)
   ·exact .inr (.inr ⟨e,e2,by rw[zko e,zko e2]⟩)
 have hlt:∀ q b,(d q).v.ownBlock=some b->b<W.heap.size:=fun q b hq=>(h.lt q b hq).2;refine⟨⟨fun q=>?_,fun p q b hpq h1 h2=>?_⟩,Chg.of_below hb,fun b ⟨q,hq⟩=>?_⟩
 ·rcases key q with⟨_,e⟩|⟨_,_,e⟩|⟨_,_,e⟩
  ·rw[e];exact o2
  ·rw[e];exact o1
  ·rw[e];exact hl.row q
 ·rcases key p with⟨ep,e⟩|⟨_,ep,e⟩|⟨_,_,e⟩<;>rcases key q with⟨eq,e'⟩|⟨_,eq,e'⟩|⟨_,_,e'⟩<;>rw[e] at h1<;>rw[e'] at h2
  ·exact hpq (ep.trans eq.symm)
  ·exact hs b h2 h1
  ·have:=n2 b h1;have:=hlt _ b h2;omega
  ·exact hs b h1 h2
  ·exact hpq (ep.trans eq.symm)
  ·have:=n1 b h1;have:=hlt _ b h2;omega
  ·have:=n2 b h2;have:=hlt _ b h1;omega
  ·have:=n1 b h2;have:=hlt _ b h1;omega
  ·exact h.sep p q b hpq h1 h2
 ·rcases key q with⟨_,e⟩|⟨_,_,e⟩|⟨_,_,e⟩<;>rw[e] at hq
  ·exact .inr (n2 b hq)
  ·exact .inr (n1 b hq)
  ·exact .inl ⟨q,hq⟩
theorem zwh {f:FR} {kd:Nat->Int×Int} {nc:Nat} (h:f.WF kd nc):∀ (l:List (VD×ByteArray)) (acc g:FR),acc.WF kd nc->acc.loc=0->(∀ p∈l,FldV p.1)->acc.vs.length+l.length<=4398046511000->entL f acc l=.ok g->g.WF kd nc/\g.loc=0
 | [],acc,g,ha,h0,_,_,he=>by simp only[entL,Except.ok.injEq] at he;subst he;exact⟨ha,h0⟩
 | (v,a)::r,acc,g,ha,h0,hf,hl,he=>by
  rw[entL] at he
  split at he
  ·cases he
  ·next i hi =>
   have hil:=FR.at_lt hi;have hic:i<f.cs.length:=by rw[h.len];exact hil
   split at he
   ·next hk =>
    simp only[List.getD_eq_getElem?_getD,List.getElem?_eq_getElem hil,List.getElem?_eq_getElem hic,Option.getD_some] at hk he;refine zwh h r _ g ?_ rfl (fun p hp=>hf p (List.mem_cons_of_mem _ hp)) (by simp at hl ⊢;omega) he;refine⟨by simp[ha.len],by simp,by simp at hl ⊢;omega,fun u hu=>?_,fun c hc=>?_,fun q hq hq'=>?_⟩
    ·simp only[List.mem_append,List.mem_singleton] at hu;rcases hu with hu|rfl
     ·exact ha.fld u hu
     ·exact hf _ (List.mem_cons_self ..)
    ·simp only[List.mem_append,List.mem_singleton] at hc;rcases hc with hc|rfl
     ·exact ha.num c hc
     ·exact h.num _ (List.getElem_mem hic)
    ·have hal:=ha.len;dsimp only at hq hq' ⊢;by_cases e:q<acc.vs.length
     ·have e':q<acc.cs.length:=by omega
      simp only[List.getElem_append_left e,List.getElem_append_left e'];exact ha.kind q e e'
     ·have e2:q=acc.vs.length:=by simp at hq;omega
      have e3:(acc.vs++[v])[q]=v:=by simp[e2]
      have e4:(acc.cs++[f.cs[i]])[q]=f.cs[i]:=by simp[e2,<-hal]
      rw[e3,e4,h.kind i hil hic,hk.1,hk.2]
   ·cases he
theorem zt6 {S:ST} (h:S.WF) (ps:List VD) (ss:List ByteArray) (g:FR) (hf:∀ v∈ps,FldV v) (hl:ps.length<=4398046511000) (he:entL S.cur ⟨[],[],0⟩ (ps.zip ss)=.ok g) (hn:S.calls.length<100):({ S with calls:=S.calls++[g] }:ST).WF/\g.loc=0/\g.cs.length=g.vs.length:=by
 obtain⟨kd,h1,h2,h3⟩:=h.ex;have hc:S.cur.WF kd S.nc:=by
  rcases Nat.eq_zero_or_pos S.calls.length with h0|h0
  ·rw[zmj h0];exact h1
  ·rw[zmC h0];exact h2 _ (List.getElem_mem _)
 have:=zwh hc (ps.zip ss) ⟨[],[],0⟩ g ⟨rfl,Nat.le_refl _,by simp,by simp,by simp,by simp⟩ rfl (fun p hp=>hf _ (List.of_mem_zip hp).1) (by simp;omega) he;refine⟨⟨⟨kd,h1,fun f hf=>?_,h3⟩,by simp;omega,h.cells,h.tin,h.tout⟩,this.2,this.1.len⟩;simp only[List.mem_append,List.mem_singleton] at hf;rcases hf with hf|rfl
 ·exact h2 f hf
 ·exact this.1
theorem zqs {P P':Ph} {g:FR}:∀ (fs:List FR) (i:Nat),(∀ q,q<i+fs.length->P'.fV q=P.fV q/\P'.fC q=P.fC q)->zk4 P' i (fs++[g])=zk4 P i fs++[P'.fV (i+fs.length),P'.fC (i+fs.length),.int .i64 g.loc]
 | [],i,_=>by simp[zk4]
 | f::fs,i,h=>by
  have:=zqs (P:=P) (P':=P') (g:=g) fs (i+1) (fun q hq=>h q (by simp;omega));have h0:=h i (by simp);simp only[List.cons_append,zk4,this,h0.1,h0.2,List.length_cons];rw[show i+1+fs.length=i+(fs.length+1) by omega]
def Ph.enter (P:Ph) (m:Nat) (vf vv vc:Value):Ph:={ P with vF:=vf,fV:=fun i=>if i=m then vv else P.fV i,fC:=fun i=>if i=m then vc else P.fC i }
theorem zuh (P:Ph) (S:ST) (g:FR) (vf vv vc:Value) (hg:g.loc=0) (hgl:g.cs.length=g.vs.length):rows (P.enter S.calls.length vf vv vc) { S with calls:=S.calls++[g] } =
  updR (updR (updR (updR (rows P S) (.fv S.calls.length) ⟨vv,83,3,g.vs.length,zk5 g.vs⟩) (.fc S.calls.length) ⟨vc,97,1,g.vs.length,ptrs P.cb g.cs⟩) .calls ⟨vf,92,3,S.calls.length+1,zk4 P 0 S.calls++[vv,vc,.int .i64 0]⟩) .sb
   { rows P S .sb with xs:=(rows P S .sb).xs.set 3 vf }:=by
 funext r
 cases r with
 | calls =>
  have:=zqs (P:=P) (P':=P.enter S.calls.length vf vv vc) (g:=g) S.calls 0 (fun q hq=>by
   have:q≠S.calls.length:=by omega
   simp[Ph.enter,this])
  simp only[updR,reduceCtorEq,if_false,if_true,rows,this];simp[Ph.enter,hg]
 | fv i =>
  by_cases e:i=S.calls.length
  ·subst e;simp[updR,rows,Ph.enter]
  ·simp only[updR,Res.fv.injEq,e,reduceCtorEq,if_false,rows,Ph.enter];by_cases hi:i<S.calls.length
   ·rw[List.getElem?_append_left hi]
   ·rw[List.getElem?_eq_none (show(S.calls++[g]).length<=i by simp;omega),List.getElem?_eq_none (by omega)]
 | fc i =>
  by_cases e:i=S.calls.length
  ·subst e;simp[updR,rows,Ph.enter,hgl]
  ·simp only[updR,Res.fc.injEq,e,reduceCtorEq,if_false,rows,Ph.enter];by_cases hi:i<S.calls.length
   ·rw[List.getElem?_append_left hi]
   ·rw[List.getElem?_eq_none (show(S.calls++[g]).length<=i by simp;omega),List.getElem?_eq_none (by omega)]
 | sb=>simp[updR,rows,Ph.enter]
 | tb=>simp[updR,rows,Ph.enter]
 | tin=>simp[updR,rows,Ph.enter]
 | tout=>simp[updR,rows,Ph.enter]
 | bv=>simp[updR,rows,Ph.enter]
 | bc=>simp[updR,rows,Ph.enter]
 | cb i=>simp[updR,rows,Ph.enter]
 | ci i=>simp[updR,rows,Ph.enter]
 | x i=>simp[updR,rows]
theorem zlT {w:World} {n0 n1:Nat} {E:TypeId} {size:Nat} {v:Value} {n:Nat} {xs:List Value} (h:w.ownsRow n1 E size v n xs) (hn:n0<=n1):w.ownsRow n0 E size v n xs:=by
 obtain⟨x1,x2⟩:=h;refine⟨x1,?_⟩;rcases x2 with x2|⟨g,cap,cur,y1,y2,y3⟩
 ·exact .inl x2
 ·exact .inr ⟨g,cap,cur,y1,by omega,y3⟩
theorem zwg {W W1 W2 w3:World} {n0:Nat} {P:Ph} {S:ST} (h:SR W n0 P S) (hb:Below W.heap.size W W1) (nb:Nat) (vv vc:Value) (g:FR) (hr:Rws W1 W.heap.size (bldF P.cb nb vv vc g)) (hg:g.loc=0) (hgl:g.cs.length=g.vs.length) (hwf:({ S with calls:=S.calls++[g] }:ST).WF)
  (hb2:Below W1.heap.size W1 W2) (v':Value) (h2:w3.ownsRow n0 92 3 v' (S.calls.length+1) (zk4 P 0 S.calls++[vv,vc,.int .i64 0])) (h3:W2.grownBy w3 P.vF.ownBlock) (h5:v'.ownBlock=P.vF.ownBlock\/v'.ownBlock=some W2.heap.size) :
  w3.cell? ⟨P.sb,3,none⟩=some P.vF/\w3.frozen? ⟨P.sb,3,none⟩=false/\SStp n0 P S W (P.enter S.calls.length v' vv vc) { S with calls:=S.calls++[g] } (w3.setCell ⟨P.sb,3,none⟩ v'):=by
 have hn:n0<=W.heap.size:=by have:=h.rws.lt .sb P.sb rfl;omega
 have s1:=Stp.take2 h.rws hb (.fv S.calls.length) (.fc S.calls.length) (by simp) ⟨vv,83,3,g.vs.length,zk5 g.vs⟩ ⟨vc,97,1,g.vs.length,ptrs P.cb g.cs⟩
  (zlT (hr.row 1) hn) (zlT (hr.row 2) hn) (fun b e=>(hr.lt 1 b e).1) (fun b e=>(hr.lt 2 b e).1) (fun b e=>hr.sep 1 2 b (by decide) e)
 have s2:=s1.below hb2;have hc:updR (updR (rows P S) (.fv S.calls.length) ⟨vv,83,3,g.vs.length,zk5 g.vs⟩) (.fc S.calls.length) ⟨vc,97,1,g.vs.length,ptrs P.cb g.cs⟩ .calls=rows P S .calls:=rfl;have s3:=Stp.upd (i:=Res.calls) (r:=⟨v',92,3,S.calls.length+1,zk4 P 0 S.calls++[vv,vc,.int .i64 0]⟩) s2.rws ((Chg.row h3).mono fun b _ hb=>hb) h2 (fun b hb=>by
  rcases h5 with h5|h5
  ·exact .inl (h5▸hb)
  ·exact .inr (by rw[h5] at hb;injection hb with hb;omega))
 have s4:=Stp.set (i:=Res.sb) s3.rws (g:=P.sb) rfl (o:=3) (by show 3<5;decide) v';refine⟨s3.rws.cell .sb (g:=P.sb) (o:=3) rfl rfl,s3.rws.frozen .sb (g:=P.sb) rfl 3,⟨?_,hwf⟩⟩;refine((s2.trans s3).trans s4).cast ?_;rw[zuh P S g v' vv vc hg hgl];rfl
theorem zK1:IsFn Tryz.prog 48 Tryz.f48:=⟨Tryz.func48,by kernel_rfl,by kernel_rfl⟩
theorem zKW:(Tryz.prog.info? 92).map (fun i=>(i.zero,i.size,i.bytes))=some (some (.agg #[.slice none 0 0,.slice none 0 0,.int .i64 0]),3,56):=by kernel_rfl
theorem zyB (A0 A1:Option Addr) (l0 c0 l1 c1:Nat) (x:Int) (w:World):(Instr.buildSlice 93 1 #[(0,.agg #[.slice A0 l0 c0,.slice A1 l1 c1,.int .i64 x])]).run Tryz.prog w=.ok (.slice (some ⟨w.heap.size,0,none⟩) 1 1) (w.alloc (.cells #[.slice A0 l0 c0,.slice A1 l1 c1,.int .i64 x] 92)):=by kernel_rfl
theorem zxb {W:World} {n0:Nat} {P:Ph} {S:ST} (h:SR W n0 P S) (ps:List VD) (ss:List ByteArray) (A D:Option Addr) (c d:Nat) (hp:RowV W Any A ps) (hs:RowS W D ss) (hlp:ps.length<=4398046511000) (_hls:ss.length<=17592186044416) :
  Calls Tryz.prog 187 #[.pointer (some ⟨P.sb,0,none⟩),.slice A ps.length c,.slice D ss.length d] W fun e W'=>e=.returned (.int .i64 (zkT S ps ss).1)/\∃ P',SStp n0 P S W P' (zkT S ps ss).2 W'/\P'.sb=P.sb:=by
 obtain⟨R,hR⟩:∃ R,zkT S ps ss=R:=⟨_,rfl⟩
 rw[hR];have HS:=zh h;have HP:=zh hp;have aP:=zh hs;have HRR:=zh hR;clear hR hp hs;by_cases hlen:ps.length=ss.length
 ·rw[<-hlen];obtain⟨kd,hw⟩:=h.curWF;obtain⟨A0,c0,hcv,hc,hrow⟩:=h.curVs;obtain⟨h3,h4,h5⟩:=h.cur3;rw[hcv] at h3;obtain⟨B,O,hcp⟩:∃ B O,curP P S=⟨B,O,none⟩:=⟨_,_,(zlO h).1⟩
  have bV:=zh (fun W' (hb:Below W.heap.size W W')=>zlw (h.later hb));have df:=zh (fun(s:ByteArray) W' (hb:Below W.heap.size W W')=>zoZ S.cur.vs A0 c0 s (curP P S) W' (zb hb h3) (hrow.later hb) hw.lim);rw[hcp] at h3 h4 bV df;dsimp only at h3 h4;have ae:=zh hrow;have xS:=zh h.curCs;have dS:=zh hw;have HL:=zh hlen;have H3:=zh h3;have H4:=zh h4;obtain⟨E,hE⟩:∃ E,entL S.cur ⟨[],[],0⟩ (ps.zip ss)=E:=⟨_,rfl⟩
  have HE:=zh (show R=entR S E by rw[<-HRR.out,zkT,if_neg (by simp[hlen]),hE]);have rD:=zh hE;have hn0:=HS.out.wf.ncalls;clear h hw hcv hrow h3 h4 h5 HRR hlen hE;go_enter Tryz.func187,Tryz.ntmps187;go_wp2_with fail;refine(bV.out _ (zkb (Below.refl _ _) _)).mono ?_;rintro e w1 ⟨rfl,rfl⟩;go_wp2_with fail
  go_loopw [23] (fun i wr=>∃ j:Nat,j<=ps.length/\i=.int .i64 j/\Hid (Below W.heap.size W wr)/\∃ vv vc acc,Hid (Rws wr W.heap.size (bldF P.cb W.heap.size vv vc acc))/\Hid (acc.vs.length=j)/\Hid (acc.loc=0)/\Hid (entL S.cur acc ((ps.zip ss).drop j)=E)) (fun i _=>ps.length-(intOf i).toNat)
  case atStart=>exact⟨0,Nat.zero_le _,rfl,zh (zkb (Below.refl _ _) _),.slice none 0 0,.slice none 0 0,⟨[],[],0⟩,zh (zyD P.cb W),zh rfl,zh rfl,rD⟩
  case round =>
   obtain⟨j,hj,rfl,aj,vv,vc,acc,HRW,jX,HA0,vM⟩:=hrel;by_cases hlt:j<ps.length
   ·have hlt2:j<ss.length:=by rw[<-HL.out];exact hlt
    obtain⟨a,rfl,-,⟨y0,y1,y2⟩,ky⟩:=(HP.out.later aj.out) j hlt;obtain⟨b,s,rfl,Hs,x0⟩:=(aP.out.later aj.out).nd hlt2;obtain⟨v,hv⟩:∃ v,ps[j]=v:=⟨_,rfl⟩
    rw[hv] at y0 y1 y2 ky;obtain⟨vm,vk,vn⟩:=v;dsimp only at y0 y1 y2;have hd:(ps.zip ss).drop j=(⟨vm,vk,vn⟩,s)::(ps.zip ss).drop (j+1):=by
     have hz:j<(ps.zip ss).length:=by rw[List.length_zip];omega
     rw[List.drop_eq_getElem_cons hz,List.getElem_zip,hv,Hs.out]
    have HD:=zh (hd▸vM.out);have hj1:(j:Int)<(ps.length:Int):=by omega
    obtain⟨r,hr⟩:∃ r,S.cur.at s=r:=⟨_,rfl⟩
    have jV:=zh (df.out s);have hr':zlv S.cur.vs s S.cur.vs.length=r:=hr;rw[hr'] at jV;have Hr:=zh hr;clear hr hr' hv hd vM;have z0:=fun o=>zke x0 o;go_wp2_with fail;refine(jV.out _ (zkb aj.out _)).mono ?_;rintro e w2 ⟨rfl,ag⟩;have HB2:=zh (zka (zkb aj.out (.cells #[.string vm,.int .u8 vk,.int .i64 vn] 83)) ag);have vN:=zh (zka (zkb (Below.refl wr.heap.size wr) (.cells #[.string vm,.int .u8 vk,.int .i64 vn] 83)) ag);have hvb:=zkd (heap_alloc_new wr (.cells #[.string vm,.int .u8 vk,.int .i64 vn] 83)) ag;have q0:w2.cell? ⟨wr.heap.size,0,none⟩=some (.string vm):=zc hvb rfl;have q1:w2.cell? ⟨wr.heap.size,1,none⟩=some (.int .u8 vk):=zc hvb rfl;have q2:w2.cell? ⟨wr.heap.size,2,none⟩=some (.int .i64 vn):=zc hvb rfl;clear ag hvb;rcases r with _|i
    ·have HX:=zh (show R=(6,S) by
      have h1:=HD.out;rw[entL,Hr.out] at h1;rw[HE.out,<-h1];rfl)
     simp only[idxZ];go_wp2_with fail;go_ret;exact⟨by rw[HX.out];rfl,P,by rw[HX.out];exact SStp.refl HS.out HB2.out,rfl⟩
    ·have hil:i<S.cur.vs.length:=FR.at_lt Hr.out;have hic:i<S.cur.cs.length:=by rw[dS.out.len];exact hil
     obtain⟨a0,rfl,-,⟨f0,f1,f2⟩,-⟩:=(ae.out.later HB2.out) i hil;obtain⟨u,hu⟩:∃ u,S.cur.vs[i]=u:=⟨_,rfl⟩
     rw[hu] at f0 f1 f2;obtain⟨um,uk,un⟩:=u;dsimp only at f0 f1 f2;obtain⟨id,hid⟩:∃ id,S.cur.cs[i]=id:=⟨_,rfl⟩
     have g3:=zb HB2.out H3.out;have g4:=zb HB2.out H4.out;obtain⟨gc,c2,hcc,hc2,hm2,hcell⟩:=zlt (zk7 xS.out HB2.out) (by omega);have HGC:=zh (show gc<W.heap.size from (xS.out.lt gc (by rw[hcc];rfl)).2);rw[hcc] at g4;have hz:w2.cell? ⟨gc,i,none⟩=some (.pointer (some ⟨P.cb id,0,none⟩)):=by rw[hcell i (by omega)];simp[ptrs,hic,hid]
     have HD2:=zh (show(if uk=vk/\un=vn then entL S.cur ⟨acc.vs++[⟨vm,vk,vn⟩],acc.cs++[id],0⟩ ((ps.zip ss).drop (j+1)) else .error 7)=E by
      have h1:=HD.out;rw[entL,Hr.out] at h1;simp only[List.getD_eq_getElem?_getD,List.getElem?_eq_getElem hil,List.getElem?_eq_getElem hic,Option.getD_some,hu,hid] at h1;exact h1)
     have hi1:(i:Int)<(S.cur.vs.length:Int):=by omega
     have hi2:¬ (i:Int)<0:=by omega
     have hi3:(i:Int)<(S.cur.cs.length:Int):=by omega
     simp only[idxZ];clear hcell hcc hu hid HD y0 y1 y2 x0 z0;obtain⟨nV,hnV⟩:∃ n,S.cur.vs.length=n:=⟨_,rfl⟩
     obtain⟨nC,hnC⟩:∃ n,S.cur.cs.length=n:=⟨_,rfl⟩
     rw[hnV] at g3 hi1;rw[hnC] at g4 hi3;clear hnV hnC hil hic;by_cases hk:uk=vk
     ·subst hk;by_cases hn:un=vn
      ·subst hn;have HE2:=zh (show entL S.cur ⟨acc.vs++[⟨vm,uk,un⟩],acc.cs++[id],0⟩ ((ps.zip ss).drop (j+1))=E by have:=HD2.out;simpa using this);clear HD2;go_wp2_with fail
       go_quiet (fail)
       go_wp2_with fail;obtain⟨w3,hw3⟩:∃ w3,w2.drewN nq=w3:=⟨_,rfl⟩
       have hb3:Below w2.heap.size w2 w3:=hw3▸zmg (Below.refl _ _) nq;rw[hw3];have p0:=zb hb3 q0;have p1:=zb hb3 q1;have p2:=zb hb3 q2;have p4:=zb hb3 g4;have p5:=zb hb3 hz;have HB3:=zh (zka HB2.out hb3);have HW3:=zh (HRW.out.later (zka vN.out hb3));clear q0 q1 q2 g3 g4 hz hw3 hb3 f0 f1 f2 nq;have hSS:(fun w':World=>w'.cell? ⟨wr.heap.size,0,none⟩=some (.string vm)/\w'.cell? ⟨wr.heap.size,1,none⟩=some (.int .u8 uk)/\w'.cell? ⟨wr.heap.size,2,none⟩=some (.int .i64 un)/\w'.cell? ⟨B,O+1,none⟩=some (.slice (some ⟨gc,0,none⟩) nC c2)/\w'.cell? ⟨gc,i,none⟩=some (.pointer (some ⟨P.cb id,0,none⟩))) w3.drew/\(fun _:World=>True) w3.drew:=⟨⟨p0,p1,p2,p4,p5⟩,trivial⟩
       refine wp_region_noPanic ?_;refine zkc (fun w':World=>w'.cell? ⟨wr.heap.size,0,none⟩=some (.string vm)/\w'.cell? ⟨wr.heap.size,1,none⟩=some (.int .u8 uk)/\w'.cell? ⟨wr.heap.size,2,none⟩=some (.int .i64 un)/\w'.cell? ⟨B,O+1,none⟩=some (.slice (some ⟨gc,0,none⟩) nC c2)/\w'.cell? ⟨gc,i,none⟩=some (.pointer (some ⟨P.cb id,0,none⟩))) (fun _:World=>True) 8 (by kernel_rfl) ?_;refine zT 0 hSS ?_;(try simp only[zQ]);refine zT 1 hSS ?_;(try simp only[zQ]);refine zT 2 hSS ?_;(try simp only[zQ]);refine zT 3 hSS ?_;(try simp only[zQ]);refine zT 4 hSS ?_;(try simp only[zQ]);refine zT 5 hSS ?_;(try simp only[zQ]);refine zT 6 hSS ?_;(try simp only[zQ]);refine zT 7 hSS ?_;(try simp only[zQ]);refine zp 8 fun K hK=>?_;have hne:∀ b,OwnB (bldF P.cb W.heap.size vv vc acc) b->W.heap.size<=b/\b<wr.heap.size:=fun b ⟨q,hq⟩=>HRW.out.lt q b hq
       have hBs:B<W.heap.size:=World.block_lt_of_cell? W _ H3.out;have hgs:gc<W.heap.size:=HGC.out;have had:Calls Tryz.prog 48 [.pointer (some ⟨W.heap.size,0,none⟩),.agg #[.string vm,.int .u8 uk,.int .i64 un],.pointer (some ⟨P.cb id,0,none⟩)].toArray w3.drew fun e W'=>∃ u,e=.returned u/\∃ oM ig,Rws W' W.heap.size (bldF P.cb W.heap.size oM ig ⟨acc.vs++[⟨vm,uk,un⟩],acc.cs++[id],acc.loc⟩)/\Chg (OwnB (bldF P.cb W.heap.size vv vc acc)) w3.drew W' :=
        (zKx (HW3.out.later (Below.refl _ _).drew) (by rw[jX.out];omega) ⟨vm,uk,un⟩ id).mono fun e W' hh=>hh.1.elim fun u hu=>⟨u,hu,hh.2⟩
       refine zkh (by rfl) (.func 48) [.tmp 7,.tmp 60,.tmp 67] _ (by rfl) 48 _ zK1 (by rfl) _ (by rfl) _ had ?_;rintro v4 w4 ⟨oM,ig,hr4,hc4⟩;have HR4:=zh hr4;have aC:=zh (HB3.out.drew.trans (hc4.below (B:=W.heap.size) (by have:=HB3.out.size;simp;omega) fun b hb=>(hne b hb).1));have n1:¬ OwnB (bldF P.cb W.heap.size vv vc acc) wr.heap.size:=fun hb=>by have:=hne _ hb;omega
       have n2:¬ OwnB (bldF P.cb W.heap.size vv vc acc) B:=fun hb=>by have:=hne _ hb;omega
       have n3:¬ OwnB (bldF P.cb W.heap.size vv vc acc) gc:=fun hb=>by have:=hne _ hb;omega
       refine hK.out _ _ ⟨zlc hc4 p0 n1,zlc hc4 p1 n1,zlc hc4 p2 n1,zlc hc4 p4 n2,zlc hc4 p5 n3⟩ ?_;clear hK K hSS hr4 hc4 had;(try simp only[zQ]);refine zd ?_;refine NoPanic.normal ?_;clear p0 p1 p2 p4 p5;go_wp2_with fail
       go_roundw
       case rel=>exact⟨j+1,by omega,by go_num,aC,oM,ig,_,HR4,zh (by simp[jX.out]),HA0,by have h0:=HA0.out;rw[h0] at HR4 ⊢;exact HE2⟩
       case measure=>simp[intOf];omega
      ·have HX:=zh (show R=(7,S) by
        have h1:=HD2.out;rw[if_neg (by simp[hn])] at h1;rw[HE.out,<-h1];rfl)
       have n1:(un != vn)=true:=by simpa using hn
       clear HD2;go_wp2_with fail
       go_quiet (fail)
       go_wp2_with fail;go_ret;exact⟨by rw[HX.out];rfl,P,by rw[HX.out];exact SStp.refl HS.out (zmg HB2.out nq),rfl⟩
     ·have HX:=zh (show R=(7,S) by
       have h1:=HD2.out;rw[if_neg (by simp[hk])] at h1;rw[HE.out,<-h1];rfl)
      have n1:(uk != vk)=true:=by simpa using hk
      clear HD2;go_wp2_with fail
      go_quiet (fail)
      go_wp2_with fail;go_ret;exact⟨by rw[HX.out];rfl,P,by rw[HX.out];exact SStp.refl HS.out (zmg HB2.out nq),rfl⟩
   ·obtain rfl:j=ps.length:=by omega
    have xQ:=zh (show E=.ok acc by
     have h1:=vM.out;rw[List.drop_eq_nil_of_le (by rw[List.length_zip];omega)] at h1;rw[<-h1];rfl)
    have bG:=zh (HS.out.later aj.out);obtain⟨AF,cF,lQ,hcF,-⟩:=bG.out.calls;have x3:wr.cell? ⟨P.sb,3,none⟩=some (.slice AF S.calls.length cF):=by rw[<-lQ];exact zc bG.out.box rfl
    have uZ:=zh lQ;obtain⟨L,hL⟩:∃ L,S.calls.length=L:=⟨_,rfl⟩
    rw[hL] at x3 hn0;have gV:=zh hL;have hj2:¬ (ps.length:Int)<(ps.length:Int):=by omega
    clear lQ hL hcF vM;by_cases mY:100<=L
    ·have HX:=zh (show R=(19,S) by rw[HE.out,xQ.out,entR,if_pos (by rw[gV.out];exact mY)]);obtain rfl:L=100:=by omega
     go_wp2_with fail;go_ret;exact⟨by rw[HX.out];rfl,P,by rw[HX.out];exact SStp.refl HS.out aj.out,rfl⟩
    ·have HX:=zh (show R=(0,{ S with calls:=S.calls++[acc] }) by rw[HE.out,xQ.out,entR,if_neg (by rw[gV.out];exact mY)]);obtain⟨hwf,hg0,hgl⟩:=zt6 HS.out.wf ps ss acc (fun v hv=>by
      obtain⟨q,hq,rfl⟩:=List.mem_iff_getElem.1 hv;obtain⟨_,_,_,_,tJ⟩:=HP.out q hq;exact tJ) hlp (rD.out.trans xQ.out) (by rw[gV.out];omega)
     have HW:=zh hwf;have HGL:=zh hgl;obtain⟨A1,c1,hvv,-,-⟩:=zkm (HRW.out.row 1);obtain⟨A2,c2,dQ,-,-⟩:=zkm (HRW.out.row 2);change vv=.slice A1 acc.vs.length c1 at hvv;change vc=.slice A2 acc.vs.length c2 at dQ;obtain⟨nv,nS⟩:∃ n,acc.vs.length=n:=⟨_,rfl⟩
     rw[nS] at hvv dQ;subst hvv dQ;have b0:wr.cell? ⟨W.heap.size,0,none⟩=some (.slice A1 nv c1):=HRW.out.cell 0 rfl rfl;have b1:wr.cell? ⟨W.heap.size,1,none⟩=some (.slice A2 nv c2):=HRW.out.cell 0 rfl rfl;have b2:wr.cell? ⟨W.heap.size,2,none⟩=some (.int .i64 0):=by
      have:=HRW.out.cell 0 (g:=W.heap.size) (o:=2) (u:=.int .i64 acc.loc) rfl rfl;rw[hg0] at this;exact this
     have hsbl:P.sb<W.heap.size:=(HS.out.rws.lt .sb P.sb rfl).2;have hn00:n0<=W.heap.size:=by have:=HS.out.rws.lt .sb P.sb rfl;omega
     have hL1:¬ (100:Int)<=(L:Int):=by omega
     have aS:=zh (fun W2 w3 hb2 v' h2 h3 h5=>zwg (W2:=W2) (w3:=w3) HS.out aj.out W.heap.size _ _ acc HRW.out hg0 hgl hwf hb2 v' h2 h3 h5);obtain⟨i1,hi1,hz0,hz1,hz2⟩:=info_parts zKW;have hbs:=zyB;clear hwf hgl nS;go_upto_region 19 with fail;have hSS:(fun w':World=>w'.cell? ⟨W.heap.size,0,none⟩=some (.slice A1 nv c1)/\w'.cell? ⟨W.heap.size,1,none⟩=some (.slice A2 nv c2)/\w'.cell? ⟨W.heap.size,2,none⟩=some (.int .i64 0)) wr.drew/\(fun w':World=>w'.cell? ⟨P.sb,3,none⟩=some (.slice AF L cF)) wr.drew:=⟨⟨b0,b1,b2⟩,x3⟩
     refine wp_region_noPanic ?_;refine zkc (fun w':World=>w'.cell? ⟨W.heap.size,0,none⟩=some (.slice A1 nv c1)/\w'.cell? ⟨W.heap.size,1,none⟩=some (.slice A2 nv c2)/\w'.cell? ⟨W.heap.size,2,none⟩=some (.int .i64 0)) (fun w':World=>w'.cell? ⟨P.sb,3,none⟩=some (.slice AF L cF)) 7 (by kernel_rfl) ?_;refine zT 0 hSS ?_;(try simp only[zQ]);refine zT 1 hSS ?_;(try simp only[zQ]);refine zT 2 hSS ?_;(try simp only[zQ]);refine zT 3 hSS ?_;(try simp only[zQ]);refine zkV (i:=4) (v:=?_) rfl (by kernel_rfl) (by kernel_rfl) (by kernel_rfl) (by decide) rfl (by kernel_rfl) (by kernel_rfl) (fun _ _ _ h=>h) (Or.inl ⟨by rfl,?_⟩) hSS ?_;rotate_left 1
     ·(intro w hSw;(try dsimp only at hSw);(try simp only[zA,zB,zC]);go_simp;(try with_reducible rfl))
     (try simp only[zQ]);refine zT 5 hSS ?_;(try simp only[zQ]);refine zo 6 fun K hK=>?_;(try simp only[zA,zB,zC]);go_simp;refine hK.out _ _ ⟨⟨zke b0 _,zke b1 _,zke b2 _⟩,zke x3 _⟩ ?_;clear hK K hSS;(try simp only[zQ]);obtain⟨W2,hW2⟩:∃ W2,(wr.alloc (.cells #[.slice A1 nv c1,.slice A2 nv c2,.int .i64 0] 92)).drew=W2:=⟨_,rfl⟩
     have hb2:Below wr.heap.size wr W2:=hW2▸(zkb (Below.refl _ _) _).drew;have aF:=zh (show ∀ j u,[Value.slice A1 nv c1,.slice A2 nv c2,.int .i64 0][j]?=some u->W2.cell? ((⟨wr.heap.size,0,none⟩:Addr).add j)=some u from hW2▸zk3 wr 92 [.slice A1 nv c1,.slice A2 nv c2,.int .i64 0]);have sW:W2.ownsRow n0 92 3 (.slice AF L cF) L (zk4 P 0 S.calls):=by
      have:=zk7 (bG.out.rws.row .calls) hb2;have e1:(rows P S .calls).v=.slice AF L cF:=by show P.vF=_;rw[uZ.out,gV.out]
      rw[e1] at this;rw[<-gV.out] at this ⊢;exact this
     have hs2:=hb2.size;have wG:=aj.out.size;have d0:=zb hb2 b0;have d1:=zb hb2 b1;have d2:=zb hb2 b2;have lF:=zh (fun w3 v'=>aS.out W2 w3 hb2 v');have oV:P.vF=.slice AF L cF:=by rw[uZ.out,gV.out]
     have aO:=zh (show ∀ b,(Value.slice AF L cF).ownBlock=some b->b≠W.heap.size from fun b hb e=>by
      have:=(HS.out.rws.lt .calls b (by show P.vF.ownBlock=_;rw[oV];exact hb)).2;omega)
     rw[gV.out,oV] at lF;rw[hW2];clear hW2 b0 b1 b2 x3 hb2 aS oV;refine zp 7 fun K hK=>?_;refine zlh (by rfl) (.tmp 80) (.tmp 82) 93 (by rfl) n0 92 i1 _ 3 56 Tryz.underlying93 hi1 hz0 hz1 hz2 rfl (by decide) (.slice AF L cF) L (zk4 P 0 S.calls) (by rfl) sW ⟨wr.heap.size,0,none⟩ 1 1 [.slice A1 nv c1,.slice A2 nv c2,.int .i64 0] (by rfl) rfl aF.out (by intro u hu;simp at hu;rcases hu with rfl|rfl|rfl<;>rfl) (by unfold maxLen;omega) (by omega) (by omega) ?_;intro v' w3 h2 h3 h5;obtain⟨g8,ay,rfl⟩:=ownsRow_succ h2;obtain⟨z0,zf,hfin⟩:=lF.out w3 _ h2 h3 h5;have iB:∀ i u,W2.cell? ⟨W.heap.size,i,none⟩=some u->w3.cell? ⟨W.heap.size,i,none⟩=some u:=fun i u hu=>(World.cell?_of_block (a:=⟨W.heap.size,i,none⟩) (h3.block _ (World.block_lt_of_cell? W2 _ hu) (fun e=>aO.out _ e.symm rfl))).trans hu
     have HY:=zh (show(fun w':World=>w'.cell? ⟨W.heap.size,0,none⟩=some (.slice A1 nv c1)/\w'.cell? ⟨W.heap.size,1,none⟩=some (.slice A2 nv c2)/\w'.cell? ⟨W.heap.size,2,none⟩=some (.int .i64 0)) w3 from ⟨iB _ _ d0,iB _ _ d1,iB _ _ d2⟩);have tX:=zh (show(fun w':World=>w'.cell? ⟨W.heap.size,0,none⟩=some (.slice A1 nv c1)/\w'.cell? ⟨W.heap.size,1,none⟩=some (.slice A2 nv c2)/\w'.cell? ⟨W.heap.size,2,none⟩=some (.int .i64 0)) (w3.setCell ⟨P.sb,3,none⟩ (.slice (some ⟨g8,0,none⟩) (L+1) ay)) from by
      have key:∀ i u,w3.cell? ⟨W.heap.size,i,none⟩=some u->(w3.setCell ⟨P.sb,3,none⟩ (.slice (some ⟨g8,0,none⟩) (L+1) ay)).cell? ⟨W.heap.size,i,none⟩=some u:=fun i u hu=>(World.cell?_of_block (a:=⟨W.heap.size,i,none⟩) (Below.heap_setCell _ _ _ _ (show P.sb≠W.heap.size by omega).symm)).trans hu;exact⟨key _ _ (iB _ _ d0),key _ _ (iB _ _ d1),key _ _ (iB _ _ d2)⟩)
     have oH:=zh hfin;refine hK.out _ _ HY.out ?_;clear hK K h2 h3 h5 hfin d0 d1 d2 sW aF lF iB;(try simp only[zQ]);refine zp 8 fun K hK=>?_;(try simp only[zA,zB,zC]);go_simp;refine hK.out _ _ HY.out ?_;clear hK K;(try simp only[zQ]);refine zp 9 fun K hK=>?_;(try simp only[zA,zB,zC]);go_simp;refine hK.out _ _ HY.out ?_;clear hK K;(try simp only[zQ]);refine zp 10 fun K hK=>?_;(try simp only[zA,zB,zC]);go_simp;refine hK.out _ _ tX.out ?_;clear hK K;(try simp only[zQ]);refine zd ?_;refine NoPanic.normal ?_;clear HY tX z0 zf;go_wp2_with fail;go_ret;refine⟨by rw[HX.out];rfl,P.enter L (.slice (some ⟨g8,0,none⟩) (L+1) ay) (.slice A1 nv c1) (.slice A2 nv c2),?_,rfl⟩;rw[HX.out];exact oH.out
 ·have HX:=zh (show R=(7,S) by rw[<-HRR.out,zkT,if_pos (by simpa using hlen)]);have e1:((ps.length:Int)==(ss.length:Int))=false:=by simp;omega
  have e2:((ps.length:Int) != (ss.length:Int))=true:=by simp;omega
  go_enter Tryz.func187,Tryz.ntmps187;go_wp2_with fail;go_ret;exact⟨by rw[HX.out];rfl,P,by rw[HX.out];exact SStp.refl HS.out (Below.refl _ _),rfl⟩
theorem zoE (xs ys:List Int) (A B:Option Addr) (c d:Nat) (w:World) (hx:RowI w Any A xs) (hy:RowI w Any B ys) (hl:xs.length<=1000000) (hm:ys.length<=1000000) :
  Calls Tryz.prog 62 #[.slice A xs.length c,.slice B ys.length d] w fun e w'=>e=.returned (.bool (decide (xs=ys)))/\Below w.heap.size w w':=by
 obtain⟨R,hR⟩:∃ R,decide (xs=ys)=R:=⟨_,rfl⟩
 rw[hR];have HR:=zh hR;have HX:=zh hx;have HY:=zh hy;clear hR hx hy;by_cases hlen:xs.length=ys.length
 ·have HL:=zh hlen;rw[<-hlen];clear hlen;go_enter Tryz.func62,Tryz.ntmps62;go_wp2_with fail
  go_loopw [5,13] (fun _ i wr=>∃ j:Nat,j<=xs.length/\i=.int .i64 j/\Below w.heap.size w wr/\Hid (xs.take j=ys.take j)) (fun _ i _=>xs.length-(intOf i).toNat)
  case atStart=>exact⟨0,Nat.zero_le _,rfl,Below.refl _ _,zh rfl⟩
  case round =>
   obtain⟨j,hj,rfl,hbl,HJ⟩:=hrel;have aj:=zh hbl;by_cases hlt:j<xs.length
   ·have hlt2:j<ys.length:=by rw[<-HL.out];exact hlt
    obtain⟨a,rfl,h1⟩:=(HX.out.later hbl).nd hlt;obtain⟨b,rfl,h2⟩:=(HY.out.later hbl).nd hlt2;obtain⟨x,hx⟩:∃ x,xs.getD j 0=x:=⟨_,rfl⟩
    obtain⟨y,hy⟩:∃ y,ys.getD j 0=y:=⟨_,rfl⟩
    rw[hx] at h1;rw[hy] at h2;have hx':xs[j]=x:=by rw[<-hx];simp[hlt]
    have hy':ys[j]=y:=by rw[<-hy];simp[hlt2]
    have HS:=zh (show(fun w':World=>w'.cell? (a.add j)=some (.int .i64 x)/\w'.cell? (b.add j)=some (.int .i64 y)) wr.drew from ⟨h1,h2⟩);have hj1:(j:Int)<(xs.length:Int):=by omega
    have HXJ:=zh hx';have HYJ:=zh hy';clear hbl hx hy hx' hy' h1 h2;go_upto_region 6 with fail
    go_region_held3 (fun w':World=>w'.cell? (a.add j)=some (.int .i64 x)/\w'.cell? (b.add j)=some (.int .i64 y))
     (with_reducible exact HS.out)
     (first|fail)
    by_cases hxy:x=y
    ·subst hxy;have HJ2:Hid (xs.take (j+1)=ys.take (j+1)):=zh (by rw[List.take_succ_eq_append_getElem hlt,List.take_succ_eq_append_getElem hlt2,HJ.out,HXJ.out,HYJ.out]);go_wp2_with fail
     go_roundw
     case rel=>exact⟨j+1,by omega,by go_num,aj.out.drew,HJ2⟩
     case measure=>simp[intOf];omega
    ·have e1:(x==y)=false:=by simpa using hxy
     have e2:(x != y)=true:=by simpa using hxy
     have HF:=zh (show R=false by rw[<-HR.out];exact decide_eq_false fun h=>hxy (by subst h;rw[<-HXJ.out,<-HYJ.out]));clear hxy;go_wp2_with fail;go_ret;exact⟨by rw[HF.out];rfl,aj.out.drew⟩
   ·obtain rfl:j=xs.length:=by omega
    have HF:=zh (show R=true by
     have h1:=HJ.out;rw[List.take_of_length_le (Nat.le_refl _),List.take_of_length_le (by rw[HL.out];exact Nat.le_refl _)] at h1;rw[<-HR.out];exact decide_eq_true h1)
    clear hbl;go_wp2_with fail;go_ret;exact⟨by rw[HF.out];rfl,aj.out⟩
 ·have HF:=zh (show R=false by rw[<-HR.out];exact decide_eq_false fun h=>hlen (by rw[h]));have e1:((xs.length:Int)==(ys.length:Int))=false:=by simp;omega
  have e2:((xs.length:Int) != (ys.length:Int))=true:=by simp;omega
  go_enter Tryz.func62,Tryz.ntmps62;go_wp2_with fail;go_ret;exact⟨by rw[HF.out];rfl,Below.refl _ _⟩
def zoG (w:World) (S:Nat->Prop) (A:Option Addr) (ls:List (List Int)):Prop :=
 ∀ i (hi:i<ls.length),∃ (a:Addr) (A':Option Addr) (c':Nat),A=some a/\S a.block/\w.cell? (a.add i)=some (.slice A' ls[i].length c')/\ls[i].length<=c'/\RowI w S A' ls[i]
structure SS where
 cells:List (List Int)
 tin:List Int
 tout:List Int
def SS.Lim (s:SS):Prop:=s.cells.length<=LI/\(∀ l∈s.cells,l.length<=LI)/\s.tin.length<=LI/\s.tout.length<=LI
def SV (w:World) (S:Nat->Prop) (s:SS) (v:Value):Prop :=
 ∃ A c B d D e,v=.agg #[.slice A s.cells.length c,.slice B s.tin.length d,.slice D s.tout.length e]/\zoG w S A s.cells/\RowI w S B s.tin/\RowI w S D s.tout/\s.cells.length<=c/\s.tin.length<=d/\s.tout.length<=e/\s.Lim
section
variable {w w':World} {S S':Nat->Prop} {A:Option Addr} {ls:List (List Int)}
theorem zoG.keep (h:zoG w S A ls) (hS:∀ b,S b->b<w.heap.size->S' b) (hk:∀ b,S b->b<w.heap.size->w'.heap[b]?=w.heap[b]?):zoG w' S' A ls:=fun i hi=>by
 obtain⟨a,A',c',hA,iZ,h0,hc,hr⟩:=h i hi;have hlt:a.block<w.heap.size:=by have:=World.block_lt_of_cell? w _ h0;rwa[zkW] at this
 refine⟨a,A',c',hA,hS _ iZ hlt,zlP h0 ?_,hc,hr.keep hS hk⟩;simp only[zkW];exact hk _ iZ hlt
theorem zoG.later (h:zoG w S A ls) (hb:Below w.heap.size w w'):zoG w' S A ls:=h.keep (fun _ h _=>h) fun b _ hlt=>hb.block b hlt
theorem SV.keep {s:SS} {v:Value} (h:SV w S s v) (hS:∀ b,S b->b<w.heap.size->S' b) (hk:∀ b,S b->b<w.heap.size->w'.heap[b]?=w.heap[b]?):SV w' S' s v:=by
 obtain⟨A,c,B,d,D,e,rfl,h1,h2,h3,h4⟩:=h;exact⟨A,c,B,d,D,e,rfl,h1.keep hS hk,h2.keep hS hk,h3.keep hS hk,h4⟩
theorem SV.later {s:SS} {v:Value} (h:SV w S s v) (hb:Below w.heap.size w w'):SV w' S s v:=h.keep (fun _ h _=>h) fun b _ hlt=>hb.block b hlt
theorem zoG.nd (h:zoG w Any A ls) {i:Nat} (hi:i<ls.length):∃ (a:Addr) (l:List Int) (A':Option Addr) (c':Nat),A=some a/\Hid (ls[i]=l)/\w.cell? (a.add i)=some (.slice A' l.length c')/\l.length<=c'/\RowI w Any A' l :=
 let ⟨a,A',c',h1,_,h3,h4,h5⟩:=h i hi;⟨a,ls[i],A',c',h1,rfl,h3,h4,h5⟩
end
theorem zp3 (xs ys:List (List Int)) (A B:Option Addr) (c d:Nat) (w:World) (hx:zoG w Any A xs) (hy:zoG w Any B ys) (hl:xs.length<=1000000) (hm:ys.length<=1000000) (hbx:∀ l∈xs,l.length<=1000000) (hby:∀ l∈ys,l.length<=1000000) :
  Calls Tryz.prog 61 #[.slice A xs.length c,.slice B ys.length d,.func (.func 62) #[] #[]] w fun e w'=>e=.returned (.bool (decide (xs=ys)))/\Below w.heap.size w w':=by
 obtain⟨R,hR⟩:∃ R,decide (xs=ys)=R:=⟨_,rfl⟩
 rw[hR];have HR:=zh hR;have HX:=zh hx;have HY:=zh hy;have aO:=zh hbx;have HBY:=zh hby;clear hR hx hy hbx hby;by_cases hlen:xs.length=ys.length
 ·have HL:=zh hlen;rw[<-hlen];clear hlen;go_enter Tryz.func61,Tryz.ntmps61;go_wp2_with fail
  go_loopw [17] (fun i wr=>∃ j:Nat,j<=xs.length/\i=.int .i64 j/\Below w.heap.size w wr/\Hid (xs.take j=ys.take j)) (fun i _=>xs.length-(intOf i).toNat)
  case atStart=>exact⟨0,Nat.zero_le _,rfl,Below.refl _ _,zh rfl⟩
  case round =>
   obtain⟨j,hj,rfl,hbl,HJ⟩:=hrel;have aj:=zh hbl;by_cases hlt:j<xs.length
   ·have hlt2:j<ys.length:=by rw[<-HL.out];exact hlt
    obtain⟨a,x,A1,c1,rfl,Hx,h1,_,hr1⟩:=(HX.out.later hbl).nd hlt;obtain⟨b,y,B1,d1,rfl,Hy,h2,_,hr2⟩:=(HY.out.later hbl).nd hlt2;have hlx:x.length<=1000000:=by rw[<-Hx.out];exact aO.out _ (List.getElem_mem hlt)
    have uP:y.length<=1000000:=by rw[<-Hy.out];exact HBY.out _ (List.getElem_mem hlt2)
    obtain⟨b0,hb0⟩:∃ b0,decide (x=y)=b0:=⟨_,rfl⟩
    have HCA:=zh (hb0▸zoE x y A1 B1 c1 d1 wr hr1 hr2 hlx uP);have HB0:=zh hb0;have hj1:(j:Int)<(xs.length:Int):=by omega
    clear hbl hr1 hr2 hb0;go_wp2_with fail;refine HCA.out.mono ?_;rintro e w2 ⟨rfl,ag⟩;have HB2:=zh (zka aj.out ag);clear ag h1 h2
    cases b0
    ·have HF:=zh (show R=false by
      rw[<-HR.out];refine decide_eq_false fun h=>of_decide_eq_false HB0.out ?_;subst h;rw[<-Hx.out,<-Hy.out])
     go_wp2_with fail;go_ret;exact⟨by rw[HF.out];rfl,HB2.out⟩
    ·have HJ2:Hid (xs.take (j+1)=ys.take (j+1)):=zh (by rw[List.take_succ_eq_append_getElem hlt,List.take_succ_eq_append_getElem hlt2,HJ.out,Hx.out,Hy.out,of_decide_eq_true HB0.out]);go_wp2_with fail
     go_roundw
     case rel=>exact⟨j+1,by omega,by go_num,HB2.out,HJ2⟩
     case measure=>simp[intOf];omega
   ·obtain rfl:j=xs.length:=by omega
    have HF:=zh (show R=true by
     have h1:=HJ.out;rw[List.take_of_length_le (Nat.le_refl _),List.take_of_length_le (by rw[HL.out];exact Nat.le_refl _)] at h1;rw[<-HR.out];exact decide_eq_true h1)
    clear hbl;go_wp2_with fail;go_ret;exact⟨by rw[HF.out];rfl,aj.out⟩
 ·have HF:=zh (show R=false by rw[<-HR.out];exact decide_eq_false fun h=>hlen (by rw[h]));have e1:((xs.length:Int)==(ys.length:Int))=false:=by simp;omega
  have e2:((xs.length:Int) != (ys.length:Int))=true:=by simp;omega
  go_enter Tryz.func61,Tryz.ntmps61;go_wp2_with fail;go_ret;exact⟨by rw[HF.out];rfl,Below.refl _ _⟩
def SS.Sm (s:SS):Prop:=s.cells.length<=1000000/\(∀ l∈s.cells,l.length<=1000000)/\s.tin.length<=1000000/\s.tout.length<=1000000
def eqS (s t:SS):Bool:=decide (s.cells=t.cells)&&decide (s.tin=t.tin)&&decide (s.tout=t.tout)
theorem zs3 (s t:SS) (v1 v2:Value) (w:World) (h1:SV w Any s v1) (h2:SV w Any t v2) (hs:s.Sm) (ht:t.Sm):Calls Tryz.prog 21 #[v1,v2] w fun e w'=>e=.returned (.bool (eqS s t))/\Below w.heap.size w w':=by
 obtain⟨A,c,B,d,D,e,rfl,hr1,hr2,hr3,-⟩:=h1;obtain⟨A',c',B',d',D',e',rfl,hq1,hq2,hq3,-⟩:=h2;obtain⟨b1,hb1⟩:∃ b,decide (s.cells=t.cells)=b:=⟨_,rfl⟩
 obtain⟨b2,hb2⟩:∃ b,decide (s.tin=t.tin)=b:=⟨_,rfl⟩
 obtain⟨b3,hb3⟩:∃ b,decide (s.tout=t.tout)=b:=⟨_,rfl⟩
 have hR:eqS s t=(b1&&b2&&b3):=by rw[<-hb1,<-hb2,<-hb3];rfl
 obtain⟨R,hRR⟩:∃ R,eqS s t=R:=⟨_,rfl⟩
 have HRR:=zh (show R=(b1&&b2&&b3) by rw[<-hRR];exact hR);rw[hRR];have H1:=zh (show ∀ w',Below w.heap.size w w'->Calls Tryz.prog 61 #[.slice A s.cells.length c,.slice A' t.cells.length c',.func (.func 62) #[] #[]] w' fun e w''=>e=.returned (.bool b1)/\Below w'.heap.size w' w'' from fun w' hb=>hb1▸zp3 s.cells t.cells A A' c c' w' (hr1.later hb) (hq1.later hb) hs.1 ht.1 hs.2.1 ht.2.1);have H2:=zh (show ∀ w',Below w.heap.size w w'->Calls Tryz.prog 62 #[.slice B s.tin.length d,.slice B' t.tin.length d'] w' fun e w''=>e=.returned (.bool b2)/\Below w'.heap.size w' w'' from fun w' hb=>hb2▸zoE s.tin t.tin B B' d d' w' (hr2.later hb) (hq2.later hb) hs.2.2.1 ht.2.2.1)
 have H3:=zh (show ∀ w',Below w.heap.size w w'->Calls Tryz.prog 62 #[.slice D s.tout.length e,.slice D' t.tout.length e'] w' fun e w''=>e=.returned (.bool b3)/\Below w'.heap.size w' w'' from fun w' hb=>hb3▸zoE s.tout t.tout D D' e e' w' (hr3.later hb) (hq3.later hb) hs.2.2.2 ht.2.2.2);generalize s.cells.length=l1,s.tin.length=l2,s.tout.length=l3,t.cells.length=m1,t.tin.length=m2,t.tout.length=m3 at *
 clear hr1 hr2 hr3 hq1 hq2 hq3 hs ht hb1 hb2 hb3 hR hRR;go_enter Tryz.func21,Tryz.ntmps21;go_wp2_with fail;have q0:Below w.heap.size w ((w.alloc (.cells #[.slice A l1 c,.slice B l2 d,.slice D l3 e] 26)).alloc (.cells #[.slice A' m1 c',.slice B' m2 d',.slice D' m3 e'] 26)):=zkb (zkb (Below.refl _ _) _) _;have hP:=zkl (heap_alloc_new w (.cells #[.slice A l1 c,.slice B l2 d,.slice D l3 e] 26)) (.cells #[.slice A' m1 c',.slice B' m2 d',.slice D' m3 e'] 26);have hQ:=heap_alloc_new (w.alloc (.cells #[.slice A l1 c,.slice B l2 d,.slice D l3 e] 26)) (.cells #[.slice A' m1 c',.slice B' m2 d',.slice D' m3 e'] 26);simp only[World.size_alloc] at hQ;refine(H1.out _ q0).mono ?_;rintro e9 w1 ⟨rfl,aa⟩;have q1:=zka q0 aa;have hP1:=zkd hP aa;have rX:=zkd hQ aa;have x1:w1.cell? ⟨w.heap.size,1,none⟩=some (.slice B l2 d):=zc hP1 rfl
 have x2:w1.cell? ⟨w.heap.size,2,none⟩=some (.slice D l3 e):=zc hP1 rfl;have y1:w1.cell? ⟨w.heap.size+1,1,none⟩=some (.slice B' m2 d'):=zc rX rfl;have y2:w1.cell? ⟨w.heap.size+1,2,none⟩=some (.slice D' m3 e'):=zc rX rfl;clear hP hQ hP1 rX q0 aa
 cases b1
 ·have HX:=zh (show R=false by rw[HRR.out];rfl);go_wp2_with fail;go_ret;exact⟨by rw[HX.out];rfl,q1⟩
 ·go_wp2_with fail;refine(H2.out _ q1).mono ?_;rintro e9 w2 ⟨rfl,ag⟩;have q2:=zka q1 ag;have z2:=zb ag x2;have u2:=zb ag y2;clear ag x1 x2 y1 y2
  cases b2
  ·have HX:=zh (show R=false by rw[HRR.out];rfl);go_wp2_with fail;go_ret;exact⟨by rw[HX.out];rfl,q2⟩
  ·go_wp2_with fail;refine(H3.out _ q2).mono ?_;rintro e9 w3 ⟨rfl,az⟩;have q3:=zka q2 az;have HX:=zh (show R=b3 by rw[HRR.out];simp);clear az z2 u2;go_wp2_with fail;go_ret;exact⟨by rw[HX.out];rfl,q3⟩
def vdB (v:VD):Bool:=if v.k=1\/v.k=3 then v.n==0 else if v.k=2 then decide (1<=v.n/\v.n<=16) else false
def svB (vs:List VD):Bool:=decide (vs.length<=32)&&vs.all vdB
def fixE (v:VD):Int:=if v.k=1 then 1 else v.n
theorem zv9 (v:VD) (w:World):Calls Tryz.prog 87 #[.agg #[.string v.s,.int .u8 v.k,.int .i64 v.n]] w fun e w'=>e=.returned (.int .i64 (fixE v))/\Below w.heap.size w w':=by
 obtain⟨s,k,n⟩:=v;dsimp only;by_cases h:k=1
 ·subst h;go_enter Tryz.func87,Tryz.ntmps87;go_wp2_with fail;go_ret;exact⟨rfl,zkb (Below.refl _ _) _⟩
 ·have e1:(k==1)=false:=by simpa using h
  have HX:=zh (show fixE ⟨s,k,n⟩=n by simp[fixE,h]);obtain⟨R,hR⟩:∃ R,fixE ⟨s,k,n⟩=R:=⟨_,rfl⟩
  rw[hR] at HX ⊢;clear h hR;go_enter Tryz.func87,Tryz.ntmps87;go_wp2_with fail;go_ret;exact⟨by rw[HX.out];rfl,zkb (Below.refl _ _) _⟩
theorem zue (vs:List VD) (A:Option Addr) (c:Nat) (w:World) (hrow:RowV w Any A vs) (hl:vs.length<=LV):Calls Tryz.prog 86 #[.slice A vs.length c] w fun e w'=>e=.returned (.bool (svB vs))/\Below w.heap.size w w':=by
 have hl':=zlE hl;obtain⟨R,hR⟩:∃ R,svB vs=R:=⟨_,rfl⟩
 rw[hR];have HR:=zh hR;have ae:=zh hrow;clear hR hrow hl;by_cases h32:vs.length<=32
 ·have HN:=zh (show R=vs.all vdB by rw[<-HR.out,svB,decide_eq_true h32];rfl);clear HR;go_enter Tryz.func86,Tryz.ntmps86;go_wp2_with fail
  go_loopw [10] (fun i wr=>∃ j:Nat,j<=vs.length/\i=.int .i64 j/\Below w.heap.size w wr/\Hid ((vs.take j).all vdB=true)) (fun i _=>vs.length-(intOf i).toNat)
  case atStart=>exact⟨0,Nat.zero_le _,rfl,Below.refl _ _,zh rfl⟩
  case round =>
   obtain⟨j,hj,rfl,hbl,HJ⟩:=hrel;have aj:=zh hbl;by_cases hlt:j<vs.length
   ·obtain⟨a,rfl,-,⟨y0,y1,y2⟩,-⟩:=(ae.out.later hbl) j hlt;obtain⟨v,hv⟩:∃ v,vs[j]=v:=⟨_,rfl⟩
    rw[hv] at y0 y1 y2;obtain⟨vm,vk,vn⟩:=v;have Hv:=zh hv;have dW:=zh (show vdB ⟨vm,vk,vn⟩=true->(vs.take (j+1)).all vdB=true from fun h=>by rw[List.take_succ_eq_append_getElem hlt,List.all_append,HJ.out,hv];simp[h]);have bY:=zh (show vdB ⟨vm,vk,vn⟩=false->R=false from fun h=>by
     rw[HN.out];exact Bool.eq_false_iff.2 fun h'=>by
      have:=List.all_eq_true.1 h' _ (List.getElem_mem hlt);rw[hv,h] at this
      cases this)
    dsimp only at y0 y1 y2;clear hbl hv;have hb0:∀ b,vdB ⟨vm,vk,vn⟩=b->True:=fun _ _=>trivial;by_cases k13:vk=1\/vk=3
    ·by_cases hn:vn=0
     ·have HJ2:=zh (dW.out (by simp[vdB,k13,hn]));subst hn;clear dW bY hb0;rcases k13 with rfl|rfl
      all_goals
       go_wp2_with fail
       go_roundw
       case rel=>exact⟨j+1,by omega,by go_num,zkb aj.out _,HJ2⟩
       case measure=>simp[intOf];omega
     ·have HX:=zh (bY.out (by simp[vdB,k13,hn]));have e1:(vn==0)=false:=by simpa using hn
      have e2:(vn != 0)=true:=by simpa using hn
      clear dW bY hb0 hn;rcases k13 with rfl|rfl
      all_goals
       go_wp2_with fail;go_ret;exact⟨by rw[HX.out];rfl,zkb aj.out _⟩
    ·by_cases k2:vk=2
     ·subst k2;by_cases h1:vn<1
      ·have HX:=zh (bY.out (by simp[vdB];omega));clear dW bY hb0 k13;go_wp2_with fail;go_ret;exact⟨by rw[HX.out];rfl,zkb aj.out _⟩
      ·by_cases h16:16<vn
       ·have HX:=zh (bY.out (by simp[vdB];omega));clear dW bY hb0 k13;go_wp2_with fail;go_ret;exact⟨by rw[HX.out];rfl,zkb aj.out _⟩
       ·have HJ2:=zh (dW.out (by simp[vdB];omega));clear dW bY hb0 k13;go_wp2_with fail
        go_roundw
        case rel=>exact⟨j+1,by omega,by go_num,zkb aj.out _,HJ2⟩
        case measure=>simp[intOf];omega
     ·have HX:=zh (bY.out (by simp[vdB,k13,k2]));have x1:(vk==1)=false:=by simp;omega
      have x2:(vk==2)=false:=by simp;omega
      have x3:(vk==3)=false:=by simp;omega
      clear dW bY hb0 k13 k2;go_wp2_with fail;go_ret;exact⟨by rw[HX.out];rfl,zkb aj.out _⟩
   ·obtain rfl:j=vs.length:=by omega
    have HX:=zh (show R=true by
     have:=HJ.out;rw[List.take_of_length_le (Nat.le_refl _)] at this;rw[HN.out];exact this)
    clear hbl;go_wp2_with fail;go_ret;exact⟨by rw[HX.out];rfl,aj.out⟩
 ·have HX:=zh (show R=false by rw[<-HR.out,svB,decide_eq_false h32];rfl);have h33:(32:Int)<(vs.length:Int):=by omega
  clear h32;go_enter Tryz.func86,Tryz.ntmps86;go_wp2_with fail;go_ret;exact⟨by rw[HX.out];rfl,Below.refl _ _⟩
def fit1 (v:VD) (l:List Int):Bool:=if v.k=3 then decide (l.length<=1000) else decide ((l.length:Int)=fixE v)
def znc:List VD->List (List Int)->Bool
 | v::vs,l::ls=>fit1 v l&&znc vs ls
 | _,_=>true
def fitB (vs:List VD) (s:SS):Bool:=svB vs&&decide (s.cells.length=vs.length)&&decide (s.tin.length<=4096)&&decide (s.tout.length<=4096)&&znc vs s.cells
theorem zqt:∀ {vs:List VD} {ls:List (List Int)} {j:Nat} (h:j<vs.length) (h':j<ls.length),znc (vs.take (j+1)) (ls.take (j+1))=(znc (vs.take j) (ls.take j)&&fit1 vs[j] ls[j])
 | v::vs,l::ls,0,_,_=>by simp[znc]
 | v::vs,l::ls,j+1,h,h'=>by
  have:=zqt (vs:=vs) (ls:=ls) (j:=j) (by simpa using h) (by simpa using h');simp only[List.take,znc,List.getElem_cons_succ] at this ⊢;rw[this,Bool.and_assoc]
theorem ztM:∀ {vs:List VD} {ls:List (List Int)} {j:Nat} (h:j<vs.length) (h':j<ls.length),fit1 vs[j] ls[j]=false->znc vs ls=false
 | v::vs,l::ls,0,_,_,h=>by simp only[znc,List.getElem_cons_zero] at *;simp[h]
 | v::vs,l::ls,j+1,h,h',h0=>by
  have:=ztM (vs:=vs) (ls:=ls) (j:=j) (by simpa using h) (by simpa using h') (by simpa using h0);simp[znc,this]
theorem zy0 (vs:List VD) (s:SS) (A0:Option Addr) (c0:Nat) (v:Value) (w:World) (hrow:RowV w Any A0 vs) (hl:vs.length<=LV) (hv:SV w Any s v):Calls Tryz.prog 46 #[.slice A0 vs.length c0,v] w fun e w'=>e=.returned (.bool (fitB vs s))/\Below w.heap.size w w':=by
 obtain⟨A,c,B,d,D,e,rfl,hr1,hr2,hr3,hc1,hc2,hc3,hl1,hl2,hl3,hl4⟩:=hv;have hl':=zlE hl;have pG:=zqG hl1;have hl3':=zqG hl3;have hl4':=zqG hl4;obtain⟨R,hR⟩:∃ R,fitB vs s=R:=⟨_,rfl⟩
 rw[hR];have HR:=zh hR;have ae:=zh hrow;have HR1:=zh hr1;have HL2:=zh hl2;obtain⟨b0,hb0⟩:∃ b,svB vs=b:=⟨_,rfl⟩
 have HV:=zh (show ∀ w',Below w.heap.size w w'->Calls Tryz.prog 86 #[.slice A0 vs.length c0] w' fun e w''=>e=.returned (.bool b0)/\Below w'.heap.size w' w'' from fun w' hb=>hb0▸zue vs A0 c0 w' (hrow.later hb) hl);have HB0:=zh hb0;obtain⟨n1,hn1⟩:∃ n,s.cells.length=n:=⟨_,rfl⟩
 obtain⟨n2,hn2⟩:∃ n,s.tin.length=n:=⟨_,rfl⟩
 obtain⟨n3,gu⟩:∃ n,s.tout.length=n:=⟨_,rfl⟩
 have eG:=zh hn1;have HN:=zh (show R=(b0&&decide (n1=vs.length)&&decide (n2<=4096)&&decide (n3<=4096)&&znc vs s.cells) by rw[<-hR,<-hb0,<-hn1,<-hn2,<-gu];rfl);rw[hn1,hn2,gu];rw[hn1] at pG;rw[hn2] at hl3';rw[gu] at hl4';clear hR hrow hr1 hr2 hr3 hc1 hc2 hc3 hl1 hl2 hl3 hl4 hl hb0 hn1 hn2 gu HR;go_enter Tryz.func46,Tryz.ntmps46;go_wp2_with fail;refine(HV.out _ (zkb (Below.refl _ _) _)).mono ?_;rintro e9 w1 ⟨rfl,aa⟩;have q1:=zka (zkb (Below.refl w.heap.size w) _) aa;have hP:=zkd (heap_alloc_new w (.cells #[.slice A n1 c,.slice B n2 d,.slice D n3 e] 26)) aa;have x0:w1.cell? ⟨w.heap.size,0,none⟩=some (.slice A n1 c):=zc hP rfl;have x1:w1.cell? ⟨w.heap.size,1,none⟩=some (.slice B n2 d):=zc hP rfl;have x2:w1.cell? ⟨w.heap.size,2,none⟩=some (.slice D n3 e):=zc hP rfl;have HP:=zh hP;have bN:=zh q1;clear hP q1 aa
 cases b0
 ·have HX:=zh (show R=false by rw[HN.out];simp);clear HN;go_wp2_with fail;go_ret;exact⟨by rw[HX.out];rfl,bN.out⟩
 by_cases k1:n1=vs.length
 case neg =>
  have HX:=zh (show R=false by rw[HN.out];simp[k1]);have e1:((n1:Int)==(vs.length:Int))=false:=by simp;omega
  have e2:((n1:Int) != (vs.length:Int))=true:=by simp;omega
  clear HN k1;go_wp2_with fail;go_ret;exact⟨by rw[HX.out];rfl,bN.out⟩
 by_cases k2:n2<=4096
 case neg =>
  have HX:=zh (show R=false by rw[HN.out];simp[k2]);have e1:((n1:Int)==(vs.length:Int))=true:=by simp;omega
  have e2:((n1:Int) != (vs.length:Int))=false:=by simp;omega
  have e3:(4096:Int)<(n2:Int):=by omega
  clear HN k1 k2;go_wp2_with fail;go_ret;exact⟨by rw[HX.out];rfl,bN.out⟩
 by_cases k3:n3<=4096
 case neg =>
  have HX:=zh (show R=false by rw[HN.out];simp[k3]);have e1:((n1:Int)==(vs.length:Int))=true:=by simp;omega
  have e2:((n1:Int) != (vs.length:Int))=false:=by simp;omega
  have e3:¬ (4096:Int)<(n2:Int):=by omega
  have e4:(4096:Int)<(n3:Int):=by omega
  clear HN k1 k2 k3;go_wp2_with fail;go_ret;exact⟨by rw[HX.out];rfl,bN.out⟩
 subst k1;have HX:=zh (show R=znc vs s.cells by rw[HN.out];simp[k2,k3]);have e3:¬ (4096:Int)<(n2:Int):=by omega
 have e4:¬ (4096:Int)<(n3:Int):=by omega
 clear HN k2 k3 HV;go_wp2_with fail;clear x0 x1 x2
 go_loopw [32] (fun i wr=>∃ j:Nat,j<=vs.length/\i=.int .i64 j/\Below w.heap.size w wr/\wr.heap[w.heap.size]?=some (.cells #[.slice A vs.length c,.slice B n2 d,.slice D n3 e] 26 (0,0))/\Hid (znc (vs.take j) (s.cells.take j)=true)) (fun i _=>vs.length-(intOf i).toNat)
 case atStart=>exact⟨0,Nat.zero_le _,rfl,bN.out,HP.out,zh (by simp[znc])⟩
 case round =>
  obtain⟨j,hj,rfl,hbl,hbx,HJ⟩:=hrel;have aj:=zh hbl;have aO:=zh hbx;by_cases hlt:j<vs.length
  ·have hlt2:j<s.cells.length:=by rw[eG.out];exact hlt
   obtain⟨a,rfl,-,⟨y0,y1,y2⟩,-⟩:=(ae.out.later hbl) j hlt;obtain⟨a',l,A',c',rfl,Hl,z0,_,-⟩:=(HR1.out.later hbl).nd hlt2;have hll:l.length<=LI:=by rw[<-Hl.out];exact HL2.out _ (List.getElem_mem hlt2)
   have hll':=zqG hll;obtain⟨v,hv⟩:∃ v,vs[j]=v:=⟨_,rfl⟩
   rw[hv] at y0 y1 y2;have x0:wr.cell? ⟨w.heap.size,0,none⟩=some (.slice (some a') vs.length c):=zc hbx rfl;have x0':=fun o=>zke (o:=o) x0;have z0':=fun o=>zke (o:=o) z0;have dW:=zh (show fit1 v l=true->znc (vs.take (j+1)) (s.cells.take (j+1))=true from fun h=>by rw[zqt hlt hlt2,HJ.out,hv,Hl.out,h];rfl);have bY:=zh (show fit1 v l=false->R=false from fun h=>by rw[HX.out];exact ztM hlt hlt2 (by rw[hv,Hl.out];exact h));have xO:=zh (zv9 v);have hj1:(j:Int)<(vs.length:Int):=by omega
   obtain⟨vm,vk,vn⟩:=v;dsimp only at y0 y1 y2 xO;clear hbl hbx hv hll;by_cases k3:vk=3
   ·subst k3;by_cases h1:l.length<=1000
    ·have HJ2:=zh (dW.out (by simp[fit1,h1]));have e5:¬ (1000:Int)<(l.length:Int):=by omega
     clear dW bY h1;go_wp2_with fail
     go_roundw
     case rel=>exact⟨j+1,by omega,by go_num,zkb aj.out _,zkl aO.out _,HJ2⟩
     case measure=>simp[intOf];omega
    ·have bf:=zh (bY.out (by simp[fit1];omega));have e5:(1000:Int)<(l.length:Int):=by omega
     clear dW bY h1;go_wp2_with fail;go_ret;exact⟨by rw[bf.out];rfl,zkb aj.out _⟩
   ·have x3:(vk==3)=false:=by simpa using k3
    obtain⟨fx,hfx⟩:∃ fx,fixE ⟨vm,vk,vn⟩=fx:=⟨_,rfl⟩
    rw[hfx] at xO;have ji:=zh k3;have vK:=zh hfx;clear k3 hfx;obtain⟨W6,wR⟩:∃ W6,wr.alloc (.cells #[.string vm,.int .u8 vk,.int .i64 vn] 83)=W6:=⟨_,rfl⟩
    have rV:=heap_alloc_new wr (.cells #[.string vm,.int .u8 vk,.int .i64 vn] 83);have hx6:=x0' (.cells #[.string vm,.int .u8 vk,.int .i64 vn] 83);have eT:=z0' (.cells #[.string vm,.int .u8 vk,.int .i64 vn] 83);have q6:Below wr.heap.size wr W6:=wR▸zkb (Below.refl _ _) _;rw[wR] at rV hx6 eT;have aP:=zh (show ∀ w',Below W6.heap.size W6 w'->(fun w':World=>w'.cell? ⟨w.heap.size,0,none⟩=some (.slice (some a') vs.length c)/\w'.cell? (a'.add j)=some (.slice A' l.length c')/\w'.cell? ⟨wr.heap.size,0,none⟩=some (.string vm)/\w'.cell? ⟨wr.heap.size,1,none⟩=some (.int .u8 vk)/\w'.cell? ⟨wr.heap.size,2,none⟩=some (.int .i64 vn)) w' from fun w' hb=>⟨zb hb hx6,zb hb eT,zc (zkd rV hb) rfl,zc (zkd rV hb) rfl,zc (zkd rV hb) rfl⟩);have aM:=zh (aP.out _ (Below.refl _ _).drew);have nG:=zh (zka aj.out q6);have HX6:=zh (zkd aO.out q6);clear q6 hx6 eT x0 x0' z0 z0'
    have bW:W6.cell? ⟨wr.heap.size,1,none⟩=some (.int .u8 vk):=zc rV rfl;go_upto_region 9 with fail;clear bW
    go_region_held3 (fun w':World=>w'.cell? ⟨w.heap.size,0,none⟩=some (.slice (some a') vs.length c)/\w'.cell? (a'.add j)=some (.slice A' l.length c')/\w'.cell? ⟨wr.heap.size,0,none⟩=some (.string vm)/\w'.cell? ⟨wr.heap.size,1,none⟩=some (.int .u8 vk)/\w'.cell? ⟨wr.heap.size,2,none⟩=some (.int .i64 vn))
     (first|with_reducible exact aD.out|with_reducible exact aM.out)
     (first
      | (go_at_call 87;refine(xO.out _).mono ?_;rintro e7 y7 ⟨rfl,by7⟩;have b7:=zka (Below.refl W6.heap.size W6).drew by7;have aD:=zh (aP.out _ b7))
      | fail)
    have HQ7:=zh (zka nG.out b7);have HX7:=zh (zkd HX6.out b7);clear b7 by7 aD aM rV y0 y1 y2 wR;by_cases hf:(l.length:Int)=fx
    ·have HJ2:=zh (dW.out (by rw[fit1,if_neg ji.out,vK.out];exact decide_eq_true hf));have e5:((l.length:Int)==fx)=true:=by simpa using hf
     have e6:((l.length:Int) != fx)=false:=by simpa using hf
     clear dW bY hf;go_wp2_with fail
     go_roundw
     case rel=>exact⟨j+1,by omega,by go_num,HQ7.out,HX7.out,HJ2⟩
     case measure=>simp[intOf];omega
    ·have bf:=zh (bY.out (by rw[fit1,if_neg ji.out,vK.out];exact decide_eq_false hf));have e5:((l.length:Int)==fx)=false:=by simpa using hf
     have e6:((l.length:Int) != fx)=true:=by simpa using hf
     clear dW bY hf;go_wp2_with fail;go_ret;exact⟨by rw[bf.out];rfl,HQ7.out⟩
  ·obtain rfl:j=vs.length:=by omega
   have bf:=zh (show R=true by
    have:=HJ.out;rw[List.take_of_length_le (Nat.le_refl _),List.take_of_length_le (by rw[eG.out];exact Nat.le_refl _)] at this;rw[HX.out];exact this)
   clear hbl hbx;go_wp2_with fail;go_ret;exact⟨by rw[bf.out];rfl,aj.out⟩
end Go.Proofs.YtckhofdinldhpaaGreat
