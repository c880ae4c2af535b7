/-
  Texts of the proof, put together without their remarks: Lte, Lift, LiftV, LiftS, LiftC, LiftE.
-/
import Derived.Test.YtckhofdinldhpaaGreatE10
import Derived.Deep.CutBlock
import Derived.Test.YtckhofdinldhpaaGreatRows
import Derived.ProofKit
import Derived.SizedLaws
import Derived.Deep.Slices
import Derived.Deep.Fields
import Derived.Lib.SmallJoins
import Derived.ChangeSlices
set_option linter.unusedSimpArgs false
set_option linter.unusedVariables false
set_option maxHeartbeats 8000000
set_option maxRecDepth 100000
namespace Go.Proofs.YtckhofdinldhpaaGreat
open Go Go.RowKit
theorem zuU:IsFn Tryz.prog 35 Tryz.f35:=⟨Tryz.func35,by kernel_rfl,by kernel_rfl⟩
theorem zs3:IsFn Tryz.prog 34 Tryz.f34:=⟨Tryz.func34,by kernel_rfl,by kernel_rfl⟩
theorem zpc (s:SS) (es:List (List CH)) (y:Int) (A0:Option Addr) (c0:Nat) (sv:Value) (W:World) (hs:SV W Any s sv) (he:RowE W Any A0 es) (hel:es.length<=4398046511103*2) (hee:∀ e∈es,e.length<=4398046511103/\∀ q∈e,q.I) (hy:I64 y) :
  Calls Tryz.prog 8 #[sv,.slice A0 es.length c0,.int .i64 y] W fun e W'=>e=.returned (.bool true)/\Below W.heap.size W W':=by
 obtain⟨A,c,B,d,D,e,rfl⟩:=hs.slices;have HI:=zh (zom hs);have HE:=zh he;have kS:=zh hel;have sG:=zh hee;obtain⟨n,hn⟩:∃ n,s.cells.length=n:=⟨_,rfl⟩
 have HN:=zh hn;rw[hn] at hs;rw[hn];have HS:=zh hs;have k1:=heap_alloc_new W (.cells #[.slice A n c,.slice B s.tin.length d,.slice D s.tout.length e] 26);have hb1:=zkd (Below.refl W.heap.size W) (.cells #[.slice A n c,.slice B s.tin.length d,.slice D s.tout.length e] 26);obtain⟨w1,hw1⟩:∃ x,W.alloc (.cells #[.slice A n c,.slice B s.tin.length d,.slice D s.tout.length e] 26)=x:=⟨_,rfl⟩
 rw[hw1] at k1 hb1;have HB1:=zh hb1;have aN:=zh k1;have HW1:=zh hw1;have HAW:=zh (zqO w1);clear hs he hel hee hn k1 hb1;go_enter Tryz.func8,Tryz.ntmps8;go_wp2_with fail;refine HAW.out.mono ?_;rintro e2 w2 ⟨rfl,hb2⟩;clear hw1 HAW;obtain⟨s0,s1,s2⟩:=zlp (zkc aN.out hb2);have HB2:=zh (zka HB1.out hb2);have bE:=zh hb2;have hev:=zqI (c0:=c0) (HS.out.later HB2.out) (HE.out.later HB2.out) kS.out (fun e he=>(sG.out e he).1) (v:=.agg #[.slice A n c,.slice B s.tin.length d,.slice D s.tout.length e]);have um:=zh hev;clear hev hb2;go_wp2_with fail;refine um.out.mono ?_;rintro e3 w4 ⟨r,rfl,hr,hb4⟩;have aM:=zh hb4;have az:=zh (zka HB2.out hb4)
 replace s0:=zb hb4 s0
 replace s1:=zb hb4 s1
 replace s2:=zb hb4 s2
 clear hb4 um;rcases hr with rfl|⟨rfl,hr⟩
 ·go_wp2_with fail;go_ret;exact⟨rfl,az.out⟩
 have dU:=zh hr;have HG:=zh (show zmr n s from ⟨HN.out,fun l hl=>by have:=hr.row l hl;omega,by have:=hr.tin;omega,by have:=hr.tout;omega,HI.out⟩);have aX:=zh (show n<=1000 by have:=hr.cells;have:=HN.out;omega);have dP:=zh (show EvOk es from ⟨by have:=hr.n;omega,fun e he=>⟨(sG.out e he).2,(sG.out e he).1⟩⟩);clear hr;have k4:=heap_alloc_new w4 (.cells #[.slice A n c,.slice B s.tin.length d,.slice D s.tout.length e] 26);have jH:=zkd (Below.refl w4.heap.size w4) (.cells #[.slice A n c,.slice B s.tin.length d,.slice D s.tout.length e] 26);go_upto_region 7 with fail;obtain⟨w5,iD⟩:∃ x,w4.alloc (.cells #[.slice A n c,.slice B s.tin.length d,.slice D s.tout.length e] 26)=x:=⟨_,rfl⟩
 obtain⟨xb,hxb⟩:∃ x,w4.heap.size=x:=⟨_,rfl⟩
 rw[iD] at k4 jH;rw[iD,hxb];have kC:=zh jH;have HXB:=zh hxb;rw[hxb] at k4;have aW:=zh (zka az.out jH);have lL:=zh (show w5.heap[xb]?=some (.cells #[.slice A s.cells.length c,.slice B s.tin.length d,.slice D s.tout.length e] 26 (0,0)) by rw[HN.out];exact k4);have oL:=zh (show SV w5 (fun q=>q≠xb) s (.agg #[.slice A s.cells.length c,.slice B s.tin.length d,.slice D s.tout.length e]) by
  rw[HN.out];exact HS.out.keep (fun q _ hlt=>by have:=az.out.size;show q≠xb;omega) fun q _ hlt=>aW.out.block q hlt)
 have HS0:=zh (show w5.heap[W.heap.size]?=_ from zkc aN.out (zka (zka (show Below w1.heap.size w1 w2 from bE.out) aM.out) jH));clear k4 jH iD hxb s0 s1 s2
 go_upto_block 0 with fail
 go_cut [7,9] from 28 to 46 (fun ev i wx=>∃ er x Ax cx Bx dx Dx ex,ev=.int .i64 er/\Hid (Chg (fun q=>q=xb) w5 wx)/\Hid (atE s es=(er,x))/\Hid (wx.heap[xb]?=some (.cells #[.slice Ax x.cells.length cx,.slice Bx x.tin.length dx,.slice Dx x.tout.length ex] 26 (0,0)))/\Hid (SV wx (fun q=>q≠xb) x (.agg #[.slice Ax x.cells.length cx,.slice Bx x.tin.length dx,.slice Dx x.tout.length ex])))
 case first =>
  go_wp2_with fail
  go_loopw [7,9] (fun ev i wr=>∃ j:Nat,j<=es.length/\i=.int .i64 j/\Hid (Chg (fun q=>q=xb) w5 wr)/\∃ er x Ax cx Bx dx Dx ex,ev=.int .i64 er/\Hid (atE s (es.take j)=(er,x))/\Hid (wr.heap[xb]?=some (.cells #[.slice Ax x.cells.length cx,.slice Bx x.tin.length dx,.slice Dx x.tout.length ex] 26 (0,0)))/\Hid (SV wr (fun q=>q≠xb) x (.agg #[.slice Ax x.cells.length cx,.slice Bx x.tin.length dx,.slice Dx x.tout.length ex]))) (fun _ i _=>es.length-(intOf i).toNat)
  case atStart=>exact⟨0,Nat.zero_le _,rfl,zh (Chg.refl _ _),0,s,_,_,_,_,_,_,rfl,zh rfl,lL,oL⟩
  case round =>
   clear lL oL;obtain⟨j,hj,rfl,aJ,er,x,Ax,cx,Bx,dx,Dx,ex,rfl,ig,dK,eZ⟩:=hrel;obtain⟨x0,x1,x2⟩:=zlp dK.out;by_cases hlt:j<es.length/\er=0
   ·obtain⟨hlt,rfl⟩:=hlt;have hj1:(j:Int)<(es.length:Int):=by omega
    have hj0:(0:Int)<=(j:Int):=by omega
    have iC:IntKind.i64.wrap ((j:Int)+1)=(j:Int)+1:=IntWalk.i64_in _ (by have:=dP.out.1;omega);have iB:=zh (show Below W.heap.size W wr from aW.out.trans (aJ.out.below aW.out.size fun q e=>by have e:q=xb:=e;have:=HXB.out;have:=az.out.size;omega));obtain⟨a,Aj,cj,rfl,-,nX,hcl,kT⟩:=HE.out j hlt;have HAL:=zh (show a.block<W.heap.size by have:=World.block_lt_of_cell? W _ nX;rwa[zkn] at this);have hce:=zb iB.out nX;have hrc:=kT.later iB.out;clear nX kT;obtain⟨hci,fU⟩:=dP.out.2 _ (List.getElem_mem hlt);have hgx:=zng s (es.take j) HG.out (fun e he=>(dP.out.2 e (List.mem_of_mem_take he)).1) (by rw[ig.out]);have hsn:=znf s (es.take j) es[j] (by rw[ig.out]);rw[<-List.take_succ_eq_append_getElem hlt] at hsn;rw[ig.out] at hgx hsn;obtain⟨E,hE⟩:∃ E,es[j]=E:=⟨_,rfl⟩
    rw[hE] at hce hcl hrc hci fU hsn;have fD:=fun(h0:(zkw x E).1=0)=>zlW (l:=E) hgx hci h0;have fB:=zmY x E;have dE:=zh (fun w' (hb:Below wr.heap.size wr w')=>zmC x E _ Aj cj w' ((eZ.out.keep (S':=Any) (fun _ _ _=>trivial) fun _ _ _=>rfl).later hb) (hgx.sm (by have:=aX.out;omega)) ((hrc.keep (S':=Any) (fun _ _ _=>trivial) fun _ _ _=>rfl).later hb) hci fU);obtain⟨R1,jN⟩:∃ R1,zkw x E=R1:=⟨_,rfl⟩
    have HST:=zh jN;rw[jN] at fD fB hsn;obtain⟨er,z⟩:=R1;simp only at fD fB hsn;have hyl:z.Lim:=by
     by_cases h0:er=0
     ·exact((fD h0).sm (by have:=aX.out;omega)).lim
     ·rw[fB h0];exact⟨Nat.zero_le _,fun l hl=>(by cases hl),Nat.zero_le _,Nat.zero_le _⟩
    have rJ:=zh hyl;have qF:=zh (show atE s (es.take (j+1))=(er,z) by
     rw[hsn];by_cases h0:er=0
     ·subst h0;rfl
     ·rw[if_pos h0,fB h0])
    have aY:=zh hlt;clear hE hrc hci fU hcl jN fD fB hyl hsn hgx hlt;go_upto_region 10 with fail;have hSS:(fun w':World=>w'.cell? (a.add j)=some (.slice Aj E.length cj)) wr.drew/\(fun w':World=>w'.cell? ⟨xb,0,none⟩=some (.slice Ax x.cells.length cx)/\w'.cell? ⟨xb,1,none⟩=some (.slice Bx x.tin.length dx)/\w'.cell? ⟨xb,2,none⟩=some (.slice Dx x.tout.length ex)) wr.drew:=⟨hce,x0,x1,x2⟩
    refine wp_region_noPanic ?_;refine zke (fun w':World=>w'.cell? (a.add j)=some (.slice Aj E.length cj)) (fun w':World=>w'.cell? ⟨xb,0,none⟩=some (.slice Ax x.cells.length cx)/\w'.cell? ⟨xb,1,none⟩=some (.slice Bx x.tin.length dx)/\w'.cell? ⟨xb,2,none⟩=some (.slice Dx x.tout.length ex)) 9 (by kernel_rfl) ?_;refine zkO (i:=0) (v:=?_) rfl (by kernel_rfl) (by kernel_rfl) (by kernel_rfl) (by decide) rfl (by kernel_rfl) (by kernel_rfl) (fun _ _ _ h=>h) (Or.inl ⟨by rfl,?_⟩) hSS ?_;rotate_left 1
    ·(intro w hSw;(try dsimp only at hSw);(try simp only[zA,zB,zC]);go_simp;(try with_reducible rfl))
    (try simp only[zQ]);refine zT 1 hSS ?_;(try simp only[zQ]);refine zT 2 hSS ?_;(try simp only[zQ]);refine zT 3 hSS ?_;(try simp only[zQ]);refine zT 4 hSS ?_;(try simp only[zQ]);have hdw:Below wr.heap.size wr wr.drew:=(Below.refl wr.heap.size wr).drew;have had:Calls Tryz.prog 26 [.agg #[.slice Ax x.cells.length cx,.slice Bx x.tin.length dx,.slice Dx x.tout.length ex],.slice Aj E.length cj].toArray wr.drew fun e W'=>∃ u,e=.returned u/\(∃ (Ay By Dy:Option Addr) (cy dy ey:Nat),u=.tuple #[.agg #[.slice Ay z.cells.length cy,.slice By z.tin.length dy,.slice Dy z.tout.length ey],.int .i64 er]/\OwnS W' wr.heap.size z (.agg #[.slice Ay z.cells.length cy,.slice By z.tin.length dy,.slice Dy z.tout.length ey])/\Below wr.heap.size wr W') :=
     (dE.out wr.drew hdw).mono fun e W' ⟨v,h1,h2,h3⟩=>by
      rw[HST.out] at h1 h3;obtain⟨Ay,cy,By,dy,Dy,ey,rfl⟩:=h3.slices;exact⟨_,h1,Ay,By,Dy,cy,dy,ey,rfl,h3.mono hdw.size,zka hdw h2⟩
    refine zo 5 fun K hK=>?_;refine zkg (by rfl) (.func 26) [.tmp 39,.tmp 43] _ (by rfl) 26 _ zn8 (by rfl) _ (by rfl) _ had ?_;rintro v w7 ⟨Ay,By,Dy,cy,dy,ey,rfl,iX,bH⟩;have hx7:=zkc dK.out bH;obtain⟨q0,q1,q2⟩:=zlp hx7;have gq:(fun w':World=>w'.cell? (a.add j)=some (.slice Aj E.length cj)) w7/\(fun w':World=>w'.cell? ⟨xb,0,none⟩=some (.slice Ax x.cells.length cx)/\w'.cell? ⟨xb,1,none⟩=some (.slice Bx x.tin.length dx)/\w'.cell? ⟨xb,2,none⟩=some (.slice Dx x.tout.length ex)) w7:=⟨zb bH hce,q0,q1,q2⟩
    refine hK.out _ _ gq ?_;clear hK K had hdw hSS;(try simp only[zQ]);refine zT 6 gq ?_;(try simp only[zQ]);refine zT 7 gq ?_;(try simp only[zQ]);refine zT 8 gq ?_;(try simp only[zQ]);obtain⟨w8,hw8,nV,hh8⟩:=set3 (.slice Ay z.cells.length cy) (.slice By z.tin.length dy) (.slice Dy z.tout.length ey) hx7;have cf:∀ o,w7.frozen? ⟨xb,o,none⟩=false:=fun o=>zf hx7;have nW:w8.cell? (a.add j)=some (.slice Aj E.length cj):=zkG gq.1 (by
     refine nV.block _ (by have:=World.block_lt_of_cell? w7 _ gq.1;exact this) ?_;rw[zkn]
     show ¬ (a.block=xb)
     have:=HAL.out;have:=HXB.out;have:=az.out.size;omega)
    refine zp 9 fun K hK=>?_;(try simp only[zA,zB,zC]);go_simp
    try rw[hw8]
    refine hK.out _ _ nW ?_;have fu:=zh nV;have HH8:=zh hh8;have mV:=zh iX;have gL:=zh bH;have mH:=zh (zko dK.out);clear hK K gq hw8 nV hh8 hx7 cf q0 q1 q2 x0 x1 x2 hce iX bH;(try simp only[zQ]);refine zp 10 fun K hK=>?_;(try simp only[zQ]);go_simp;refine hK.out _ _ nW ?_;clear hK K nW;(try simp only[zQ]);refine zd ?_;refine NoPanic.normal ?_;go_wp2_with fail;exact⟨⟨j+1,by have:=aY.out;omega,by go_num,zh ((aJ.out.trans2 (Chg.of_below (C:=fun q=>q=xb) gL.out) fun _ _ h=>h).trans2 fu.out fun _ _ h=>h),er,z,Ay,cy,By,dy,Dy,ey,rfl,qF,HH8,zh ((mV.out.svR rJ.out).keep (fun q h _=>by have h:wr.heap.size<=q:=h;have:=mH.out;show q≠xb;omega) fun q h hl=>fu.out.block q hl (by have h:wr.heap.size<=q:=h;have:=mH.out;show ¬ (q=xb);omega))⟩,by have:=aY.out;simp[intOf];omega⟩
   ·have mI:=zh (show atE s es=(er,x) by
     by_cases h0:er=0
     ·have hj':j=es.length:=by
       by_cases h5:j<es.length
       ·exact absurd ⟨h5,h0⟩ hlt
       ·omega
      rw[hj',List.take_length] at ig;exact ig.out
     ·have h6:=zoG s (es.take j) (es.drop j) (by rw[ig.out];exact h0);rw[List.take_append_drop] at h6;rw[h6];exact ig.out)
    clear hj ig x0 x1 x2;by_cases h0:er=0
    ·have bA:¬ j<es.length:=fun h=>hlt ⟨h,h0⟩;have hj1:¬ (j:Int)<(es.length:Int):=by omega
     clear hlt bA;subst h0;go_wp2_with fail
     go_meet
     exact⟨0,x,Ax,cx,Bx,dx,Dx,ex,rfl,aJ,mI,dK,eZ⟩
    ·clear hlt;by_cases bA:j<es.length
     ·have hj1:(j:Int)<(es.length:Int):=by omega
      clear bA;go_wp2_with fail
      go_meet
      exact⟨er,x,Ax,cx,Bx,dx,Dx,ex,rfl,aJ,mI,dK,eZ⟩
     ·have hj1:¬ (j:Int)<(es.length:Int):=by omega
      clear bA;go_wp2_with fail
      go_meet
      exact⟨er,x,Ax,cx,Bx,dx,Dx,ex,rfl,aJ,mI,dK,eZ⟩
 case rest =>
  clear lL oL;obtain⟨er,x,Ax,cx,Bx,dx,Dx,ex,rfl,aJ,mI,dK,eZ⟩:=hcut;have HWX:=zh (show W.heap.size<xb by have:=HXB.out;have h2:=az.out.size;have h3:=zko (zkc aN.out (zka bE.out aM.out));omega);have dV:=zh (show Below W.heap.size W wc from aW.out.trans (aJ.out.below aW.out.size fun q e=>by have e:q=xb:=e;have:=HWX.out;omega));have tO:=zh (aJ.out.keep HS0.out fun e=>by have e:W.heap.size=xb:=e;have:=HWX.out;omega);obtain⟨s0,s1,s2⟩:=zlp tO.out;have iw:=zh (zqR s _ wc (HS.out.later dV.out) (by rw[HN.out];have:=aX.out;omega));obtain⟨nc,hnc⟩:∃ q,wc.heap.size=q:=⟨_,rfl⟩
  have kQ:=zh hnc;clear hnc;go_wp2_with fail;refine iw.out.mono ?_;rintro e6 w6 ⟨v6,rfl,uK,hb6⟩;obtain⟨A6,c6,B6,d6,D6,e6,rfl,-,-⟩:=uK.sh;have HO6:=zh uK;have dD:=zh hb6;have k7:=heap_alloc_new w6 (.cells #[.slice A6 s.cells.length c6,.slice B6 s.tin.length d6,.slice D6 s.tout.length e6] 26);have bH:=zkd (Below.refl w6.heap.size w6) (.cells #[.slice A6 s.cells.length c6,.slice B6 s.tin.length d6,.slice D6 s.tout.length e6] 26);clear s0 s1 s2 uK hb6 iw;go_upto_region 12 with fail;obtain⟨w7,hw7⟩:∃ x,w6.alloc (.cells #[.slice A6 s.cells.length c6,.slice B6 s.tin.length d6,.slice D6 s.tout.length e6] 26)=x:=⟨_,rfl⟩
  obtain⟨ob,ak⟩:∃ x,w6.heap.size=x:=⟨_,rfl⟩
  rw[hw7] at k7 bH;rw[hw7,ak];have eB:=zh bH;rw[ak] at k7;have HOB:=zh ak;have HK7:=zh k7;have mV:=zh (HO6.out.later bH);have p8:=zh (zka dD.out bH);have gL:=zh (zka dV.out (zka dD.out bH));clear k7 bH hw7 ak;go_wp2_with fail
  go_loopw [11,12] (fun v i wr=>∃ j:Nat,j<=es.length/\i=.int .i64 j/\Hid (Below w7.heap.size w7 wr)/\Hid (znR wr w7.heap.size v (es.take j))) (fun _ i _=>es.length-(intOf i).toNat)
  case atStart=>exact⟨0,Nat.zero_le _,rfl,zh (Below.refl _ _),zh (znR.nil _ _)⟩
  case round =>
   obtain⟨j,hj,rfl,iB,vP⟩:=hrel;by_cases hlt:j<es.length
   ·have hj1:(j:Int)<(es.length:Int):=by omega
    have hj0:(0:Int)<=(j:Int):=by omega
    have iC:IntKind.i64.wrap ((j:Int)+1)=(j:Int)+1:=IntWalk.i64_in _ (by have:=dP.out.1;omega);obtain⟨xs,q1,q3⟩:=vP.out;have hjl:(es.take j).length=j:=by simp;omega
    obtain⟨Am,cm,rfl,-⟩:=zkb q1;rw[hjl] at q1;rw[hjl];obtain⟨a,Aj,cj,rfl,-,hce,hcl,hrc⟩:=(HE.out.later (zka gL.out iB.out)) j hlt;have hci:=(dP.out.2 _ (List.getElem_mem hlt)).1;have hel10:=dU.out.ev _ (List.getElem_mem hlt);have htk:es.take (j+1)=es.take j++[es[j]]:=List.take_succ_eq_append_getElem hlt;obtain⟨E,hE⟩:∃ E,es[j]=E:=⟨_,rfl⟩
    rw[hE] at hce hrc hci hel10 htk;have qy:=zkd (Below.refl wr.heap.size wr) (.cells #[] 64);have hrow0:(wr.alloc (.cells #[] 64)).ownsRow wr.heap.size 64 4 (.slice (some ⟨wr.heap.size,0,none⟩) 0 0) 0 [] :=
     ⟨rfl,.inr ⟨wr.heap.size,0,#[],rfl,Nat.le_refl _,heap_alloc_new wr _,Nat.le_refl _,Nat.zero_le _,rfl,rfl⟩⟩
    have kT:=(hrc.keep (S':=Any) (fun _ _ _=>trivial) fun _ _ _=>rfl).later qy;have hl1:0+E.length<=1000000:=by omega
    have hl2:j+1<=1000000:=by have:=dP.out.1;omega
    have hbc0:=zrT;have hbe:=bEv;have hn1:wr.heap.size<=(wr.alloc (.cells #[] 64)).heap.size:=qy.size;have jc:=zh (show ∀ vh wh,wh.ownsRow wr.heap.size 64 4 vh (0+E.length) ([]++zk3 E)->(wr.alloc (.cells #[] 64)).grownBy wh (Value.slice (some ⟨wr.heap.size,0,none⟩) 0 0).ownBlock->∃ Bh dh,vh=.slice Bh E.length dh/\(wh.alloc (.cells #[.slice Bh E.length dh] 55)).ownsRow w7.heap.size 55 1 (.slice Am j cm) j xs/\(wh.alloc (.cells #[.slice Bh E.length dh] 55)).cell? ⟨wh.heap.size,0,none⟩=some (.slice Bh E.length dh)/\w7.heap.size<=(wh.alloc (.cells #[.slice Bh E.length dh] 55)).heap.size /\
      ∀ v' w',w'.ownsRow w7.heap.size 55 1 v' (j+1) (xs++[.slice Bh E.length dh])->(wh.alloc (.cells #[.slice Bh E.length dh] 55)).grownBy w' (Value.slice Am j cm).ownBlock->(v'.ownBlock=(Value.slice Am j cm).ownBlock\/v'.ownBlock=some (wh.alloc (.cells #[.slice Bh E.length dh] 55)).heap.size)->∃ A' c',v'=.slice A' (j+1) c'/\Hid (Below w7.heap.size w7 w')/\Hid (znR w' w7.heap.size v' (es.take (j+1))) from fun vh wh ho hg=>by
       rw[Nat.zero_add,List.nil_append] at ho;obtain⟨Bh,dh,rfl,-⟩:=zkb ho;have h1:Below wr.heap.size wr wh:=qy.trans ((Chg.row hg).below qy.size fun q e=>by simp[Value.ownBlock] at e;omega);have h2:=zkd h1 (.cells #[.slice Bh E.length dh] 55);have h3:DiR wr.heap.size wh (.slice Bh E.length dh) E:=⟨ho,hci⟩
       refine⟨Bh,dh,rfl,zkt q1 h2,zc (heap_alloc_new wh _) rfl,Nat.le_trans iB.out.size h2.size,fun v' w' ho' hg' kV=>?_⟩;obtain⟨A',c',hv,-⟩:=zkb ho';have h4:=zka iB.out h2;refine⟨A',c',hv,zh (h4.trans ((Chg.row hg').below h4.size fun q e=>(q1.lt q e).1)),zh ?_⟩;rw[htk];exact znR.push (by rw[hjl];exact q1) (fun i hi=>by
        obtain⟨A,c,r1,r2,r3⟩:=q3 i hi;exact⟨A,c,r1,r2,fun b hb=>by have:=r3 b hb;rwa[hjl] at this⟩) h2 (h3.later (zkd (Below.refl _ _) _)) (Nat.le_refl _) iB.out.size (by rw[hjl];exact ho') hg' kV)
    have aY:=zh hlt;have hce1:=zb qy hce;clear q1 q3 hjl hci htk hE hcl hrc hel10 qy hlt;go_wp2_with (at_builtin;first|(refine znm rfl (.tmp 56) (.tmp 60) rfl wr.heap.size (.slice (some ⟨wr.heap.size,0,none⟩) 0 0) 0 [] rfl hrow0 Aj E cj rfl kT hl1 hn1 ?_;intro vh wh ho hg ak;obtain⟨Bh,dh,rfl,y1,y2,y3,y4⟩:=jc.out _ _ ho hg;clear ho hg ak)|(refine znk rfl (.tmp 55) (.tmp 62) rfl w7.heap.size (.slice Am j cm) j xs rfl y1 _ _ rfl rfl y2 hl2 y3 ?_;intro v' w' ho hg ak;obtain⟨A',c',rfl,z1,z2⟩:=y4 _ _ ho hg ak;clear ho hg ak))
    exact⟨⟨j+1,by have:=aY.out;omega,by go_num,z1,z2⟩,by have:=aY.out;simp[intOf];omega⟩
   ·obtain rfl:j=es.length:=by omega
    have hj1:¬ (es.length:Int)<(es.length:Int):=by omega
    have hmr:=vP.out;rw[List.take_length] at hmr;obtain⟨Am,cm,rfl,-,hre,-⟩:=hmr.rowE;have HMR2:=zh hmr;have hko:=zkc HK7.out iB.out;obtain⟨o0,o1,o2⟩:=zlp hko;have HKO:=zh hko;have oW:=zh (mV.out.later iB.out);have HCN:=zh (ztB (c:=cm) (oW.out.sv (HG.out.sm (by have:=aX.out;omega)).lim) hre HG.out aX.out dP.out (fun e he=>by have:=dU.out.ev e he;omega));obtain⟨w8,rfl⟩:∃ q,q=wr:=⟨_,rfl⟩
    clear hmr hre vP hko;go_wp2_with fail;refine HCN.out.mono ?_;rintro e9 w9 ⟨bI,eD⟩;obtain⟨nM,eD⟩|⟨hne9,eD⟩:=eD;rotate_left 1
    ·rw[mI.out] at hne9 eD;subst eD;have hnb:(er==0)=false:=by simpa using hne9
     go_wp2_with fail;go_ret;exact⟨rfl,zka (zka gL.out iB.out) bI⟩
    obtain⟨b,rfl,jD⟩:=eD;have her:er=0:=by rw[mI.out] at nM;exact nM
    subst her;have dQ:=zh jD;have bu:=zh bI;obtain⟨_,_,e11,-,-,hsm⟩:=HMR2.out.rowE;injection e11 with e11 _ e12;subst e11 e12;obtain⟨_,_,_,_,_,_,e13,hso,-⟩:=oW.out.sh;injection e13 with e13;simp only[Array.mk.injEq,List.cons.injEq,and_true] at e13;obtain⟨e14,-,-⟩:=e13;injection e14 with e14 _ e15;subst e14 e15;have vM:=zh (show nc<=w7.heap.size/\w7.heap.size<=w8.heap.size by have h1:=p8.out.size;have h2:=kQ.out;have h3:=iB.out.size;omega);obtain⟨n1,hn1⟩:∃ q,w8.heap.size=q:=⟨_,rfl⟩
    have lX:=zh hn1;obtain⟨lm,hlm⟩:∃ q,es.map (·.length)=q:=⟨_,rfl⟩
    obtain⟨lo,hlo⟩:∃ q,s.cells.map (·.length)=q:=⟨_,rfl⟩
    have jY:=zh (show lm.length=es.length/\(∀ q∈lm,q<=10) by
     rw[<-hlm];refine⟨by simp,fun q hq=>?_⟩;obtain⟨e,he,rfl⟩:=List.mem_map.1 hq;exact dU.out.ev e he)
    have iy:=zh (show lo.length=s.cells.length/\(∀ q∈lo,q<=40) by
     rw[<-hlo];refine⟨by simp,fun q hq=>?_⟩;obtain⟨e,he,rfl⟩:=List.mem_map.1 hq;exact dU.out.row e he)
    rw[hlm] at hsm;rw[hlo,kQ.out] at hso;rw[hn1] at hsm hso dQ bu;have bV:=zh (show SpW w9 w9 nc n1 ob Am lm A6 lo c6 from ⟨Chg.refl _ _,(hsm.later (by rw[<-hn1] at bu;exact bu.out)).mono vM.out.1 (Nat.le_refl _),hso.later (by rw[<-hn1] at bu;exact bu.out),by rw[iy.out.1];exact zc (zkc HKO.out (by rw[<-hn1] at bu;exact bu.out)) rfl⟩);have HSC9:=zh (zkc dK.out (zka p8.out (zka iB.out (show Below w8.heap.size w8 w9 by rw[hn1];exact bu.out))));have HB9W:=zh (show Below W.heap.size W w9 from zka (zka gL.out iB.out) (show Below w8.heap.size w8 w9 by rw[hn1];exact bu.out));have HSV9:=zh (eZ.out.keep (S':=fun q=>q≠xb/\q<nc) (fun q h hlt=>⟨h,by rw[<-kQ.out];exact hlt⟩) fun q _ hlt=>(zka p8.out (zka iB.out (show Below w8.heap.size w8 w9 by rw[hn1];exact bu.out))).block q hlt);have HL30:=zh (show lm.length<=30 by rw[jY.out.1];exact dU.out.n)
    have HLME:=zh (show ∀ q,es=q->lm.length=q.length from fun q h=>by rw[<-h];exact jY.out.1);have hle9:=jY.out.1;rw[<-hle9] at *
    clear hle9 hsm hso jD bI nM hlm hlo;go_wp2_with fail
    go_loopw [15] (fun i wr=>∃ j:Nat,j<=lm.length/\i=.int .i64 j/\Hid (SpW w9 wr nc n1 ob Am lm A6 lo c6)) (fun i _=>lm.length-(intOf i).toNat)
    case atStart=>exact⟨0,Nat.zero_le _,rfl,bV⟩
    case round =>
     clear bV;obtain⟨j,hj,rfl,bV⟩:=hrel;by_cases hlt:j<lm.length
     ·have hj1:(j:Int)<(lm.length:Int):=by omega
      have hj0:(0:Int)<=(j:Int):=by omega
      have iC:IntKind.i64.wrap ((j:Int)+1)=(j:Int)+1:=IntWalk.i64_in _ (by have:=HL30.out;omega);obtain⟨wj,rfl⟩:∃ q,q=wr:=⟨_,rfl⟩
      have rY:=zh (jY.out.2 _ (List.getElem_mem hlt));go_wp2_with fail
      go_loopw [16] (fun i wr=>∃ k:Nat,k<=lm[j]/\i=.int .i64 k/\Hid (SpW w9 wr nc n1 ob Am lm A6 lo c6)) (fun i _=>lm[j]-(intOf i).toNat)
      case atStart=>exact⟨0,Nat.zero_le _,rfl,bV⟩
      case round =>
       clear bV;obtain⟨k,hk,rfl,bV⟩:=hrel;obtain⟨g,A',c',eA,hce,hcl,dw⟩:=bV.out.m j hlt;obtain⟨nj,qZ⟩:∃ q,lm[j]=q:=⟨_,rfl⟩
       rw[qZ] at hk hce hcl dw rY;simp only[qZ];subst eA;by_cases hlk:k<nj
       ·have hk1:(k:Int)<(nj:Int):=by omega
        have hk0:(0:Int)<=(k:Int):=by omega
        have hwk:IntKind.i64.wrap ((k:Int)+1)=(k:Int)+1:=IntWalk.i64_in _ (by have:=rY.out;omega);obtain⟨q,arr,ty,rfl,hq1,hq2,hq,hqo⟩:=dw k hlk;obtain⟨x3,hx3⟩:=hqo (k*4+3) (by omega);have hcx:wr.cell? ⟨q,k*4+3,none⟩=some (.int .i64 x3):=zc hq hx3;have cf:∀ o,wr.frozen? ⟨q,o,none⟩=false:=fun o=>zf hq;have HST:=zh (fun y=>bV.out.set hq hx3 hq1 hq2 y);have mY:=zh hlk;clear hq hqo dw hq1 hq2 hx3 hlk;go_wp2_with fail;exact⟨⟨k+1,by have:=mY.out;omega,by go_num,zh (HST.out _)⟩,by have:=mY.out;simp[intOf];omega⟩
       ·obtain rfl:k=nj:=by omega
        have hk1:¬ (k:Int)<(k:Int):=by omega
        go_wp2_with fail;exact⟨⟨j+1,hlt,by go_num,bV⟩,by simp[intOf];omega⟩
     ·obtain rfl:j=lm.length:=by omega
      have hj1:¬ (lm.length:Int)<(lm.length:Int):=by omega
      have hlo:=iy.out.1;have ax:=zh bV.out.bx;go_wp2_with fail
      go_loopw [17] (fun i wr=>∃ j:Nat,j<=lo.length/\i=.int .i64 j/\Hid (SpW w9 wr nc n1 ob Am lm A6 lo c6)) (fun i _=>lo.length-(intOf i).toNat)
      case atStart=>exact⟨0,Nat.zero_le _,rfl,bV⟩
      case round =>
       clear bV ax;obtain⟨j,hj,rfl,bV⟩:=hrel;have hbx:=bV.out.bx;by_cases hlt:j<lo.length
       ·have hj1:(j:Int)<(lo.length:Int):=by omega
        have hj0:(0:Int)<=(j:Int):=by omega
        have iC:IntKind.i64.wrap ((j:Int)+1)=(j:Int)+1:=IntWalk.i64_in _ (by have:=dU.out.cells;rw[<-hlo] at this;omega);obtain⟨wj,rfl⟩:∃ q,q=wr:=⟨_,rfl⟩
        have rY:=zh (iy.out.2 _ (List.getElem_mem hlt));go_wp2_with fail
        go_loopw [18] (fun i wr=>∃ k:Nat,k<=lo[j]/\i=.int .i64 k/\Hid (SpW w9 wr nc n1 ob Am lm A6 lo c6)) (fun i _=>lo[j]-(intOf i).toNat)
        case atStart=>exact⟨0,Nat.zero_le _,rfl,bV⟩
        case round =>
         clear bV hbx;obtain⟨k,hk,rfl,bV⟩:=hrel;have hbx:=bV.out.bx;obtain⟨g,A',c',eA,hce,hcl,dw⟩:=bV.out.o j hlt;obtain⟨nj,qZ⟩:∃ q,lo[j]=q:=⟨_,rfl⟩
         rw[qZ] at hk hce hcl dw rY;simp only[qZ];subst eA;by_cases hlk:k<nj
         ·have hk1:(k:Int)<(nj:Int):=by omega
          have hk0:(0:Int)<=(k:Int):=by omega
          have hwk:IntKind.i64.wrap ((k:Int)+1)=(k:Int)+1:=IntWalk.i64_in _ (by have:=rY.out;omega);obtain⟨q,arr,ty,rfl,hq1,hq2,hq,hqo⟩:=dw k hlk;obtain⟨x3,hx3⟩:=hqo k (by omega);have hcx:wr.cell? ⟨q,k,none⟩=some (.int .i64 x3):=zc hq hx3;have cf:∀ o,wr.frozen? ⟨q,o,none⟩=false:=fun o=>zf hq;have HST:=zh (fun y=>bV.out.set hq hx3 hq1 hq2 y);have mY:=zh hlk;clear hq hqo dw hq1 hq2 hx3 hlk;go_wp2_with fail;exact⟨⟨k+1,by have:=mY.out;omega,by go_num,zh (HST.out _)⟩,by have:=mY.out;simp[intOf];omega⟩
         ·obtain rfl:k=nj:=by omega
          have hk1:¬ (k:Int)<(k:Int):=by omega
          go_wp2_with fail;exact⟨⟨j+1,hlt,by go_num,bV⟩,by simp[intOf];omega⟩
       ·obtain rfl:j=lo.length:=by omega
        have hj1:¬ (lo.length:Int)<(lo.length:Int):=by omega
        have jD:=dQ.out.keep fun q hq hlt=>bV.out.chg.block q hlt fun h=>by have:=h.2;omega
        have HCU2:=zh jD;have lS:=zh (zol jD HG.out aX.out);have dS:=zh (show Below W.heap.size W wr from HB9W.out.trans (bV.out.chg.below HB9W.out.size fun q h=>by have:=h.1;have:=dV.out.size;have:=kQ.out;omega));have HXF2:=zh (bV.out.chg.keep HSC9.out fun h=>by have:=h.1;have:=zko dK.out;have:=kQ.out;omega);have HSV2:=zh (HSV9.out.keep (S':=fun q=>q<nc) (fun _ h _=>h.2) fun q h hlt=>bV.out.chg.block q hlt fun h2=>by have:=h2.1;have:=h.2;omega);obtain⟨aT,rfl⟩:∃ q,q=wr:=⟨_,rfl⟩
        clear jD hlt hj;go_wp2_with fail;refine lS.out.mono ?_;rintro e11 aS ⟨lF,v11,rfl,kX⟩;obtain⟨wE,c11,B11,d11,wD,e11,rfl,-,mo⟩:=kX.sh;have k12:=heap_alloc_new aS (.cells #[.slice wE s.cells.length c11,.slice B11 s.tin.length d11,.slice wD s.tout.length e11] 26);have bC:=zkd (Below.refl aS.heap.size aS) (.cells #[.slice wE s.cells.length c11,.slice B11 s.tin.length d11,.slice wD s.tout.length e11] 26);have iq:=zh (mo.later bC);have HB11:=zh lF;clear kX mo lF lS hbx;go_upto_region 39 with fail;obtain⟨fJ,nE⟩:∃ x,aS.alloc (.cells #[.slice wE s.cells.length c11,.slice B11 s.tin.length d11,.slice wD s.tout.length e11] 26)=x:=⟨_,rfl⟩
        obtain⟨tb,htb⟩:∃ x,aS.heap.size=x:=⟨_,rfl⟩
        rw[nE] at k12 bC iq;rw[nE,htb];rw[htb] at k12;have bE:=zh (zka HB11.out bC);have HTB:=zh htb;have hbx:fJ.cell? ⟨tb,1,none⟩=some (.slice B11 s.tin.length d11):=zc k12 rfl;have ax:=zh hbx;clear k12 bC nE htb hbx;go_wp2_with fail
        go_loopw [20] (fun i wr=>∃ j:Nat,j<=s.tin.length/\i=.int .i64 j/\Hid (Chg (fun q=>aT.heap.size<=q) fJ wr)/\Hid (ShR wr aT.heap.size aS.heap.size 1 B11 s.tin.length)/\Hid (wr.cell? ⟨tb,1,none⟩=some (.slice B11 s.tin.length d11))) (fun i _=>s.tin.length-(intOf i).toNat)
        case atStart=>exact⟨0,Nat.zero_le _,rfl,zh (Chg.refl _ _),iq,ax⟩
        case round =>
         clear ax iq;obtain⟨j,hj,rfl,ku,iq,ax⟩:=hrel;have hbx:=ax.out;by_cases hlt:j<s.tin.length
         ·have hj1:(j:Int)<(s.tin.length:Int):=by omega
          have hj0:(0:Int)<=(j:Int):=by omega
          have iC:IntKind.i64.wrap ((j:Int)+1)=(j:Int)+1:=IntWalk.i64_in _ (by have:=dU.out.tin;omega);obtain⟨q,arr,ty,rfl,hq1,hq2,hq,hqo⟩:=iq.out j hlt;obtain⟨x3,hx3⟩:=hqo j (by omega);have hcx:wr.cell? ⟨q,j,none⟩=some (.int .i64 x3):=zc hq hx3;have cf:∀ o,wr.frozen? ⟨q,o,none⟩=false:=fun o=>zf hq;have HST:=zh (fun y=>(⟨iq.out.set hq hx3,znN hq hx3 hbx,ku.out.setCell (.inl hq1) _⟩:ShR (wr.setCell ⟨q,j,none⟩ (.int .i64 y)) aT.heap.size aS.heap.size 1 (some ⟨q,0,none⟩) s.tin.length/\(wr.setCell ⟨q,j,none⟩ (.int .i64 y)).cell? ⟨tb,1,none⟩=some (.slice (some ⟨q,0,none⟩) s.tin.length d11)/\Chg (fun q=>aT.heap.size<=q) fJ (wr.setCell ⟨q,j,none⟩ (.int .i64 y))));have mY:=zh hlt;clear hq hqo hq1 hq2 hx3 hlt;go_wp2_with fail;exact⟨⟨j+1,by have:=mY.out;omega,by go_num,zh (HST.out _).2.2,zh (HST.out _).1,zh (HST.out _).2.1⟩,by have:=mY.out;simp[intOf];omega⟩
         ·obtain rfl:j=s.tin.length:=by omega
          have hj1:¬ (s.tin.length:Int)<(s.tin.length:Int):=by omega
          have hbr:Below aT.heap.size aT wr:=bE.out.trans (ku.out.below bE.out.size fun q h=>h);have HBR2:=zh hbr;have hall:AllX n s es:=⟨by rw[mI.out],HG.out,aX.out,dP.out⟩
          have dN:=zh hall;have hcuw:=HCU2.out.later hbr;have HCU3:=zh hcuw;have hx3:=zkc HXF2.out hbr;have oH:=zh hx3;have HSV3:=zh (HSV2.out.later hbr);obtain⟨x0,x1,x2⟩:=zlp hx3;have HXB3:=zh (show xb≠b by have h1:=dQ.out.nb;have h2:=zko dK.out;have h3:=kQ.out;have h4:=vM.out;have h5:=lX.out;omega);clear hbr hall hcuw hx3 hj iq ax ku;go_upto_region 43 with fail;clear hbx;have hSS:(fun w':World=>w'.cell? ⟨xb,0,none⟩=some (.slice Ax x.cells.length cx)/\w'.cell? ⟨xb,1,none⟩=some (.slice Bx x.tin.length dx)/\w'.cell? ⟨xb,2,none⟩=some (.slice Dx x.tout.length ex)) wr.drew/\(fun _:World=>True) wr.drew:=⟨⟨x0,x1,x2⟩,trivial⟩
          refine wp_region_noPanic ?_;refine zke (fun w':World=>w'.cell? ⟨xb,0,none⟩=some (.slice Ax x.cells.length cx)/\w'.cell? ⟨xb,1,none⟩=some (.slice Bx x.tin.length dx)/\w'.cell? ⟨xb,2,none⟩=some (.slice Dx x.tout.length ex)) (fun _:World=>True) 11 (by kernel_rfl) ?_;refine zT 0 hSS ?_;(try simp only[zQ]);refine zT 1 hSS ?_;(try simp only[zQ]);refine zT 2 hSS ?_;(try simp only[zQ]);have hdw:Below wr.heap.size wr wr.drew:=(Below.refl wr.heap.size wr).drew;have had:Calls Tryz.prog 35 [.pointer (some ⟨b,0,none⟩),.int .i64 (lm.length:Int)].toArray wr.drew fun e W'=>∃ u,e=.returned u/\u=.int .i64 0/\Chg (fun q=>q=b) wr.drew W'/\Cu W' n1 b s (cur s es lm.length) es lm.length :=
           (zsn (to_:=lm.length) (show Cu wr.drew n1 b s (cur s es 0) es 0 from HCU3.out.later hdw) dN.out (Nat.zero_le _) (Nat.le_of_eq (HLME.out _ rfl)) (fun h=>by omega)).mono fun e W' ⟨h1,h2,h3⟩=>⟨_,h1,rfl,h2,h3⟩
          refine zo 3 fun K hK=>?_;refine zkg (by rfl) (.func 35) [.tmp 151,.tmp 153] _ (by rfl) 35 _ zuU (by rfl) _ (by rfl) _ had ?_;rintro u iV ⟨rfl,gT,jC⟩;have hx13:=gT.keep (zkc oH.out hdw) HXB3.out;obtain⟨y0,y1,y2⟩:=zlp hx13;have iJ:(fun w':World=>w'.cell? ⟨xb,0,none⟩=some (.slice Ax x.cells.length cx)/\w'.cell? ⟨xb,1,none⟩=some (.slice Bx x.tin.length dx)/\w'.cell? ⟨xb,2,none⟩=some (.slice Dx x.tout.length ex)) iV/\(fun _:World=>True) iV:=⟨⟨y0,y1,y2⟩,trivial⟩
          refine hK.out _ _ iJ ?_;clear hK K had hSS x0 x1 x2;(try simp only[zQ]);refine zT 4 iJ ?_;(try simp only[zQ]);refine zT 5 iJ ?_;(try simp only[zQ]);refine zT 6 iJ ?_;(try simp only[zQ]);refine zT 8 iJ ?_;(try simp only[zQ]);have hcue:cur s es lm.length=x:=by rw[HLME.out _ rfl];unfold cur;rw[List.take_length,mI.out]
          have hgd:=dN.out.good lm.length;rw[hcue] at jC hgd;have had:Calls Tryz.prog 34 [.pointer (some ⟨b,0,none⟩)].toArray iV fun e W'=>∃ u,e=.returned u/\OwnS W' iV.heap.size x u/\Below iV.heap.size iV W' :=
           (zol jC hgd aX.out).mono fun e W' ⟨h1,v,h2,h3⟩=>⟨v,h2,h3,h1⟩
          refine zo 7 fun K hK=>?_;refine zkQ (by rfl) (.func 34) [.tmp 157] _ (by rfl) 34 _ zs3 (by rfl) _ (by rfl) _ had ?_;rintro u ny ⟨ho14,dI⟩;have jL:(fun w':World=>w'.cell? ⟨xb,0,none⟩=some (.slice Ax x.cells.length cx)/\w'.cell? ⟨xb,1,none⟩=some (.slice Bx x.tin.length dx)/\w'.cell? ⟨xb,2,none⟩=some (.slice Dx x.tout.length ex)) ny/\(fun _:World=>True) ny:=⟨⟨zb dI y0,zb dI y1,zb dI y2⟩,trivial⟩
          refine hK.out _ _ jL ?_;clear hK K had iJ;(try simp only[zQ]);have hbn:nc<=b:=by have h1:=dQ.out.nb;have h4:=vM.out;have h5:=lX.out;omega
          have hsx:SV ny Any x (.agg #[.slice Ax x.cells.length cx,.slice Bx x.tin.length dx,.slice Dx x.tout.length ex]):=(((HSV3.out.later hdw).keep (S':=Any) (fun _ _ _=>trivial) fun q h hlt=>gT.block q hlt fun e=>by have e:q=b:=e;have h:q<nc:=h;omega)).later dI;have had:Calls Tryz.prog 21 [u,.agg #[.slice Ax x.cells.length cx,.slice Bx x.tin.length dx,.slice Dx x.tout.length ex]].toArray ny fun e W'=>∃ z,e=.returned z/\z=.bool true/\Below ny.heap.size ny W' :=
           (zpE x x _ _ ny (ho14.sv (hgd.sm (by have:=aX.out;omega)).lim) hsx (hgd.sm (by have:=aX.out;omega)) (hgd.sm (by have:=aX.out;omega))).mono fun e W' ⟨h1,h2⟩=>⟨_,h1,by rw[show eqS x x=true by simp[eqS]],h2⟩
          refine zo 9 fun K hK=>?_;refine zkQ (by rfl) (.func 21) [.tmp 158,.tmp 159] _ (by rfl) 21 _ zrC (by rfl) _ (by rfl) _ had ?_;rintro z uB ⟨rfl,jI⟩;have lG:(fun w':World=>w'.cell? ⟨xb,0,none⟩=some (.slice Ax x.cells.length cx)/\w'.cell? ⟨xb,1,none⟩=some (.slice Bx x.tin.length dx)/\w'.cell? ⟨xb,2,none⟩=some (.slice Dx x.tout.length ex)) uB/\(fun _:World=>True) uB:=⟨⟨zb jI jL.1.1,zb jI jL.1.2.1,zb jI jL.1.2.2⟩,trivial⟩
          refine hK.out _ _ lG ?_;clear hK K had;(try simp only[zQ]);refine zT 10 lG ?_;(try simp only[zQ]);refine zp 11 fun K hK=>?_;(try simp only[zQ]);go_simp;refine hK.out _ _ lG.1 ?_;clear hK K;(try simp only[zQ]);have hbz:=zka dI jI;have hbw:Below W.heap.size W uB:=by
           have h1:=zka dS.out (zka HBR2.out hdw);have h2:=h1.trans (gT.below h1.size fun q e=>by have e:q=b:=e;have h5:=dV.out.size;have h6:=kQ.out;omega);exact zka h2 hbz
          have aV:=zh hbw;clear hbw hbz lG jL dI jI hsx gT jC ho14 hgd hcue hx13 y0 y1 y2;refine zd ?_;refine NoPanic.normal ?_;go_wp2_with fail;go_ret;exact⟨rfl,aV.out⟩
end Go.Proofs.YtckhofdinldhpaaGreat
namespace Go.Proofs.YtckhofdinldhpaaGreat
open Go.RowKit Go.ChangeShapes Go.WideShapes Go.ChangeAt Go.Deep
theorem ztd:Tryz.prog.cellsOf 3=1:=by kernel_rfl
theorem zms {H:Type} {P:Program} {e:TypeId}:∀ {l:List (DataW H)} {d:DataW H},d∈l->∀ n∈d.weights P e,n∈DataW.weightsAll P e l
 | d0::l,d,hd,n,hn=>by
  simp only[DataW.weightsAll,List.mem_append];rcases List.mem_cons.1 hd with rfl|hd
  ·exact .inl hn
  ·exact .inr (zms hd n hn)
section
variable {H:Type} {enc:TypeId×Value->H} {w:World} {held:Bool}
def zeroT':T:=.nd 0 0 ⟨#[]⟩ []
end
theorem Tryz.own:ownKnob Tryz.prog.godebug=none:=by kernel_rfl
theorem Tryz.laidOut:laidOutB Tryz.prog=true:=by kernel_rfl
section
variable {H:Type} {enc:TypeId×Value->H} {w:World} {held:Bool}
theorem zna {ty E:TypeId} {n b:Nat} (ht:Tryz.prog.underlying ty=some (.slice E)) (hc:Tryz.prog.cellsOf E=n) (hb:Tryz.prog.bytesOf E=b) {fuel:Nat} {cs:List Value} {x:DataW H×List MemPlace}
  (h:DataW.trod enc Tryz.prog w 0 (fun _=>true) held fuel ty cs=some x) (hw:∀ q∈x.1.weights Tryz.prog ty,q<=reachBytes) :
  cs=[.slice none 0 0]\/∃ a len cap,cs=[.slice (some a) len cap]/\len<=cap/\cap*b<=reachBytes/\∀ i,i<len->∃ cs' y n',w.cells? 0 (a.add (i*n)) n=some cs'/\DataW.trod enc Tryz.prog w 0 (fun _=>true) held n' E cs'=some y/\∀ q∈y.1.weights Tryz.prog E,q<=reachBytes:=by
 have hsl:=DataW.trod_slice ht h;rcases hsl with⟨e3,e3'⟩|⟨a,len,cap,elems,rest,n',hn',e3,e3',_,hl,hm,hel,hat,hsp,_⟩
 ·exact .inl e3
 ·refine .inr ⟨a,len,cap,e3,hl,?_,?_⟩
  ·obtain⟨hrl,_⟩:=hsp rfl;subst e3';simp only[DataW.weights,ht,hb] at hw;have:=hw _ (List.mem_cons_self ..);simp only[List.length_map] at this;rw[hel,hrl] at this;rw[show cap=len+(cap-len) by omega];exact this
  ·intro i hi;subst e3';simp only[DataW.weights,ht,hb] at hw;have hi':i<elems.length:=by omega
   have h1:=hat i (by omega);rw[List.getElem?_eq_getElem hi',hc] at h1;obtain⟨cs',hcs,ht'⟩:=Option.bind_eq_some_iff.1 h1;exact⟨cs',elems[i],n',hcs,ht',fun q hq=>hw q (List.mem_cons_of_mem _ (List.mem_append_left _ (zms (List.mem_map_of_mem (List.getElem_mem hi')) q hq)))⟩
theorem zlV {α:Type} [Inhabited α] {n:Nat} {P:Nat->α->Prop} (h:∀ i,i<n->∃ x,P i x):∃ l:List α,l.length=n/\∀ i (hi:i<l.length),P i l[i]:=by
 obtain⟨f,hf⟩:=choose_lt h;exact⟨(List.range n).map f,by simp,fun i hi=>by simp only[List.getElem_map,List.getElem_range];exact hf i (by simpa using hi)⟩
instance:Inhabited VD:=⟨⟨⟨#[]⟩,0,0⟩⟩
instance:Inhabited T:=⟨zeroT'⟩
end
theorem zu2:Tryz.prog.cellsOf 24=1:=by kernel_rfl
theorem zte:Tryz.prog.bytesOf 3=8:=by kernel_rfl
theorem zu3:Tryz.prog.bytesOf 24=24:=by kernel_rfl
theorem zqL:Tryz.prog.cellsOf 26=3:=by kernel_rfl
section
variable {H:Type} {enc:TypeId×Value->H} {w:World} {held:Bool}
theorem zut {a:Addr} {u:Value} (h:w.cells? 0 a 1=some [u]):w.cell? a=some u:=by
 obtain⟨_,_,hcell⟩:=World.cells?_some h;have:=hcell 0 (by omega);have e:a.add 0=a:=by
  obtain⟨b,o,l⟩:=a;rcases l with _|⟨l1,l2⟩<;>simp[Addr.add]
 rw[e] at this;simpa using this
theorem znw {fuel:Nat} {cs:List Value} {x:DataW H×List MemPlace} (h:DataW.trod enc Tryz.prog w 0 (fun _=>true) held fuel 24 cs=some x) (hw:∀ q∈x.1.weights Tryz.prog 24,q<=reachBytes) :
  ∃ (A:Option Addr) (l:List Int) (c:Nat),cs=[.slice A l.length c]/\RowI w Any A l/\l.length<=LI/\l.length<=c:=by
 rcases zna Tryz.underlying24 ztd zte h hw with rfl|⟨a,len,cap,rfl,hl,hcap,hat⟩
 ·exact⟨none,[],0,rfl,fun i hi=>absurd hi (by simp),Nat.zero_le _,Nat.zero_le _⟩
 ·obtain⟨l,hvl,hvs⟩:=zlV (n:=len) (P:=fun i (x:Int)=>w.cells? 0 (a.add (i*1)) 1=some [.int .i64 x]/\I64 x) fun i hi=>by
   obtain⟨cs',y,n',hcs,ht,_⟩:=hat i hi;obtain⟨m,e1,e1',wm⟩:=DataW.trod_int Tryz.underlying3 ht;refine⟨m,by rw[hcs,e1],?_⟩;have:=wm;simp[Lit.wf,IntKind.min,IntKind.max,IntKind.signed,IntKind.bits] at this
   constructor<;>omega
  refine⟨some a,l,cap,by rw[hvl],fun i hi=>?_,by unfold LI;unfold reachBytes at hcap;omega,by omega⟩;obtain⟨hc,hf⟩:=hvs i hi;rw[Nat.mul_one] at hc;exact⟨a,rfl,trivial,zut hc,hf⟩
instance:Inhabited (List Int):=⟨[]⟩
theorem zqs {fuel:Nat} {cs:List Value} {x:DataW H×List MemPlace} (h:DataW.trod enc Tryz.prog w 0 (fun _=>true) held fuel 23 cs=some x) (hw:∀ q∈x.1.weights Tryz.prog 23,q<=reachBytes) :
  ∃ (A:Option Addr) (ls:List (List Int)) (c:Nat),cs=[.slice A ls.length c]/\zmN w Any A ls/\ls.length<=LI/\(∀ l∈ls,l.length<=LI)/\ls.length<=c:=by
 rcases zna Tryz.underlying23 zu2 zu3 h hw with rfl|⟨a,len,cap,rfl,hl,hcap,hat⟩
 ·exact⟨none,[],0,rfl,fun i hi=>absurd hi (by simp),Nat.zero_le _,by simp,Nat.zero_le _⟩
 ·obtain⟨ls,hvl,hvs⟩:=zlV (n:=len) (P:=fun i (l:List Int)=>∃ A' c',w.cells? 0 (a.add (i*1)) 1=some [.slice A' l.length c']/\RowI w Any A' l/\l.length<=LI/\l.length<=c') fun i hi=>by
   obtain⟨cs',y,n',hcs,ht,uI⟩:=hat i hi;obtain⟨A',l,c',e,hr,h1,h2⟩:=znw ht uI;exact⟨l,A',c',by rw[hcs,e],hr,h1,h2⟩
  refine⟨some a,ls,cap,by rw[hvl],fun i hi=>?_,by unfold LI;unfold reachBytes at hcap;omega,fun l hl=>?_,by omega⟩
  ·obtain⟨A',c',hc,hr,h1,h2⟩:=hvs i hi;rw[Nat.mul_one] at hc;exact⟨a,A',c',rfl,trivial,zut hc,h2,hr⟩
  ·obtain⟨i,hi,rfl⟩:=List.mem_iff_getElem.1 hl;obtain⟨A',c',hc,hr,h1,h2⟩:=hvs i hi;exact h1
theorem zqr {fuel:Nat} {cs:List Value} {x:DataW H×List MemPlace} (h:DataW.trod enc Tryz.prog w 0 (fun _=>true) held fuel 26 cs=some x) (hw:∀ q∈x.1.weights Tryz.prog 26,q<=reachBytes) :
  ∃ (s:SS) (u0 u1 u2:Value),cs=[u0,u1,u2]/\SV w Any s (.agg #[u0,u1,u2]):=by
 have hts:=DataW.trod_struct Tryz.underlying26 h;obtain⟨xs,n,hfu,hx,hcl,hxl,hg⟩:=hts;subst hx;rw[zqL] at hcl
 match cs,hcl with
 | [c0,c1,c2],_ =>
 match xs,hxl with
 | [y0,y1,y2],_ =>
 have g0:=hg 0 _ rfl;have g1:=hg 1 _ rfl;have g2:=hg 2 _ rfl;have hw0:∀ q∈y0.1.weights Tryz.prog 23,q<=reachBytes:=fun q hq=>by
  refine hw q ?_;simp only[List.map_cons,List.map_nil,DataW.weights,Tryz.underlying26];simp only[DataW.weightsEach,List.mem_append];exact .inl hq
 have hw1:∀ q∈y1.1.weights Tryz.prog 24,q<=reachBytes:=fun q hq=>by
  refine hw q ?_;simp only[List.map_cons,List.map_nil,DataW.weights,Tryz.underlying26];simp only[DataW.weightsEach,List.mem_append];exact .inr (.inl hq)
 have hw2:∀ q∈y2.1.weights Tryz.prog 24,q<=reachBytes:=fun q hq=>by
  refine hw q ?_;simp only[List.map_cons,List.map_nil,DataW.weights,Tryz.underlying26];simp only[DataW.weightsEach,List.mem_append];exact .inr (.inr (.inl hq))
 obtain⟨A0,ls,k0,e0,hr0,hl0,hl0',hc0⟩:=zqs g0 hw0;obtain⟨A1,l1,k1,e1,hr1,hl1,hc1⟩:=znw g1 hw1;obtain⟨A2,l2,k2,e2,hr2,hl2,hc2⟩:=znw g2 hw2;injection e0 with e0;injection e1 with e1;injection e2 with e2;subst e0 e1 e2;exact⟨⟨ls,l1,l2⟩,_,_,_,rfl,A0,k0,A1,k1,A2,k2,rfl,hr0,hr1,hr2,hc0,hc1,hc2,hl0,hl0',hl1,hl2⟩
theorem zsy {W:World} {base:Nat} {v:Value} {d:DataW H} {p:List MemPlace} (hok:Value.okWide Tryz.prog W .any base 26 v)
  (h:DataW.Trod enc Tryz.prog W 0 (fun _=>true) true 26 v d p) (hw:∀ n∈d.weights Tryz.prog 26,n<=reachBytes):∃ s,SV W Any s v:=by
 obtain⟨cs,rfl,hcs⟩:=okWide_struct Tryz.underlying26 hok;obtain⟨fuel,hf⟩:=h;obtain⟨s,u0,u1,u2,e,hs⟩:=zqr hf hw;refine⟨s,?_⟩;have:cs = #[u0,u1,u2]:=by
  apply Array.ext';simpa[Value.cells] using e
 rw[this];exact hs
end
section
variable {H:Type} {enc:TypeId×Value->H} {w:World} {held:Bool}
end
theorem znM:Tryz.prog.cellsOf 64=4:=by kernel_rfl
theorem zpB:Tryz.prog.bytesOf 64=32:=by kernel_rfl
theorem zqM:Tryz.prog.cellsOf 55=1:=by kernel_rfl
theorem zqN:Tryz.prog.bytesOf 55=24:=by kernel_rfl
section
variable {H:Type} {enc:TypeId×Value->H} {w:World} {held:Bool}
instance:Inhabited CH:=⟨⟨0,0,0,0⟩⟩
theorem zpn {fuel:Nat} {cs:List Value} {x:DataW H×List MemPlace} (h:DataW.trod enc Tryz.prog w 0 (fun _=>true) held fuel 64 cs=some x) :
  ∃ q:CH,cs=[.int .i64 q.cell,.int .i64 q.at',.int .i64 q.old,.int .i64 q.new]/\q.I:=by
 have hts:=DataW.trod_struct Tryz.underlying64 h;obtain⟨xs,n,hfu,hx,hcl,hxl,hg⟩:=hts;rw[znM] at hcl
 match cs,hcl with
 | [c0,c1,c2,c3],_ =>
 match xs,hxl with
 | [y0,y1,y2,y3],_ =>
 have g0:=hg 0 _ rfl;have g1:=hg 1 _ rfl;have g2:=hg 2 _ rfl;have g3:=hg 3 _ rfl;obtain⟨m0,e0,_,w0⟩:=DataW.trod_int Tryz.underlying3 g0;obtain⟨m1,e1,_,w1⟩:=DataW.trod_int Tryz.underlying3 g1;obtain⟨m2,e2,_,w2⟩:=DataW.trod_int Tryz.underlying3 g2;obtain⟨m3,e3,_,w3⟩:=DataW.trod_int Tryz.underlying3 g3;injection e0 with e0;injection e1 with e1;injection e2 with e2;injection e3 with e3;subst e0 e1 e2 e3;simp[Lit.wf,IntKind.min,IntKind.max,IntKind.signed,IntKind.bits] at w0 w1 w2 w3;exact⟨⟨m0,m1,m2,m3⟩,rfl,⟨⟨by simp only;omega,by simp only;omega⟩,⟨by simp only;omega,by simp only;omega⟩,⟨by simp only;omega,by simp only;omega⟩,⟨by simp only;omega,by simp only;omega⟩⟩⟩
theorem zqt {fuel:Nat} {cs:List Value} {x:DataW H×List MemPlace} (h:DataW.trod enc Tryz.prog w 0 (fun _=>true) held fuel 55 cs=some x) (hw:∀ q∈x.1.weights Tryz.prog 55,q<=reachBytes) :
  ∃ (A:Option Addr) (l:List CH) (c:Nat),cs=[.slice A l.length c]/\RowC w Any A l/\l.length<=4398046511103/\l.length<=c/\∀ q∈l,q.I:=by
 rcases zna Tryz.underlying55 znM zpB h hw with rfl|⟨a,len,cap,rfl,hl,hcap,hat⟩
 ·exact⟨none,[],0,rfl,fun i hi=>absurd hi (by simp),Nat.zero_le _,Nat.zero_le _,by simp⟩
 ·obtain⟨l,hvl,hvs⟩:=zlV (n:=len) (P:=fun i (q:CH)=>w.cells? 0 (a.add (i*4)) 4=some [.int .i64 q.cell,.int .i64 q.at',.int .i64 q.old,.int .i64 q.new]/\q.I) fun i hi=>by
   obtain⟨cs',y,n',hcs,ht,_⟩:=hat i hi;obtain⟨q,e,hq⟩:=zpn ht;exact⟨q,by rw[hcs,e],hq⟩
  refine⟨some a,l,cap,by rw[hvl],fun i hi=>?_,by unfold reachBytes at hcap;omega,by omega,fun q hq=>?_⟩
  ·obtain⟨hc,hf⟩:=hvs i hi;obtain⟨_,_,hcell⟩:=World.cells?_some hc;refine⟨a,rfl,trivial,?_,?_,?_,?_⟩
   ·have:=hcell 0 (by omega);simpa[Addr.add] using this
   ·have:=hcell 1 (by omega);simpa[Addr.add] using this
   ·have:=hcell 2 (by omega);simpa[Addr.add] using this
   ·have:=hcell 3 (by omega);simpa[Addr.add] using this
  ·obtain⟨i,hi,rfl⟩:=List.mem_iff_getElem.1 hq;exact(hvs i hi).2
instance:Inhabited (List CH):=⟨[]⟩
theorem zpm {fuel:Nat} {cs:List Value} {x:DataW H×List MemPlace} (h:DataW.trod enc Tryz.prog w 0 (fun _=>true) held fuel 45 cs=some x) (hw:∀ q∈x.1.weights Tryz.prog 45,q<=reachBytes) :
  ∃ (A:Option Addr) (es:List (List CH)) (c:Nat),cs=[.slice A es.length c]/\RowE w Any A es/\es.length<=4398046511103*2/\(∀ e∈es,e.length<=4398046511103/\∀ q∈e,q.I):=by
 rcases zna Tryz.underlying45 zqM zqN h hw with rfl|⟨a,len,cap,rfl,hl,hcap,hat⟩
 ·exact⟨none,[],0,rfl,fun i hi=>absurd hi (by simp),Nat.zero_le _,by simp⟩
 ·obtain⟨es,hvl,hvs⟩:=zlV (n:=len) (P:=fun i (l:List CH)=>∃ A' c',w.cells? 0 (a.add (i*1)) 1=some [.slice A' l.length c']/\RowC w Any A' l/\l.length<=4398046511103/\l.length<=c'/\∀ q∈l,q.I) fun i hi=>by
   obtain⟨cs',y,n',hcs,ht,uI⟩:=hat i hi;obtain⟨A',l,c',e,hr,h1,h2,h3⟩:=zqt ht uI;exact⟨l,A',c',by rw[hcs,e],hr,h1,h2,h3⟩
  refine⟨some a,es,cap,by rw[hvl],fun i hi=>?_,by unfold reachBytes at hcap;omega,fun l hl=>?_⟩
  ·obtain⟨A',c',hc,hr,h1,h2,h3⟩:=hvs i hi;rw[Nat.mul_one] at hc;exact⟨a,A',c',rfl,trivial,zut hc,h2,hr⟩
  ·obtain⟨i,hi,rfl⟩:=List.mem_iff_getElem.1 hl;obtain⟨A',c',hc,hr,h1,h2,h3⟩:=hvs i hi;exact⟨h1,h3⟩
theorem zrN {W:World} {base:Nat} {v:Value} {d:DataW H} {p:List MemPlace} (hok:Value.okWide Tryz.prog W .any base 45 v)
  (h:DataW.Trod enc Tryz.prog W 0 (fun _=>true) true 45 v d p) (hw:∀ n∈d.weights Tryz.prog 45,n<=reachBytes):∃ (A:Option Addr) (es:List (List CH)) (c:Nat),v=.slice A es.length c/\RowE W Any A es/\es.length<=4398046511103*2/\(∀ e∈es,e.length<=4398046511103/\∀ q∈e,q.I):=by
 obtain⟨a,len,cap,rfl⟩:=okWide_slice Tryz.underlying45 hok;obtain⟨fuel,hf⟩:=h;obtain⟨A,es,c,e,hr,h1,h2⟩:=zpm hf hw;refine⟨A,es,c,?_,hr,h1,h2⟩;simpa[Value.cells] using e
end
end Go.Proofs.YtckhofdinldhpaaGreat
