/-
  Texts of the proof, put together without their remarks: Id, It, Lim, Val, Scp, Ik, Im, Iz, Ia, ScA, ClW.
-/
import Derived.Test.YtghbhbdnkjjnnaaGreatN6
import Derived.Tactics
import Derived.Tactics2
import Derived.Defers
set_option linter.unusedSimpArgs false
set_option linter.unusedVariables false
set_option maxHeartbeats 8000000
set_option maxRecDepth 100000
namespace Go.Proofs.YtghbhbdnkjjnnaaGreat
open Go Go.RowKit
theorem zxz:IsFn Tryz.prog 27 Tryz.f27:=⟨Tryz.func27,by kernel_rfl,by kernel_rfl⟩
theorem zvV:IsFn Tryz.prog 172 Tryz.f172:=⟨Tryz.func172,by kernel_rfl,by kernel_rfl⟩
def basO (F:Int) (back:Bool) (t:T) (r:RS):Out:=(zkD F r).bind fun r=>zkl r (if back=true then zn1 r.S t else doE r.S t)
theorem ztD {C:RC} (hC:C.Ok) {W:World} {r:RS} (h:RI C W r) (t:T) (v:Value) (back:Bool) (hv:NV C.w Any t v) (hk:t.k≠52/\t.k≠53/\t.k≠54/\t.k≠55/\t.k≠50/\t.k≠51) :
  Calls Tryz.prog 139 #[.pointer (some ⟨C.rb,0,none⟩),v,.bool back] W (RunP C W (basO C.F back t r)):=by
 have HV:=zh hv;have H:=zh h;obtain⟨A,c,rfl,-,hlk,hlc,-⟩:=hv.open_;have e0:(t.k==52)=false:=by simpa using hk.1
 have e1:(t.k==53)=false:=by simpa using hk.2.1
 have e2:(t.k==54)=false:=by simpa using hk.2.2.1
 have e3:(t.k==55)=false:=by simpa using hk.2.2.2.1
 have e4:(t.k==50)=false:=by simpa using hk.2.2.2.2.1
 have e5:(t.k==51)=false:=by simpa using hk.2.2.2.2.2
 have hb0:=zkc (Below.refl W.heap.size W) (.cells #[.int .u8 t.k,.int .i64 t.n,.string t.s,.slice A t.ks.length c] 24);obtain⟨dw,h1⟩:=h.plus hC hb0;have k0:=heap_alloc_new W (.cells #[.int .u8 t.k,.int .i64 t.n,.string t.s,.slice A t.ks.length c] 24);obtain⟨x0,x1,x2,x3⟩:=box4 k0;have bO:=zh (Kpt.of_below (n0:=C.n0) (kb:=C.kb) hb0);obtain⟨w3,hw3⟩:∃ x,W.alloc (.cells #[.int .u8 t.k,.int .i64 t.n,.string t.s,.slice A t.ks.length c] 24)=x:=⟨_,rfl⟩
 rw[hw3] at dw h1 k0 x0 x1 x2 x3 bO;have l0:=zkj k0;have K0:=zh k0;obtain⟨hi,hhi⟩:∃ x,w3.heap.size=x:=⟨_,rfl⟩
 rw[hhi] at dw h1 l0;have iA:=zh (zlP dw h1);obtain⟨o,ho⟩:∃ o,basO C.F back t r=o:=⟨_,rfl⟩
 have bH:=zh ho;have HO:=zh (show(zkD C.F r).bind (fun r=>zkl r (if back=true then zn1 r.S t else doE r.S t))=o from ho);rw[ho];clear hv hb0 dw h1 k0 h hk ho;go_enter Tryz.func139,Tryz.ntmps139;go_wp2_with fail;refine iA.out.mono ?_;rintro e w4 ⟨hk4,hb4,bU⟩;have dL:=zh (bO.out.trans (Kpt.less (C:=C) hk4));have ak:=zh (show Below C.w.heap.size C.w w4 from hb4);have aZ:match zkD C.F r with
  | .gas=>True
  | .err x=>e=zlu x
  | .ok r=>(∃ u,e=.returned u)/\RI (C.plus W.heap.size hi) w4 r:=bU
 have dG:=zh hk4;clear x0 x1 x2 x3 iA hk4 hb4 bU hw3
 cases hy:zkD C.F r with
 | gas=>exact absurd hy (zks _ _).1
 | err x =>
  rw[hy] at aZ;subst aZ;refine⟨rfl,dL.out,ak.out,?_⟩
  try rw[bH.out]
  rw[<-HO.out,hy];rfl
 | ok r1 =>
  rw[hy] at aZ;obtain⟨⟨u3,rfl⟩,hr1⟩:=aZ;have HR4:=zh hr1;have iJ:=zh (show zkl r1 (if back=true then zn1 r1.S t else doE r1.S t)=o by rw[<-HO.out,hy];rfl);have dz:=zh (show FB r.n r1.S/\r1.n=r.n+1 by obtain⟨rfl,-⟩:=zlp hy;exact⟨H.out.fb,rfl⟩);have j0:=dG.out.blk (.inr (.inr ⟨Nat.le_refl _,l0⟩)) K0.out;have hSS:(fun w':World=>w'.cell? ⟨C.rb,6,none⟩=some (.pointer (some ⟨C.sb,0,none⟩))/\w'.cell? ⟨W.heap.size,0,none⟩=some (.int .u8 t.k)/\w'.cell? ⟨W.heap.size,1,none⟩=some (.int .i64 t.n)/\w'.cell? ⟨W.heap.size,2,none⟩=some (.string t.s)/\w'.cell? ⟨W.heap.size,3,none⟩=some (.slice A t.ks.length c)) w4.drew/\(fun _:World=>True) w4.drew:=⟨⟨hr1.cells.1,zc j0 rfl,zc j0 rfl,zc j0 rfl,zc j0 rfl⟩,trivial⟩
  clear hr1 hy j0
  cases back
  ·skip
   go_upto_region 5 with fail;refine zkd (fun w':World=>w'.cell? ⟨C.rb,6,none⟩=some (.pointer (some ⟨C.sb,0,none⟩))/\w'.cell? ⟨W.heap.size,0,none⟩=some (.int .u8 t.k)/\w'.cell? ⟨W.heap.size,1,none⟩=some (.int .i64 t.n)/\w'.cell? ⟨W.heap.size,2,none⟩=some (.string t.s)/\w'.cell? ⟨W.heap.size,3,none⟩=some (.slice A t.ks.length c)) (fun _:World=>True) 7 (by kernel_rfl) ?_;refine zT 0 hSS ?_;(try simp only[zQ]);refine zT 1 hSS ?_;(try simp only[zQ]);refine zT 2 hSS ?_;(try simp only[zQ]);refine zT 3 hSS ?_;(try simp only[zQ]);refine zT 4 hSS ?_;(try simp only[zQ]);refine zT 5 hSS ?_;(try simp only[zQ]);obtain⟨R,hR⟩:∃ R,doE r1.S t=R:=⟨_,rfl⟩
   have fQ:=zh (show zkl r1 R=o by rw[<-hR];exact iJ.out);have hbd:Below w4.heap.size w4 w4.drew:=(Below.refl _ _).drew;have had:Calls Tryz.prog 27 [.pointer (some ⟨C.sb,0,none⟩),.agg #[.int .u8 t.k,.int .i64 t.n,.string t.s,.slice A t.ks.length c]].toArray w4.drew fun e w'=>∃ v,e=.returned v/\(v=.int .i64 R.1/\RI (C.plus W.heap.size hi) w' { r1 with S:=R.2 }/\Kpt C.n0 (C.plus W.heap.size hi).kb w4 w') :=
    ((HR4.out.later hbd).ks.do_ t _ (HV.out.later (zka ak.out hbd))).mono fun e w' ⟨h1,h2,h3⟩=>by
     have hs:=RI.store (C:=C.plus W.heap.size hi) (HR4.out.later hbd) h2 h3 (by rw[dz.out.2];exact dz.out.1.do_ _);rw[hR] at h1 hs;exact⟨_,h1,rfl,hs.1,(Kpt.of_below hbd).trans hs.2⟩
   refine zo 6 fun K hK=>?_;refine zlj (by rfl) (.func 27) [.tmp 23,.tmp 24] _ (by rfl) 27 _ zxz (by rfl) _ (by rfl) _ had ?_;rintro v6 w6 ⟨rfl,dB,bY⟩;have ek:=zh (dL.out.trans (Kpt.less (C:=C) bY));have j0:=(dG.out.trans bY).blk (.inr (.inr ⟨Nat.le_refl _,l0⟩)) K0.out;have ax:(fun w':World=>w'.cell? ⟨C.rb,6,none⟩=some (.pointer (some ⟨C.sb,0,none⟩))/\w'.cell? ⟨W.heap.size,0,none⟩=some (.int .u8 t.k)/\w'.cell? ⟨W.heap.size,1,none⟩=some (.int .i64 t.n)/\w'.cell? ⟨W.heap.size,2,none⟩=some (.string t.s)/\w'.cell? ⟨W.heap.size,3,none⟩=some (.slice A t.ks.length c)) w6:=⟨dB.cells.1,zc j0 rfl,zc j0 rfl,zc j0 rfl,zc j0 rfl⟩
   have fP:=zh dB.less;have aO:=zh dB.below;refine hK.out _ _ ⟨ax,trivial⟩ ?_;have jI:=zh ax;clear hK K had dB bY j0 ax hSS;(try simp only[zQ]);have had:=zk4 ⟨C.rb,0,none⟩ R.1 w6;refine zp 7 fun K hK=>?_;refine zk2 (by rfl) (.func 168) [.tmp 19,.tmp 25] _ (by rfl) 168 _ zl5 (by rfl) _ (by rfl) (fun v w'=>w'=w6/\R.1=0) (had.mono ?_) ?_
   ·rintro e y1 ⟨rfl,hv1⟩;rcases hv1 with⟨h0,u0,rfl⟩|⟨h0,rfl⟩
    ·exact .inl ⟨_,rfl,rfl,h0⟩
    ·refine .inr ⟨_,rfl,?_⟩;refine⟨rfl,ek.out,aO.out,?_⟩
     try rw[bH.out]
     rw[<-fQ.out,show zkl r1 R=.err R.1 by unfold zkl;rw[if_pos h0]]
   rintro v12 iN ⟨rfl,h0⟩;have fT:=zh (show o=.ok { r1 with S:=R.2 } by rw[<-fQ.out];unfold zkl;rw[if_neg (by simpa using h0)]);refine hK.out _ _ jI.out ?_;clear hK K had h0;(try simp only[zQ]);refine zd ?_;go_wp2_with fail;go_end0;refine⟨ek.out,aO.out,?_⟩
   try rw[bH.out]
   rw[fT.out];exact⟨⟨_,rfl⟩,fP.out⟩
  ·skip
   go_upto_region 4 with fail;refine zkd (fun w':World=>w'.cell? ⟨C.rb,6,none⟩=some (.pointer (some ⟨C.sb,0,none⟩))/\w'.cell? ⟨W.heap.size,0,none⟩=some (.int .u8 t.k)/\w'.cell? ⟨W.heap.size,1,none⟩=some (.int .i64 t.n)/\w'.cell? ⟨W.heap.size,2,none⟩=some (.string t.s)/\w'.cell? ⟨W.heap.size,3,none⟩=some (.slice A t.ks.length c)) (fun _:World=>True) 7 (by kernel_rfl) ?_;refine zT 0 hSS ?_;(try simp only[zQ]);refine zT 1 hSS ?_;(try simp only[zQ]);refine zT 2 hSS ?_;(try simp only[zQ]);refine zT 3 hSS ?_;(try simp only[zQ]);refine zT 4 hSS ?_;(try simp only[zQ]);refine zT 5 hSS ?_;(try simp only[zQ]);obtain⟨R,hR⟩:∃ R,zn1 r1.S t=R:=⟨_,rfl⟩
   have fQ:=zh (show zkl r1 R=o by rw[<-hR];exact iJ.out);have hbd:Below w4.heap.size w4 w4.drew:=(Below.refl _ _).drew;have had:Calls Tryz.prog 172 [.pointer (some ⟨C.sb,0,none⟩),.agg #[.int .u8 t.k,.int .i64 t.n,.string t.s,.slice A t.ks.length c]].toArray w4.drew fun e w'=>∃ v,e=.returned v/\(v=.int .i64 R.1/\RI (C.plus W.heap.size hi) w' { r1 with S:=R.2 }/\Kpt C.n0 (C.plus W.heap.size hi).kb w4 w') :=
    ((HR4.out.later hbd).ks.undo t _ (HV.out.later (zka ak.out hbd))).mono fun e w' ⟨h1,h2,h3⟩=>by
     have hs:=RI.store (C:=C.plus W.heap.size hi) (HR4.out.later hbd) h2 h3 (by rw[dz.out.2];exact dz.out.1.undo _);rw[hR] at h1 hs;exact⟨_,h1,rfl,hs.1,(Kpt.of_below hbd).trans hs.2⟩
   refine zo 6 fun K hK=>?_;refine zlj (by rfl) (.func 172) [.tmp 15,.tmp 16] _ (by rfl) 172 _ zvV (by rfl) _ (by rfl) _ had ?_;rintro v6 w6 ⟨rfl,dB,bY⟩;have ek:=zh (dL.out.trans (Kpt.less (C:=C) bY));have j0:=(dG.out.trans bY).blk (.inr (.inr ⟨Nat.le_refl _,l0⟩)) K0.out;have ax:(fun w':World=>w'.cell? ⟨C.rb,6,none⟩=some (.pointer (some ⟨C.sb,0,none⟩))/\w'.cell? ⟨W.heap.size,0,none⟩=some (.int .u8 t.k)/\w'.cell? ⟨W.heap.size,1,none⟩=some (.int .i64 t.n)/\w'.cell? ⟨W.heap.size,2,none⟩=some (.string t.s)/\w'.cell? ⟨W.heap.size,3,none⟩=some (.slice A t.ks.length c)) w6:=⟨dB.cells.1,zc j0 rfl,zc j0 rfl,zc j0 rfl,zc j0 rfl⟩
   have fP:=zh dB.less;have aO:=zh dB.below;refine hK.out _ _ ⟨ax,trivial⟩ ?_;have jI:=zh ax;clear hK K had dB bY j0 ax hSS;(try simp only[zQ]);have had:=zk4 ⟨C.rb,0,none⟩ R.1 w6;refine zp 7 fun K hK=>?_;refine zk2 (by rfl) (.func 168) [.tmp 11,.tmp 17] _ (by rfl) 168 _ zl5 (by rfl) _ (by rfl) (fun v w'=>w'=w6/\R.1=0) (had.mono ?_) ?_
   ·rintro e y1 ⟨rfl,hv1⟩;rcases hv1 with⟨h0,u0,rfl⟩|⟨h0,rfl⟩
    ·exact .inl ⟨_,rfl,rfl,h0⟩
    ·refine .inr ⟨_,rfl,?_⟩;refine⟨rfl,ek.out,aO.out,?_⟩
     try rw[bH.out]
     rw[<-fQ.out,show zkl r1 R=.err R.1 by unfold zkl;rw[if_pos h0]]
   rintro v12 iN ⟨rfl,h0⟩;have fT:=zh (show o=.ok { r1 with S:=R.2 } by rw[<-fQ.out];unfold zkl;rw[if_neg (by simpa using h0)]);refine hK.out _ _ jI.out ?_;clear hK K had h0;(try simp only[zQ]);refine zd ?_;go_wp2_with fail;go_end0;refine⟨ek.out,aO.out,?_⟩
   try rw[bH.out]
   rw[fT.out];exact⟨⟨_,rfl⟩,fP.out⟩
def lsR (prs:List PR) (F:Int) (g:Nat) (back:Bool) (t:T) (r:RS):Out :=
 (zlb (zkA prs F g back) (blkL back (kid t 0)) r).bind fun r=>(zkD F r).bind fun r=>zkl r (zk9 r.S t.s 0)
def lsO (prs:List PR) (F:Int) (g:Nat) (back:Bool) (t:T) (r:RS):Out :=
 (zkD F r).bind fun r=>(zkl r (zlX r.S ⟨t.s,3,0⟩ 0)).bind (lsR prs F g back t)
theorem zvA {G:List PR->T->Prop} {g:Nat} (hS:IStC G g) {C:RC} (hC:C.Ok) {W:World} {r:RS} (h:RI C W r) (t:T) (v:Value) (back:Bool) (hv:NV C.w Any t v) (hk0:t.k=55) (hk:t.ks.length=1) (hG1:∀ u∈(kid t 0).ks,G C.p.prs u)
  (aD:lsO C.p.prs C.F g back t r ≠ .gas) :
  Calls Tryz.prog 139 #[.pointer (some ⟨C.rb,0,none⟩),v,.bool back] W (RunP C W (lsO C.p.prs C.F g back t r)):=by
 have HV:=zh hv;have H:=zh h;have HS:=zh hS;have oz:=zh hk;obtain⟨A,c,rfl,-,hlk,hlc,hrow⟩:=hv.open_;have ae:=zh hrow;have hb0:=zkc (Below.refl W.heap.size W) (.cells #[.int .u8 t.k,.int .i64 t.n,.string t.s,.slice A t.ks.length c] 24);obtain⟨dw,h1⟩:=h.plus hC hb0;have k0:=heap_alloc_new W (.cells #[.int .u8 t.k,.int .i64 t.n,.string t.s,.slice A t.ks.length c] 24);obtain⟨x0,x1,x2,x3⟩:=box4 k0;have bO:=zh (Kpt.of_below (n0:=C.n0) (kb:=C.kb) hb0);obtain⟨w3,hw3⟩:∃ x,W.alloc (.cells #[.int .u8 t.k,.int .i64 t.n,.string t.s,.slice A t.ks.length c] 24)=x:=⟨_,rfl⟩
 rw[hw3] at dw h1 k0 x0 x1 x2 x3 bO;have l0:=zkj k0;have K0:=zh k0;obtain⟨hi,hhi⟩:∃ x,w3.heap.size=x:=⟨_,rfl⟩
 rw[hhi] at dw h1 l0;have oU:=zh dw;have iA:=zh (zlP dw h1);obtain⟨o,ho⟩:∃ o,lsO C.p.prs C.F g back t r=o:=⟨_,rfl⟩
 have bH:=zh ho;have HO:=zh (show(zkD C.F r).bind (fun r=>(zkl r (zlX r.S ⟨t.s,3,0⟩ 0)).bind (lsR C.p.prs C.F g back t))=o from ho);rw[ho] at aD ⊢;have cz:=zh aD;rw[hk0] at hw3;have hw3':=hw3;clear hv hb0 dw h1 k0 h hk ho aD hrow hS hlk;have HKK:=zh hk0;rw[hk0] at x0;rw[hk0];clear hk0;go_enter Tryz.func139,Tryz.ntmps139;go_wp2_with fail;refine iA.out.mono ?_;rintro e w4 ⟨hk4,hb4,bU⟩;have dL:=zh (bO.out.trans (Kpt.less (C:=C) hk4));have ak:=zh (show Below C.w.heap.size C.w w4 from hb4);have aZ:match zkD C.F r with
  | .gas=>True
  | .err x=>e=zlu x
  | .ok r=>(∃ u,e=.returned u)/\RI (C.plus W.heap.size hi) w4 r:=bU
 have dG:=zh hk4;clear x0 x1 x2 x3 iA hk4 hb4 bU hw3 hw3'
 cases hy:zkD C.F r with
 | gas=>exact absurd hy (zks _ _).1
 | err x =>
  rw[hy] at aZ;subst aZ;refine⟨rfl,dL.out,ak.out,?_⟩
  try rw[bH.out]
  rw[<-HO.out,hy];rfl
 | ok r1 =>
  rw[hy] at aZ;obtain⟨⟨u3,rfl⟩,hr1⟩:=aZ;have HR4:=zh hr1;have iJ:=zh (show(zkl r1 (zlX r1.S ⟨t.s,3,0⟩ 0)).bind (lsR C.p.prs C.F g back t)=o by rw[<-HO.out,hy];rfl);have dz:=zh (show FB r.n r1.S/\r1.n=r.n+1 by obtain⟨rfl,-⟩:=zlp hy;exact⟨H.out.fb,rfl⟩);have j0:=dG.out.blk (.inr (.inr ⟨Nat.le_refl _,l0⟩)) K0.out;have hSS:(fun w':World=>w'.cell? ⟨C.rb,6,none⟩=some (.pointer (some ⟨C.sb,0,none⟩))/\w'.cell? ⟨W.heap.size,2,none⟩=some (.string t.s)) w4.drew/\(fun _:World=>True) w4.drew:=⟨⟨hr1.cells.1,zc j0 rfl⟩,trivial⟩
  clear hr1 hy j0;go_upto_region 14 with fail;refine zkd (fun w':World=>w'.cell? ⟨C.rb,6,none⟩=some (.pointer (some ⟨C.sb,0,none⟩))/\w'.cell? ⟨W.heap.size,2,none⟩=some (.string t.s)) (fun _:World=>True) 9 (by kernel_rfl) ?_;refine zT 0 hSS ?_;(try simp only[zQ]);refine zT 1 hSS ?_;(try simp only[zQ]);refine zT 2 hSS ?_;(try simp only[zQ]);refine zT 3 hSS ?_;(try simp only[zQ]);refine zT 4 hSS ?_;(try simp only[zQ]);refine zT 5 hSS ?_;(try simp only[zQ]);refine zT 6 hSS ?_;(try simp only[zQ]);refine zT 7 hSS ?_;(try simp only[zQ]);obtain⟨R,hR⟩:∃ R,zlX r1.S ⟨t.s,3,0⟩ 0=R:=⟨_,rfl⟩
  have HRR:=zh hR;have jS:=dz.out.1.cur;have ll:=H.out.n;have hbd:Below w4.heap.size w4 w4.drew:=(Below.refl _ _).drew;have had:Calls Tryz.prog 169 [.pointer (some ⟨C.sb,0,none⟩),.agg #[.string t.s,.int .u8 3,.int .i64 0],.int .i64 0].toArray w4.drew fun e w'=>∃ v,e=.returned v/\(v=.int .i64 R.1/\RI (C.plus W.heap.size hi) w' { r1 with S:=R.2 }/\Kpt C.n0 (C.plus W.heap.size hi).kb w4 w') :=
   ((HR4.out.later hbd).ks.open_ ⟨t.s,3,0⟩ (by obtain⟨_,_,_,hf,-⟩:=HV.out.open_;exact⟨hf.2.2,⟨by simp only;omega,by simp only;omega⟩,⟨by simp only;omega,by simp only;omega⟩⟩) 0 zero_I64 (by omega)).mono fun e w' ⟨h1,h2,h3⟩=>by
    have hs:=RI.store (C:=C.plus W.heap.size hi) (HR4.out.later hbd) (hR▸h2) h3 (by rw[dz.out.2,<-hR];exact dz.out.1.open_ _ _);exact⟨_,h1,by rw[hR],hs.1,(Kpt.of_below hbd).trans hs.2⟩
  refine zo 8 fun K hK=>?_;refine zlj (by rfl) (.func 169) [.tmp 53,.tmp 56,.const (.int .i64 0)] _ (by rfl) 169 _ zsu (by rfl) _ (by rfl) _ had ?_;rintro v6 w6 ⟨rfl,dB,bY⟩;have eP:=zh (dG.out.trans bY);have j0:=eP.out.blk (.inr (.inr ⟨Nat.le_refl _,l0⟩)) K0.out;have fP:=zh dB;have ax:(fun w':World=>w'.cell? ⟨C.rb,6,none⟩=some (.pointer (some ⟨C.sb,0,none⟩))/\w'.cell? ⟨W.heap.size,2,none⟩=some (.string t.s)) w6:=⟨dB.cells.1,zc j0 rfl⟩
  refine hK.out _ _ ⟨ax,trivial⟩ ?_;have jI:=zh ax;have aO:=zh dB.below;clear hK K had dB bY j0 ax hSS;(try simp only[zQ]);have ek:=zh (bO.out.trans (Kpt.less (C:=C) eP.out));rw[hR] at iJ;have had:=zk4 ⟨C.rb,0,none⟩ R.1 w6;refine zp 9 fun K hK=>?_;refine zk2 (by rfl) (.func 168) [.tmp 49,.tmp 57] _ (by rfl) 168 _ zl5 (by rfl) _ (by rfl) (fun v w'=>w'=w6/\R.1=0) (had.mono ?_) ?_
  ·rintro e y1 ⟨rfl,hv1⟩;rcases hv1 with⟨h0,u0,rfl⟩|⟨h0,rfl⟩
   ·exact .inl ⟨_,rfl,rfl,h0⟩
   ·refine .inr ⟨_,rfl,?_⟩;refine⟨rfl,ek.out,aO.out,?_⟩
    try rw[bH.out]
    rw[<-iJ.out,show zkl r1 R=.err R.1 by unfold zkl;rw[if_pos h0]];rfl
  rintro v7 w7 ⟨rfl,h0⟩;have kV:=zh (show lsR C.p.prs C.F g back t { r1 with S:=R.2 }=o by rw[<-iJ.out,show zkl r1 R=.ok { r1 with S:=R.2 } by unfold zkl;rw[if_neg (by simpa using h0)]];rfl);refine hK.out _ _ jI.out ?_;clear hK K had h0;(try simp only[zQ]);refine zd ?_;obtain⟨r2,hr2⟩:∃ x,({ r1 with S:=R.2 }:RS)=x:=⟨_,rfl⟩
  rw[hr2] at fP kV;have hI:0<t.ks.length:=by have:=oz.out;omega
  have hI1:(0:Int)<(t.ks.length:Int):=by omega
  obtain⟨a,u,Au,cu,rfl,-,hu,⟨p0,p1,p2,p3⟩,hnu⟩:=ae.out.nd hI;have fH:kid t 0=u:=by unfold kid;rw[List.getD_eq_getElem?_getD,List.getElem?_eq_getElem hI];exact hu.out
  have rU:=zh (show ∀ x∈u.ks,G C.p.prs x by rw[<-fH];exact hG1);have kr:=zh (show(runO C.p.prs C.F g back u r2).bind (fun r=>(zkD C.F r).bind fun r=>zkl r (zk9 r.S t.s 0))=o by rw[<-kV.out,<-fH];rfl);have hgu:runO C.p.prs C.F g back u r2 ≠ .gas:=fun e=>cz.out (by rw[<-kr.out,e];rfl);have aA:=zh (zk8 HS.out oU.out fP.out u _ back hnu rU.out hgu);have ha:a.add (0*4)=a:=by unfold Addr.add;simp
  rw[ha] at p0 p1 p2 p3;have q0:=zb aO.out p0;have q1:=zb aO.out p1;have q2:=zb aO.out p2;have q3:=zb aO.out p3;have j0:=eP.out.blk (.inr (.inr ⟨Nat.le_refl _,l0⟩)) K0.out;have q4:=zc (i:=3) j0 rfl;clear fH hnu hu p0 p1 p2 p3 hgu ha j0 jS ll hG1;go_wp2_with fail;refine aA.out.mono ?_;rintro e w8 ⟨gT,dm,oZ⟩;have mh:=zh (eP.out.trans gT);have oC:=zh (bO.out.trans (Kpt.less (C:=C) mh.out));have bA:=zh (show Below C.w.heap.size C.w w8 from dm);have bR:match runO C.p.prs C.F g back u r2 with
   | .gas=>True
   | .err x=>e=zlu x
   | .ok r=>(∃ u,e=.returned u)/\RI (C.plus W.heap.size hi) w8 r:=oZ
  clear q0 q1 q2 q3 q4 gT dm oZ aA
  cases hx:runO C.p.prs C.F g back u r2 with
  | gas=>exact absurd (by rw[<-kr.out,hx];rfl) cz.out
  | err x =>
   rw[hx] at bR;subst bR;refine⟨rfl,oC.out,bA.out,?_⟩
   try rw[bH.out]
   rw[<-kr.out,hx];rfl
  | ok r3 =>
   rw[hx] at bR;obtain⟨⟨u9,rfl⟩,hr3⟩:=bR;have HST:=zh (zlP oU.out hr3);have gG:=zh (show((zkD C.F r3).bind fun r=>zkl r (zk9 r.S t.s 0))=o by rw[<-kr.out,hx];rfl);have mX:=zh hr3;clear hx hr3;go_wp2_with fail;refine HST.out.mono ?_;rintro e w9 ⟨aG,aH,dC⟩;have iw:=zh (mh.out.trans aG);have iq:=zh (bO.out.trans (Kpt.less (C:=C) iw.out));have aW:=zh (show Below C.w.heap.size C.w w9 from aH);have fF:match zkD C.F r3 with
    | .gas=>True
    | .err x=>e=zlu x
    | .ok r=>(∃ u,e=.returned u)/\RI (C.plus W.heap.size hi) w9 r:=dC
   clear aG aH dC HST
   cases hy:zkD C.F r3 with
   | gas=>exact absurd (by rw[<-gG.out,hy];rfl) cz.out
   | err x =>
    rw[hy] at fF;subst fF;refine⟨rfl,iq.out,aW.out,?_⟩
    try rw[bH.out]
    rw[<-gG.out,hy];rfl
   | ok r4 =>
    rw[hy] at fF;obtain⟨⟨u9,rfl⟩,hr4⟩:=fF;have j3:=zh hr4;have iB:=zh (show FB r3.n r4.S/\r4.n=r3.n+1 by obtain⟨rfl,-⟩:=zlp hy;exact⟨mX.out.fb,rfl⟩);obtain⟨Rc,kN⟩:∃ R,zk9 r4.S t.s 0=R:=⟨_,rfl⟩
    have il:=zh (show zkl r4 Rc=o by rw[<-gG.out,hy,<-kN];rfl);have j0:=iw.out.blk (.inr (.inr ⟨Nat.le_refl _,l0⟩)) K0.out;have hSS:(fun w':World=>w'.cell? ⟨C.rb,6,none⟩=some (.pointer (some ⟨C.sb,0,none⟩))/\w'.cell? ⟨W.heap.size,2,none⟩=some (.string t.s)) w9.drew/\(fun _:World=>True) w9.drew:=⟨⟨hr4.cells.1,zc j0 rfl⟩,trivial⟩
    clear hr4 hy j0;go_upto_region 17 with fail;refine zkd (fun w':World=>w'.cell? ⟨C.rb,6,none⟩=some (.pointer (some ⟨C.sb,0,none⟩))/\w'.cell? ⟨W.heap.size,2,none⟩=some (.string t.s)) (fun _:World=>True) 8 (by kernel_rfl) ?_;refine zT 0 hSS ?_;(try simp only[zQ]);refine zT 1 hSS ?_;(try simp only[zQ]);refine zT 2 hSS ?_;(try simp only[zQ]);refine zT 3 hSS ?_;(try simp only[zQ]);refine zT 4 hSS ?_;(try simp only[zQ]);refine zT 5 hSS ?_;(try simp only[zQ]);refine zT 6 hSS ?_;(try simp only[zQ]);have qH:Below w9.heap.size w9 w9.drew:=(Below.refl _ _).drew;have had:Calls Tryz.prog 170 [.pointer (some ⟨C.sb,0,none⟩),.string t.s,.int .i64 0].toArray w9.drew fun e w'=>∃ v,e=.returned v/\(v=.int .i64 Rc.1/\RI (C.plus W.heap.size hi) w' { r4 with S:=Rc.2 }/\Kpt C.n0 (C.plus W.heap.size hi).kb w9 w') :=
     ((j3.out.later qH).ks.close t.s 0).mono fun e w' ⟨h1,h2,h3⟩=>by
      have hs:=RI.store (C:=C.plus W.heap.size hi) (j3.out.later qH) (kN▸h2) h3 (by rw[iB.out.2,<-kN];exact iB.out.1.close_ _ _);exact⟨_,h1,by rw[kN],hs.1,(Kpt.of_below qH).trans hs.2⟩
    refine zo 7 fun K hK=>?_;refine zlj (by rfl) (.func 170) [.tmp 72,.tmp 74,.const (.int .i64 0)] _ (by rfl) 170 _ zqE (by rfl) _ (by rfl) _ had ?_;rintro v11 aT ⟨rfl,fE,gU⟩;have fu:=zh (iw.out.trans gU);have j0:=fu.out.blk (.inr (.inr ⟨Nat.le_refl _,l0⟩)) K0.out;have kg:=zh fE;have ax:(fun w':World=>w'.cell? ⟨C.rb,6,none⟩=some (.pointer (some ⟨C.sb,0,none⟩))/\w'.cell? ⟨W.heap.size,2,none⟩=some (.string t.s)) aT:=⟨fE.cells.1,zc j0 rfl⟩
    refine hK.out _ _ ⟨ax,trivial⟩ ?_;have jI:=zh ax;have jA:=zh fE.below;clear hK K had fE gU j0 ax hSS;(try simp only[zQ]);have jr:=zh (bO.out.trans (Kpt.less (C:=C) fu.out));have had:=zk4 ⟨C.rb,0,none⟩ Rc.1 aT;refine zp 8 fun K hK=>?_;refine zk2 (by rfl) (.func 168) [.tmp 68,.tmp 75] _ (by rfl) 168 _ zl5 (by rfl) _ (by rfl) (fun v w'=>w'=aT/\Rc.1=0) (had.mono ?_) ?_
    ·rintro e y1 ⟨rfl,hv1⟩;rcases hv1 with⟨h0,u0,rfl⟩|⟨h0,rfl⟩
     ·exact .inl ⟨_,rfl,rfl,h0⟩
     ·refine .inr ⟨_,rfl,?_⟩;refine⟨rfl,jr.out,jA.out,?_⟩
      try rw[bH.out]
      rw[<-il.out,show zkl r4 Rc=.err Rc.1 by unfold zkl;rw[if_pos h0]]
    rintro v12 iN ⟨rfl,h0⟩;have fT:=zh (show o=.ok { r4 with S:=Rc.2 } by rw[<-il.out];unfold zkl;rw[if_neg (by simpa using h0)]);refine hK.out _ _ jI.out ?_;clear hK K had h0;(try simp only[zQ]);refine zd ?_;have lX:=zh kg.out.less;go_wp2_with fail;go_end0;refine⟨jr.out,jA.out,?_⟩
    try rw[bH.out]
    rw[fT.out];exact⟨⟨_,rfl⟩,lX.out⟩
end Go.Proofs.YtghbhbdnkjjnnaaGreat
namespace Go.Proofs.YtghbhbdnkjjnnaaGreat
open Go.RowKit
mutual
/-- ast.limited: what is left of the count,or none. -/
def lim:T->Nat->Nat->Option Nat
 | .nd _ _ _ ks,d,l=>if d=0\/l=0 then none else lims ks (d-1) (l-1)
def lims:List T->Nat->Nat->Option Nat
 | [],_,l=>some l
 | t::ts,d,l=>match lim t d l with
  | none=>none
  | some l'=>lims ts d l'
end
theorem znJ (ts us:List T) (d:Nat):∀ l,lims (ts++us) d l=(lims ts d l).bind fun r=>lims us d r:=by
 induction ts with
 | nil=>intro l;simp[lims]
 | cons t ts ih =>
  intro l;simp only[List.cons_append,lims]
  cases lim t d l with
  | none=>rfl
  | some r=>exact ih r
theorem zt3 (t:T) (d l:Nat):lims [t] d l=lim t d l:=by
 simp only[lims]
 cases lim t d l<;>rfl
theorem zse {ks:List T} {d l r j:Nat} (hj:j<ks.length) (h:lims (ks.take j) d l=some r):lims (ks.take (j+1)) d l=lim ks[j] d r:=by
 rw[List.take_succ_eq_append_getElem hj,znJ,h];exact zt3 _ _ _
theorem zsf {ks:List T} {d l j:Nat} (h:lims (ks.take j) d l=none):lims ks d l=none:=by
 rw[<-List.take_append_drop j ks,znJ,h];rfl
theorem zwH (t:T):∀ d l r,lim t d l=some r->r<=l:=by
 induction t using T.ind with
 | _ k n s ks ih =>
 intro d l r h;rw[lim] at h
 split at h
 ·cases h
 ·have key:∀ (us:List T),(∀ t∈us,∀ d l r,lim t d l=some r->r<=l)->∀ l r d,lims us d l=some r->r<=l:=by
   intro us
   induction us with
   | nil=>intro _ l r d h;simp[lims] at h;omega
   | cons t us ih2 =>
    intro hu l r d h;simp only[lims] at h
    cases h1:lim t d l with
    | none=>rw[h1] at h;cases h
    | some r1 =>
     rw[h1] at h;have:=hu t (by simp) d l r1 h1;have:=ih2 (fun t ht=>hu t (by simp[ht])) r1 r d h;omega
  have:=key ks ih _ _ _ h;omega
def LimE (w:World) (b:Nat) (o:Option Nat) (e:Ending) (w':World):Prop :=
 e=.returned (.bool o.isSome)/\∃ l':Nat,w'.heap[b]?=some (.cells #[.int .i64 (l':Int)] 3 (0,0))/\(∀ r,o=some r->l'=r)/\w.grownBy w' (some b)
theorem zmI {a b c:World} {row:Option Nat} (h1:a.grownBy b row) (h2:b.grownBy c row):a.grownBy c row :=
 ⟨h2.os.trans h1.os,h2.tape.trans h1.tape,h2.output.trans h1.output,Nat.le_trans h1.size h2.size,fun i hi hne=>(h2.block i (Nat.lt_of_lt_of_le hi h1.size) hne).trans (h1.block i hi hne)⟩
theorem zl4 {w:World} (o:Obj) (row:Option Nat):w.grownBy (w.alloc o) row :=
 let h:=(Below.refl w.heap.size w).alloc (Nat.le_refl _) o
 ⟨h.os,h.tape,h.output,h.size,fun b hb _=>h.block b hb⟩
theorem zl1.grown {w w':World} {S:Nat->Prop} {A:Option Addr} {ts:List T} {b:Nat} (h:zl1 w S A ts) (hg:w.grownBy w' (some b)) (hb:¬ S b):zl1 w' S A ts :=
 h.keep (fun _ h _=>h) fun i hi hlt=>hg.block i hlt fun e=>by injection e with e;subst e;exact hb hi
theorem zpZ (t:T):∀ (d l:Nat) (S:Nat->Prop) (v:Value) (w:World) (b:Nat),NV w S t v->¬ S b->d<=80->l<=2000->w.heap[b]?=some (.cells #[.int .i64 (l:Int)] 3 (0,0)) ->
  Calls Tryz.prog 127 #[v,.int .i64 (d:Int),.pointer (some ⟨b,0,none⟩)] w (LimE w b (lim t d l)):=by
 induction t using T.ind with
 | _ k n s ks ih =>
 intro d l S v w b hv hSb hd hl hbx;obtain⟨A,c,rfl,hf,hlk,hlc,hrow⟩:=hv.open_;simp only[T.k_nd,T.n_nd,T.s_nd,T.ks_nd] at *
 have az:=zkK hlk;have IH:=zh ih;have ae:=zh hrow;have ru:=zh hSb;have aM:=zh hbx;have hbl:=zkj hbx;have c0:=zkq (zc (i:=0) (u:=.int .i64 (l:Int)) hbx rfl);have f0:∀ o:Obj,(w.alloc o).frozen? ⟨b,0,none⟩=false:=fun o=>by
  have:(w.alloc o).heap[b]?=some (.cells #[.int .i64 (l:Int)] 3 (0,0)):=(Below.heap_alloc w o b hbl).trans hbx;exact zf this
 clear hv ih hrow hSb hf hlk hbx;have hne:¬ b=w.heap.size:=by omega
 have hne':¬ w.heap.size=b:=by omega
 by_cases hd0:d=0
 ·subst hd0;have HX:=zh (show lim (.nd k n s ks) 0 l=none by rw[lim];simp);go_enter Tryz.func127,Tryz.ntmps127;go_wp2_with fail;go_ret;rw[HX.out];exact⟨rfl,l,(Below.heap_alloc w _ b hbl).trans aM.out,(fun r h=>by cases h),zl4 _ _⟩
 by_cases hl0:l=0
 ·subst hl0;have HX:=zh (show lim (.nd k n s ks) d 0=none by rw[lim];simp);have fd:((d:Int)==0)=false:=by simpa using hd0
  go_enter Tryz.func127,Tryz.ntmps127;go_wp2_with fail;go_ret;rw[HX.out];exact⟨rfl,0,(Below.heap_alloc w _ b hbl).trans aM.out,(fun r h=>by cases h),zl4 _ _⟩
 obtain⟨d',rfl⟩:∃ d',d=d'+1:=⟨d-1,by omega⟩
 obtain⟨l',rfl⟩:∃ l',l=l'+1:=⟨l-1,by omega⟩
 have HX:=zh (show lim (.nd k n s ks) (d'+1) (l'+1)=lims ks d' l' by rw[lim,if_neg (by omega)];simp);rw[show((d'+1:Nat):Int)=(d':Int)+1 from rfl];have fd:((d':Int)+1==0)=false:=by simp;omega
 have fl:((l':Int)+1==0)=false:=by simp;omega
 clear hd0 hl0;have hb1:(w.setCell ⟨b,0,none⟩ (.int .i64 (l':Int))).heap[b]?=some (.cells #[.int .i64 (l':Int)] 3 (0,0)):=by
  have h1:=heap_setCell_same w b 0 _ 3 (.int .i64 (l':Int)) aM.out;simpa using h1
 have hz1:(w.setCell ⟨b,0,none⟩ (.int .i64 (l':Int))).heap.size=w.heap.size:=by simp[World.setCell]
 obtain⟨W0,hW0⟩:∃ W0,(w.setCell ⟨b,0,none⟩ (.int .i64 (l':Int))).alloc (.cells #[.int .u8 k,.int .i64 n,.string s,.slice A ks.length c] 24)=W0:=⟨_,rfl⟩
 have H0:W0.heap[b]?=some (.cells #[.int .i64 (l':Int)] 3 (0,0)):=by
  rw[<-hW0,Below.heap_alloc _ _ b (by rw[hz1];exact hbl)];exact hb1
 have A0:W0.heap[w.heap.size]?=some (.cells #[.int .u8 k,.int .i64 n,.string s,.slice A ks.length c] 24 (0,0)):=by
  rw[<-hW0,<-hz1];exact heap_alloc_new _ _
 have G0:w.grownBy W0 (some b):=by
  rw[<-hW0];refine zmI (ztS (zr1 w (some b)) (p:=⟨b,0,none⟩) rfl _) (zl4 _ _)
 have HH:=zh (And.intro H0 (And.intro A0 G0));have HW0:=zh hW0;clear H0 G0 A0 hb1 hz1 hW0;go_enter Tryz.func127,Tryz.ntmps127;go_wp2_with fail;rw[HW0.out];clear c0 f0
 go_loopw [25] (fun i wr=>∃ (j lc:Nat),j<=ks.length/\i=.int .i64 j/\lc<=2000/\Hid (lims (ks.take j) d' l'=some lc)/\wr.heap[b]?=some (.cells #[.int .i64 (lc:Int)] 3 (0,0))/\wr.heap[w.heap.size]?=some (.cells #[.int .u8 k,.int .i64 n,.string s,.slice A ks.length c] 24 (0,0))/\w.grownBy wr (some b)) (fun i _=>ks.length-(intOf i).toNat)
 case atStart=>exact⟨0,l',Nat.zero_le _,rfl,by omega,zh (by simp[lims]),HH.out.1,HH.out.2.1,HH.out.2.2⟩
 case round =>
  obtain⟨j,lc,hj,rfl,nH,HLI,hbx,hax,hg⟩:=hrel;clear HH HW0;by_cases hlt:j<ks.length
  ·obtain⟨a,t,A1,c1,rfl,_,Ht,⟨q0,q1,q2,q3⟩,hn⟩:=(ae.out.grown hg ru.out).nd hlt;have hI:=IH.out ks[j] (List.getElem_mem hlt);rw[Ht.out] at hI;have nN:=zkj hbx;have hal:∀ o:Obj,(wr.alloc o).heap[b]?=some (.cells #[.int .i64 (lc:Int)] 3 (0,0)):=fun o=>(Below.heap_alloc wr o b nN).trans hbx;have HI1:=zh (hI d' lc S _ (wr.alloc (.cells #[.int .u8 t.k,.int .i64 t.n,.string t.s,.slice A1 t.ks.length c1] 24)) b (hn.later ((Below.refl _ _).alloc (Nat.le_refl _) _)) ru.out (by omega) nH (hal _));have HT:=zh (show lims (ks.take (j+1)) d' l'=lim t d' lc by rw[zse hlt HLI.out,Ht.out]);have HG:=zh (zmI hg (zl4 (.cells #[.int .u8 t.k,.int .i64 t.n,.string t.s,.slice A1 t.ks.length c1] 24) _))
   have HAX:=zh (show ∀ o:Obj,(wr.alloc o).heap[w.heap.size]?=some (.cells #[.int .u8 k,.int .i64 n,.string s,.slice (some a) ks.length c] 24 (0,0)) from fun o=>(Below.heap_alloc wr o _ (zkj hax)).trans hax);clear hI hn hbx hax hal;go_wp2_with fail;refine HI1.out.mono ?_;rintro e w1 ⟨rfl,l1,hb1,hl1,hg1⟩;have wP:=zh (zmI HG.out hg1);have HA1:=zh ((hg1.block _ (zkj (HAX.out _)) (fun e=>hne' (by injection e))).trans (HAX.out _));have HB1:=zh hb1;clear hb1 hg1
   cases ho:lim t d' lc with
   | none =>
    have dK:=zh (show lims ks d' l'=none from zsf (j:=j+1) (by rw[HT.out,ho]));go_wp2_with fail;go_ret;rw[HX.out,dK.out];exact⟨rfl,l1,HB1.out,(fun r h=>by cases h),wP.out⟩
   | some r =>
    have hr1:=hl1 r ho;subst hr1;have hle:l1<=2000:=by have:=zwH t d' lc l1 ho;omega
    have HT2:=zh (show lims (ks.take (j+1)) d' l'=some l1 by rw[HT.out,ho]);clear hl1 ho;go_wp2_with fail
    go_roundw
    case rel=>exact⟨j+1,l1,by omega,by go_num,hle,HT2,HB1.out,HA1.out,wP.out⟩
    case measure=>simp[intOf];omega
  ·obtain rfl:j=ks.length:=by omega
   have HL2:=zh (show lims ks d' l'=some lc by have:=HLI.out;rw[List.take_of_length_le (by omega)] at this;exact this);go_wp2_with fail;go_ret;rw[HX.out,HL2.out];exact⟨rfl,lc,hbx,(fun r h=>by cases h;rfl),hg⟩
def zlx (t:T):Bool:=(lim t 80 2000).isSome&&isB t
theorem zop (t:T) (v:Value) (w:World) (hv:NV w Any t v):Calls Tryz.prog 104 #[v] w fun e w'=>e=.returned (.bool (zlx t))/\Below w.heap.size w w':=by
 have HV:=zh hv;have HX:=zh (show zlx t=((lim t 80 2000).isSome&&isB t) from rfl);obtain⟨A,c,rfl,hf,hlk,hlc,hrow⟩:=hv.open_;clear hf hlk hrow hv hlc;generalize t.k=k,t.n=n,t.s=s,t.ks.length=l at *
 have wG:=zh (show NV w (fun b=>b<w.heap.size) t (nv k n s A l c) from HV.out.keep (fun _ _ h=>h) fun _ _ _=>rfl);have hb2:∀ o o',Below w.heap.size w ((w.alloc o).alloc o'):=fun o o'=>((Below.refl _ _).alloc (Nat.le_refl _) _).alloc (by simp) _;have HB2:=zh hb2;have aM:=zh (show ∀ o:Obj,((w.alloc o).alloc (.cells #[.int .i64 2000] 3)).heap[w.heap.size+1]?=some (.cells #[.int .i64 ((2000:Nat):Int)] 3 (0,0)) from fun o=>by
  have:=heap_alloc_new (w.alloc o) (.cells #[.int .i64 2000] 3);simpa using this)
 clear hb2;go_enter Tryz.func104,Tryz.ntmps104;go_wp2_with fail;refine(zpZ t 80 2000 (fun b=>b<w.heap.size) _ _ (w.heap.size+1) (wG.out.later (HB2.out _ _)) (fun h=>by have h':w.heap.size+1<w.heap.size:=h;omega) (by omega) (by omega) (aM.out _)).mono ?_;rintro e w1 ⟨rfl,l1,hb1,_,hg1⟩;have q1:Below w.heap.size w w1:=by
  refine(HB2.out (.cells #[.int .u8 k,.int .i64 n,.string s,.slice A l c] 24) (.cells #[.int .i64 2000] 3)).grown hg1 (by simp;omega) ?_;intro g e;injection e with e;omega
 have hc:∀ i,w1.cell? ⟨w.heap.size,i,none⟩=((w.alloc (.cells #[.int .u8 k,.int .i64 n,.string s,.slice A l c] 24)).alloc (.cells #[.int .i64 2000] 3)).cell? ⟨w.heap.size,i,none⟩:=fun i =>
  World.cell?_of_block (a:=⟨w.heap.size,i,none⟩) (hg1.block _ (by simp;omega) (fun e=>by simp at e))
 have x0:w1.cell? ⟨w.heap.size,0,none⟩=some (.int .u8 k):=(hc 0).trans (by simp);have x1:w1.cell? ⟨w.heap.size,1,none⟩=some (.int .i64 n):=(hc 1).trans (by simp);have x2:w1.cell? ⟨w.heap.size,2,none⟩=some (.string s):=(hc 2).trans (by simp);have x3:w1.cell? ⟨w.heap.size,3,none⟩=some (.slice A l c):=(hc 3).trans (by simp);have uO:=HX.out;clear hc hg1 hb1
 cases ho:(lim t 80 2000).isSome
 ·rw[ho] at uO;go_wp2_with fail;go_ret;exact⟨by rw[uO];rfl,q1⟩
 ·rw[ho] at uO;have dK:=zh uO;clear uO;go_wp2_with fail;refine(zqh t _ _ (HV.out.later q1)).mono ?_;rintro e w2 ⟨rfl,aj⟩;go_wp2_with fail;go_ret;exact⟨by rw[dK.out];simp,q1.trans (aj.mono q1.size)⟩
def zmb (v:VD):Bool:=zl9 v.s&&(if v.k=1\/v.k=3 then v.n==0 else if v.k=2 then decide (1<=v.n/\v.n<=16) else false)
theorem zuN {vs:List VD} {f:VD->Bool} {j:Nat} (hj:j<vs.length) (h:(vs.take j).all f=true):(vs.take (j+1)).all f=f vs[j]:=by
 rw[List.take_succ_eq_append_getElem hj,List.all_append,h];simp
theorem zuO {vs:List VD} {f:VD->Bool} {j:Nat} (hj:j<vs.length) (h:f vs[j]=false):vs.all f=false:=by
 simp only[List.all_eq_false];exact⟨vs[j],List.getElem_mem hj,by simp[h]⟩
theorem znh (vs:List VD) (A:Option Addr) (c:Nat) (S:Nat->Prop) (w:World) (hrow:RowV w S A vs) (hl:vs.length<=LV) (_hlc:vs.length<=c) :
  Calls Tryz.prog 103 #[.slice A vs.length c] w fun e w'=>e=.returned (.bool (vs.all zmb))/\Below w.heap.size w w':=by
 have hl':=zlv hl;have ae:=zh hrow;clear hrow hl;go_enter Tryz.func103,Tryz.ntmps103;go_wp2_with fail
 go_loopw [7] (fun i wr=>∃ j:Nat,j<=vs.length/\i=.int .i64 j/\Below w.heap.size w wr/\Hid ((vs.take j).all zmb=true)) (fun i _=>vs.length-(intOf i).toNat)
 case atStart=>exact⟨0,Nat.zero_le _,rfl,Below.refl _ _,zh (by simp)⟩
 case round =>
  obtain⟨j,hj,rfl,hb,HA⟩:=hrel;by_cases hlt:j<vs.length
  ·obtain⟨a,v,rfl,_,Hv,⟨q0,q1,q2⟩,hf⟩:=(ae.out.later hb).nd hlt;have HT:=zh (show(vs.take (j+1)).all zmb=zmb v by rw[zuN hlt HA.out,Hv.out]);have HN:=zh (show zmb v=false->vs.all zmb=false from fun h=>zuO hlt (by rw[Hv.out];exact h));have HD:=zh (show zmb v=(zl9 v.s&&(if v.k=1\/v.k=3 then v.n==0 else if v.k=2 then decide (1<=v.n/\v.n<=16) else false)) from rfl);obtain⟨s,hs⟩:∃ s,v.s=s:=⟨_,rfl⟩
   obtain⟨k,hk⟩:∃ k,v.k=k:=⟨_,rfl⟩
   obtain⟨n,hn⟩:∃ n,v.n=n:=⟨_,rfl⟩
   have dM:=HD.out;rw[hs,hk,hn] at dM;rw[hs] at q0;rw[hk] at q1;rw[hn] at q2;clear HD hf hs hk hn;have HD:=zh dM;clear dM;go_wp2_with fail;refine(zo5 s _).mono ?_;rintro e w1 ⟨rfl,aa⟩;have q1':Below w.heap.size w w1:=(hb.alloc hb.size _).trans (aa.mono (by have:=hb.size;simp;omega));have x1:w1.cell? ⟨wr.heap.size,1,none⟩=some (.int .u8 k):=zb aa (by simp);have x2:w1.cell? ⟨wr.heap.size,2,none⟩=some (.int .i64 n):=zb aa (by simp);have dM:=HD.out;clear aa
   cases hnm:zl9 s
   ·rw[hnm] at dM;have HR:=zh (HN.out (by rw[dM];rfl));clear dM;go_wp2_with fail;go_ret;exact⟨by rw[HR.out];rfl,q1'⟩
   rw[hnm,Bool.true_and] at dM;by_cases qW:k=1\/k=3
   ·rw[if_pos qW] at dM;by_cases hn0:n=0
    ·subst hn0;have HG:=zh (show(vs.take (j+1)).all zmb=true by rw[HT.out,dM];rfl);clear dM;rcases qW with rfl|rfl
     ·go_wp2_with fail
      go_roundw
      case rel=>exact⟨j+1,by omega,by go_num,q1',HG⟩
      case measure=>simp[intOf];omega
     ·go_wp2_with fail
      go_roundw
      case rel=>exact⟨j+1,by omega,by go_num,q1',HG⟩
      case measure=>simp[intOf];omega
    ·have fn:(n != 0)=true:=by simpa using hn0
     have HR:=zh (HN.out (by rw[dM];simpa using hn0));clear dM;rcases qW with rfl|rfl
     ·go_wp2_with fail;go_ret;exact⟨by rw[HR.out];rfl,q1'⟩
     ·go_wp2_with fail;go_ret;exact⟨by rw[HR.out];rfl,q1'⟩
   ·rw[if_neg qW] at dM;have f1:(k==1)=false:=by simp;omega
    have f3:(k==3)=false:=by simp;omega
    by_cases h2:k=2
    ·subst h2;rw[if_pos rfl] at dM;by_cases hl1:n<1
     ·have HR:=zh (HN.out (by rw[dM];simp;omega));clear dM;go_wp2_with fail;go_ret;exact⟨by rw[HR.out];rfl,q1'⟩
     ·by_cases hg16:16<n
      ·have HR:=zh (HN.out (by rw[dM];simp;omega));have qx:1<=n:=by omega
       clear dM hl1;go_wp2_with fail;go_ret;exact⟨by rw[HR.out];rfl,q1'⟩
      ·have HG:=zh (show(vs.take (j+1)).all zmb=true by rw[HT.out,dM];simp;omega);have qx:1<=n:=by omega
       have hg16':n<=16:=by omega
       clear dM hl1 hg16;go_wp2_with fail
       go_roundw
       case rel=>exact⟨j+1,by omega,by go_num,q1',HG⟩
       case measure=>simp[intOf];omega
    ·rw[if_neg h2] at dM;have f2:(k==2)=false:=by simpa using h2
     have HR:=zh (HN.out dM);clear dM;go_wp2_with fail;go_ret;exact⟨by rw[HR.out];rfl,q1'⟩
  ·obtain rfl:j=vs.length:=by omega
   have HR:=zh (show vs.all zmb=true by have:=HA.out;rw[List.take_of_length_le (by omega)] at this;exact this);go_wp2_with fail;go_ret;exact⟨by rw[HR.out];rfl,hb⟩
def zn4 (r:PR):Bool:=zl9 r.s&&decide (r.ps.length<=8)&&r.ps.all zmb&&zlx r.b
def zlc (p:PG):Bool:=decide (p.vs.length<=32)&&decide (p.prs.length<=64)&&p.vs.all zmb&&p.prs.all zn4&&zlx p.m
theorem zrV {vs:List PR} {f:PR->Bool} {j:Nat} (hj:j<vs.length) (h:(vs.take j).all f=true):(vs.take (j+1)).all f=f vs[j]:=by
 rw[List.take_succ_eq_append_getElem hj,List.all_append,h];simp
theorem zrW {vs:List PR} {f:PR->Bool} {j:Nat} (hj:j<vs.length) (h:f vs[j]=false):vs.all f=false:=by
 simp only[List.all_eq_false];exact⟨vs[j],List.getElem_mem hj,by simp[h]⟩
theorem zpE (p:PG) (S:Nat->Prop) (v:Value) (w:World) (hv:PV w S p v):Calls Tryz.prog 76 #[v] w fun e w'=>e=.returned (.bool (zlc p))/\Below w.heap.size w w':=by
 obtain⟨A1,c1,A2,c2,A3,c3,rfl,hr⟩:=hv;have HR:=zh hr;have hv1:=zlv hr.lv;have hv2:=zlv hr.lp;have HX:=zh (show zlc p=(decide (p.vs.length<=32)&&decide (p.prs.length<=64)&&p.vs.all zmb&&p.prs.all zn4&&zlx p.m) from rfl);have nH:=hr.lpc;obtain⟨L1,hL1⟩:∃ L,p.vs.length=L:=⟨_,rfl⟩
 obtain⟨L2,hL2⟩:∃ L,p.prs.length=L:=⟨_,rfl⟩
 obtain⟨k,hk⟩:∃ k,p.m.k=k:=⟨_,rfl⟩
 obtain⟨n,hn⟩:∃ n,p.m.n=n:=⟨_,rfl⟩
 obtain⟨s,hs⟩:∃ s,p.m.s=s:=⟨_,rfl⟩
 obtain⟨l3,hl3⟩:∃ l,p.m.ks.length=l:=⟨_,rfl⟩
 have pQ:=zh hL1;have HL2:=zh hL2;have hm:=hr.main;rw[hk,hn,hs,hl3] at hm;have HM:=zh hm;have hx:=HX.out;rw[hL1,hL2] at hx;rw[hL1] at hv1;rw[hL2] at hv2 nH;rw[hL1,hL2,hk,hn,hs,hl3];clear hr hm HX hL1 hL2 hk hn hs hl3;have HX:=zh hx;clear hx;have hb0:∀ o,Below w.heap.size w (w.alloc o):=fun o=>(Below.refl _ _).alloc (Nat.le_refl _) _;have HB0:=zh hb0;clear hb0;have rZ:=zh (show ∀ w',Below w.heap.size w w'->Calls Tryz.prog 103 #[.slice A1 L1 c1] w' fun e w''=>e=.returned (.bool (p.vs.all zmb))/\Below w'.heap.size w' w'' from fun w' h=>by
  have:=znh p.vs A1 c1 S w' (HR.out.vars.later h) HR.out.lv HR.out.lvc;rw[pQ.out] at this;exact this)
 by_cases h32:32<L1
 ·have HF:=zh (show zlc p=false by rw[HX.out];simp;intro h;omega);have h32':(32:Int)<(L1:Int):=by omega
  go_enter Tryz.func76,Tryz.ntmps76;go_wp2_with fail;go_ret;exact⟨by rw[HF.out];rfl,HB0.out _⟩
 by_cases h64:64<L2
 ·have HF:=zh (show zlc p=false by rw[HX.out];simp;intro _ h;omega);have h32':(L1:Int)<=32:=by omega
  have h64':(64:Int)<(L2:Int):=by omega
  clear h32;go_enter Tryz.func76,Tryz.ntmps76;go_wp2_with fail;go_ret;exact⟨by rw[HF.out];rfl,HB0.out _⟩
 have h32':(L1:Int)<=32:=by omega
 have h64':(L2:Int)<=64:=by omega
 have hx:=HX.out;have e1:L1<=32:=by omega
 have e2:L2<=64:=by omega
 rw[decide_eq_true e1,decide_eq_true e2] at hx;simp only[Bool.true_and] at hx;clear HX h32 h64 e1 e2;have HX:=zh hx;clear hx;go_enter Tryz.func76,Tryz.ntmps76;go_wp2_with fail;refine(rZ.out _ (HB0.out _)).mono ?_;rintro e w1 ⟨rfl,aa⟩;have q1:Below w.heap.size w w1:=(HB0.out _).trans (aa.mono (by simp));have hbx:w1.heap[w.heap.size]?=some (.cells #[.slice A1 L1 c1,.slice A2 L2 c2,.int .u8 k,.int .i64 n,.string s,.slice A3 l3 c3] 55 (0,0)):=(aa.block _ (by simp)).trans (heap_alloc_new w _);have x1:w1.cell? ⟨w.heap.size,1,none⟩=some (.slice A2 L2 c2):=zc hbx rfl;have hx:=HX.out;clear aa rZ
 cases hd:p.vs.all zmb
 ·rw[hd] at hx;have HF:=zh (show zlc p=false by rw[hx];rfl);clear hx;go_wp2_with fail;go_ret;exact⟨by rw[HF.out];rfl,q1⟩
 rw[hd,Bool.true_and] at hx;have dK:=zh hx;have aM:=zh hbx;clear hx HX hd hbx;go_wp2_with fail
 go_loopw [24] (fun i wr=>∃ j:Nat,j<=L2/\i=.int .i64 j/\Below w1.heap.size w1 wr/\Hid ((p.prs.take j).all zn4=true)) (fun i _=>L2-(intOf i).toNat)
 case atStart=>exact⟨0,Nat.zero_le _,rfl,Below.refl _ _,zh (by simp)⟩
 case round =>
  obtain⟨j,hj,rfl,hb,HA⟩:=hrel;have hq:Below w.heap.size w wr:=q1.trans (hb.mono q1.size);by_cases hlt:j<L2
  ·have hlt':j<p.prs.length:=by rw[HL2.out];exact hlt
   obtain⟨a,r,B1,d1,B2,d2,rfl,_,Hr,⟨z0,z1,z2,z3,z4,z5⟩,hrr⟩:=(HR.out.procs.later hq).nd hlt';have HRR:=zh hrr;have HT:=zh (show(p.prs.take (j+1)).all zn4=zn4 r by rw[zrV hlt' HA.out,Hr.out]);have HN:=zh (show zn4 r=false->zlc p=false from fun h=>by rw[dK.out,zrW hlt' (by rw[Hr.out];exact h)];rfl);have uX:=zh (show zn4 r=(zl9 r.s&&decide (r.ps.length<=8)&&r.ps.all zmb&&zlx r.b) from rfl);have hd1:=zlv hrr.lp;clear hrr;have rZ:=zh (show ∀ w',Below wr.heap.size wr w'->Calls Tryz.prog 103 #[.slice B1 r.ps.length d1] w' fun e w''=>e=.returned (.bool (r.ps.all zmb))/\Below w'.heap.size w' w'' from fun w' h=>znh r.ps B1 d1 S w' (HRR.out.row.later h) HRR.out.lp HRR.out.lc);have iD:=zh (show ∀ w',Below wr.heap.size wr w'->NV w' Any r.b (nv r.b.k r.b.n r.b.s B2 r.b.ks.length d2) from fun w' h=>(HRR.out.body.later h).any)
   obtain⟨rs,hrs⟩:∃ s,r.s=s:=⟨_,rfl⟩
   obtain⟨rl,hrl⟩:∃ l,r.ps.length=l:=⟨_,rfl⟩
   obtain⟨bk,hbk⟩:∃ k,r.b.k=k:=⟨_,rfl⟩
   obtain⟨bn,hbn⟩:∃ k,r.b.n=k:=⟨_,rfl⟩
   obtain⟨bs,hbs⟩:∃ k,r.b.s=k:=⟨_,rfl⟩
   obtain⟨bl,hbl⟩:∃ k,r.b.ks.length=k:=⟨_,rfl⟩
   have hpb:=uX.out;have xx:=rZ.out;have hbd:=iD.out;rw[hrs] at z0 hpb;rw[hrl] at z1 hpb xx hd1;rw[hbk] at z2 hbd;rw[hbn] at z3 hbd;rw[hbs] at z4 hbd;rw[hbl] at z5 hbd;clear uX rZ iD HRR hrs hrl hbk hbn hbs hbl;have uX:=zh hpb;have rZ:=zh xx;have iD:=zh hbd;clear hpb xx hbd;go_wp2_with fail;refine(zo5 rs _).mono ?_;rintro e w2 ⟨rfl,aj⟩;have b2:Below wr.heap.size wr w2:=((Below.refl _ _).alloc (Nat.le_refl _) _).trans (aj.mono (by simp));have hbx:w2.heap[wr.heap.size]?=some (.cells #[.string rs,.slice B1 rl d1,.int .u8 bk,.int .i64 bn,.string bs,.slice B2 bl d2] 166 (0,0)):=(aj.block _ (by simp)).trans (heap_alloc_new wr _);have u1:w2.cell? ⟨wr.heap.size,1,none⟩=some (.slice B1 rl d1):=zc hbx rfl;have hpb:=uX.out;clear aj
   cases hnm:zl9 rs
   ·rw[hnm] at hpb;have HF:=zh (HN.out (by rw[hpb];rfl));clear hpb;go_wp2_with fail;go_ret;exact⟨by rw[HF.out];rfl,hq.trans (b2.mono hq.size)⟩
   rw[hnm,Bool.true_and] at hpb;by_cases h8:8<rl
   ·have HF:=zh (HN.out (by rw[hpb];simp;intro h;omega));have h8':(8:Int)<(rl:Int):=by omega
    clear hpb;go_wp2_with fail;go_ret;exact⟨by rw[HF.out];rfl,hq.trans (b2.mono hq.size)⟩
   rw[decide_eq_true (show rl<=8 by omega),Bool.true_and] at hpb;have h8':(rl:Int)<=8:=by omega
   have mY:=zh hpb;have HBX2:=zh hbx;clear hpb uX h8 hbx;go_wp2_with fail;refine(rZ.out _ b2).mono ?_;rintro e w3 ⟨rfl,bP⟩;have b3:=b2.trans (bP.mono b2.size);have hbx:w3.heap[wr.heap.size]?=some (.cells #[.string rs,.slice B1 rl d1,.int .u8 bk,.int .i64 bn,.string bs,.slice B2 bl d2] 166 (0,0)):=(bP.block _ (zkj HBX2.out)).trans HBX2.out;have u2:w3.cell? ⟨wr.heap.size,2,none⟩=some (.int .u8 bk):=zc hbx rfl;have u3:w3.cell? ⟨wr.heap.size,3,none⟩=some (.int .i64 bn):=zc hbx rfl;have u4:w3.cell? ⟨wr.heap.size,4,none⟩=some (.string bs):=zc hbx rfl;have u5:w3.cell? ⟨wr.heap.size,5,none⟩=some (.slice B2 bl d2):=zc hbx rfl;have hpb:=mY.out;clear bP u1 hbx
   cases hdd:r.ps.all zmb
   ·rw[hdd] at hpb;have HF:=zh (HN.out (by rw[hpb];rfl));clear hpb;go_wp2_with fail;go_ret;exact⟨by rw[HF.out];rfl,hq.trans (b3.mono hq.size)⟩
   rw[hdd,Bool.true_and] at hpb;have HPD:=zh hpb;clear hpb mY hdd;go_wp2_with fail;refine(zop r.b _ _ (iD.out _ b3)).mono ?_;rintro e w4 ⟨rfl,uL⟩;have b4:=b3.trans (uL.mono b3.size);have hpb:=HPD.out;clear uL u2 u3 u4 u5
   cases hbb:zlx r.b
   ·rw[hbb] at hpb;have HF:=zh (HN.out hpb);clear hpb;go_wp2_with fail;go_ret;exact⟨by rw[HF.out];rfl,hq.trans (b4.mono hq.size)⟩
   ·rw[hbb] at hpb;have HG:=zh (show(p.prs.take (j+1)).all zn4=true by rw[HT.out];exact hpb);have wK:=zh (hb.trans (b4.mono hb.size));clear hpb;go_wp2_with fail
    go_roundw
    case rel=>exact⟨j+1,by omega,by go_num,wK.out,HG⟩
    case measure=>simp[intOf];omega
  ·obtain rfl:j=L2:=by omega
   have HF:=zh (show zlc p=zlx p.m by rw[dK.out];have:=HA.out;rw[List.take_of_length_le (by rw[HL2.out];omega)] at this;rw[this];rfl);have hbx:wr.heap[w.heap.size]?=some (.cells #[.slice A1 L1 c1,.slice A2 j c2,.int .u8 k,.int .i64 n,.string s,.slice A3 l3 c3] 55 (0,0)):=(hb.block _ (zkj aM.out)).trans aM.out;have y2:wr.cell? ⟨w.heap.size,2,none⟩=some (.int .u8 k):=zc hbx rfl;have y3:wr.cell? ⟨w.heap.size,3,none⟩=some (.int .i64 n):=zc hbx rfl;have y4:wr.cell? ⟨w.heap.size,4,none⟩=some (.string s):=zc hbx rfl;have y5:wr.cell? ⟨w.heap.size,5,none⟩=some (.slice A3 l3 c3):=zc hbx rfl;go_wp2_with fail;refine(zop p.m _ _ (HM.out.later hq).any).mono ?_;rintro e w2 ⟨rfl,aj⟩;go_wp2_with fail;go_ret;exact⟨by rw[HF.out];rfl,hq.trans (aj.mono hq.size)⟩
def zmi (vs:List VD) (s:ByteArray):Int:=if (zlm vs s).isSome then 22 else 0
def useE (vs:List VD) (s:ByteArray) (k:Int):Int:=match zlm vs s with
 | none=>6
 | some v=>if v.k=k then 0 else 7
theorem znP (vs:List VD) (A:Option Addr) (c:Nat) (s:ByteArray) (S:Nat->Prop) (w:World) (hrow:RowV w S A vs) (hl:vs.length<=LV) :
  Calls Tryz.prog 106 #[.slice A vs.length c,.string s] w fun e w'=>e=.returned (.int .i64 (zmi vs s))/\Below w.heap.size w w':=by
 have ae:=zh hrow;have HL:=zh hl;obtain⟨E,hE⟩:∃ E,zmi vs s=E:=⟨_,rfl⟩
 rw[hE];have HE:=zh hE;clear hrow hl hE;go_enter Tryz.func106,Tryz.ntmps106;go_wp2_with fail;refine(znw vs A c s S _ ae.out HL.out).mono ?_;rintro e w1 ⟨rfl,aa⟩
 cases hf:zlm vs s with
 | none =>
  have HN:=zh (show E=0 by rw[<-HE.out];simp[zmi,hf]);have HB:=zh (show Below w.heap.size w (w1.alloc (.cells #[.string ⟨#[]⟩,.int .u8 0,.int .i64 0] 76)) from aa.alloc aa.size _);clear hf aa;go_wp2_with fail;go_ret;exact⟨by rw[HN.out];rfl,HB.out⟩
 | some v =>
  have HN:=zh (show E=22 by rw[<-HE.out];simp[zmi,hf]);have HB:=zh (show Below w.heap.size w (w1.alloc (.cells #[.string v.s,.int .u8 v.k,.int .i64 v.n] 76)) from aa.alloc aa.size _);clear hf aa;go_wp2_with fail;go_ret;exact⟨by rw[HN.out];rfl,HB.out⟩
theorem zm2 (vs:List VD) (A:Option Addr) (c:Nat) (s:ByteArray) (k:Int) (S:Nat->Prop) (w:World) (hrow:RowV w S A vs) (hl:vs.length<=LV) :
  Calls Tryz.prog 149 #[.slice A vs.length c,.string s,.int .u8 k] w fun e w'=>e=.returned (.int .i64 (useE vs s k))/\Below w.heap.size w w':=by
 have ae:=zh hrow;have HL:=zh hl;obtain⟨E,hE⟩:∃ E,useE vs s k=E:=⟨_,rfl⟩
 rw[hE];have HE:=zh hE;clear hrow hl hE;go_enter Tryz.func149,Tryz.ntmps149;go_wp2_with fail;refine(znw vs A c s S _ ae.out HL.out).mono ?_;rintro e w1 ⟨rfl,aa⟩
 cases hf:zlm vs s with
 | none =>
  have HN:=zh (show E=6 by rw[<-HE.out];simp[useE,hf]);have HB:=zh (show Below w.heap.size w (w1.alloc (.cells #[.string ⟨#[]⟩,.int .u8 0,.int .i64 0] 76)) from aa.alloc aa.size _);clear hf aa;go_wp2_with fail;go_ret;exact⟨by rw[HN.out];rfl,HB.out⟩
 | some v =>
  obtain⟨vm,vk,vl⟩:=v;have HB2:=zh (show Below w.heap.size w (w1.alloc (.cells #[.string vm,.int .u8 vk,.int .i64 vl] 76)) from aa.alloc aa.size _);have HN:=zh (show E=if vk=k then 0 else 7 by rw[<-HE.out];simp[useE,hf]);clear hf aa;by_cases hk:vk=k
  ·have e1:(vk==k)=true:=by simpa using hk
   have e2:(vk != k)=false:=by simpa using hk
   have aI:=zh (show E=0 by rw[HN.out,if_pos hk]);clear hk;go_wp2_with fail;go_ret;exact⟨by rw[aI.out];rfl,HB2.out⟩
  ·have e1:(vk==k)=false:=by simpa using hk
   have e2:(vk != k)=true:=by simpa using hk
   have aI:=zh (show E=7 by rw[HN.out,if_neg hk]);clear hk;go_wp2_with fail;go_ret;exact⟨by rw[aI.out];rfl,HB2.out⟩
def idxP (ps:List PR) (s:ByteArray):Option Nat:=ps.findIdx? fun r=>r.s.toList==s.toList
def zlw (ps:List PR) (s:ByteArray):Int:=match idxP ps s with
 | some i=>i
 | none => -1
theorem zs2 (rs:ByteArray) (u1 u2 u3 u4 u5:Value) (s:ByteArray) (nb:Nat) (w:World) (hc:w.cell? ⟨nb,0,none⟩=some (.string s)) :
  Calls Tryz.prog 129 #[.agg #[.string rs,u1,u2,u3,u4,u5],.pointer (some ⟨nb,0,none⟩)] w fun e w'=>e=.returned (.bool (rs.toList==s.toList))/\Below w.heap.size w w':=by
 have hc':=zkq hc;go_enter Tryz.func129,Tryz.ntmps129;go_wp2_with fail;go_ret;exact⟨rfl,(Below.refl _ _).alloc (Nat.le_refl _) _⟩
theorem zn8 (ps:List PR) (A:Option Addr) (c:Nat) (s:ByteArray) (nb:Nat) (S:Nat->Prop) (w:World) (hrow:RowP w S A ps) (hl:ps.length<=LV) (hc:w.cell? ⟨nb,0,none⟩=some (.string s)) :
  Calls Tryz.prog 128 #[.slice A ps.length c,.func (.func 129) #[] #[.pointer (some ⟨nb,0,none⟩)]] w fun e w'=>e=.returned (.int .i64 (zlw ps s))/\Below w.heap.size w w':=by
 have hl':=zlv hl;have ae:=zh hrow;have HC:=zh hc;obtain⟨R,hR⟩:∃ R,zlw ps s=R:=⟨_,rfl⟩
 rw[hR];have HR:=zh hR;clear hrow hl hc hR;go_enter Tryz.func128,Tryz.ntmps128;go_wp2_with fail
 go_loopw [8] (fun i wr=>∃ j:Nat,j<=ps.length/\i=.int .i64 j/\Below w.heap.size w wr/\Hid (∀ q (h:q<ps.length),q<j->(ps[q].s.toList==s.toList)=false)) (fun i _=>ps.length-(intOf i).toNat)
 case atStart=>exact⟨0,Nat.zero_le _,rfl,Below.refl _ _,zh fun q _ h=>by omega⟩
 case round =>
  obtain⟨j,hj,rfl,hbl,HJ⟩:=hrel;by_cases hlt:j<ps.length
  ·obtain⟨a,r,B1,f1,B2,f2,rfl,_,Hr,⟨q0,q1,q2,q3,q4,q5⟩,-⟩:=(ae.out.later hbl).nd hlt;obtain⟨b,hb⟩:∃ b,(r.s.toList==s.toList)=b:=⟨_,rfl⟩
   have HB:=zh hb;clear hb;go_wp2_with fail;refine(zs2 r.s _ _ _ _ _ s nb _ (zb hbl HC.out)).mono ?_;rintro e w1 ⟨rfl,aa⟩;rw[HB.out];have af:=zh (zka hbl aa);clear aa q0 q1 q2 q3 q4 q5
   cases b
   ·have HJ2:=zh (show ∀ q (h:q<ps.length),q<j+1->(ps[q].s.toList==s.toList)=false from fun q h hq=>by
     by_cases e:q<j
     ·exact HJ.out q h e
     ·obtain rfl:q=j:=by omega
      rw[Hr.out];exact HB.out)
    go_wp2_with fail
    go_roundw
    case rel=>exact⟨j+1,by omega,by go_num,af.out,HJ2⟩
    case measure=>simp[intOf];omega
   ·have HN:=zh (show R=j by
     rw[<-HR.out];have:idxP ps s=some j:=List.findIdx?_eq_some_iff_getElem.2 ⟨hlt,by rw[Hr.out];exact HB.out,fun q hq=>by rw[HJ.out q (by omega) hq];simp⟩;simp[zlw,this])
    go_wp2_with fail;go_ret;exact⟨by rw[HN.out];rfl,af.out⟩
  ·have HN:=zh (show R = -1 by
    rw[<-HR.out];have:idxP ps s=none:=List.findIdx?_eq_none_iff.2 fun r hr=>by
     obtain⟨q,hq,rfl⟩:=List.getElem_of_mem hr;exact HJ.out q hq (by omega)
    simp[zlw,this])
   have af:=zh hbl;clear hbl;go_wp2_with fail;go_ret;exact⟨by rw[HN.out];rfl,af.out⟩
theorem zmY (p:PG) (S:Nat->Prop) (v:Value) (s:ByteArray) (w:World) (hv:PV w S p v):Calls Tryz.prog 107 #[v,.string s] w fun e w'=>e=.returned (.int .i64 (zlw p.prs s))/\Below w.heap.size w w':=by
 obtain⟨A1,c1,A2,c2,A3,c3,rfl,hr⟩:=hv;have HR:=zh hr;obtain⟨L1,hL1⟩:∃ L,p.vs.length=L:=⟨_,rfl⟩
 rw[hL1];clear hr hL1;go_enter Tryz.func107,Tryz.ntmps107;go_wp2_with fail;refine(zn8 p.prs A2 c2 s (w.heap.size+1) S _ (HR.out.procs.later (zkc (zkc (Below.refl _ _) _) _)) HR.out.lp (by simp)).mono ?_;rintro e w1 ⟨rfl,aa⟩;have HB:=zh (zka (zkc (zkc (Below.refl w.heap.size w) _) _) aa);clear aa;go_wp2_with fail;go_ret;exact⟨rfl,HB.out⟩
end Go.Proofs.YtghbhbdnkjjnnaaGreat
namespace Go.Proofs.YtghbhbdnkjjnnaaGreat
open Go Go.RowKit
theorem zoL:∀ (prs:List PR) (s:ByteArray) (i:Nat),prcI prs s=some i->zlw prs s=(i:Int)/\i<prs.length
 | [],_,_,h=>by simp[prcI] at h
 | q::qs,s,i,h=>by
  unfold prcI at h;unfold zlw idxP;rw[List.findIdx?_cons]
  split at h
  ·rename_i h0;injection h with h;subst h;rw[if_pos h0];exact⟨rfl,by simp⟩
  ·rename_i h0;rw[if_neg h0];obtain⟨j,hj,rfl⟩:=Option.map_eq_some_iff.1 h;have h5:=zoL qs s j hj;unfold zlw idxP at h5
   cases hf:List.findIdx? (fun r=>r.s.toList==s.toList) qs with
   | none =>
    rw[hf] at h5;have h6:(-1:Int)=(j:Int):=h5.1;omega
   | some m =>
    rw[hf] at h5;have h6:(m:Int)=(j:Int):=h5.1;exact⟨by show((m+1:Nat):Int)=((j+1:Nat):Int);omega,by have:=h5.2;simp;omega⟩
def strA (l:List ByteArray):Array Value:=(l.map Value.string).toArray
theorem zwx:(Tryz.prog.info? 9).map (fun i=>(i.zero,i.size,i.bytes))=some (some (.string ⟨#[]⟩),1,16):=by kernel_rfl
theorem ztY (n:Nat):madeCells (Value.string ⟨#[]⟩).cells (n*1)=strA (List.replicate n ⟨#[]⟩):=by
 unfold strA;apply Array.ext';apply List.ext_getElem
 ·rw[Array.length_toList,size_madeCells];simp
 ·intro i h1 h2;have e:i % 1=0:=by omega
  simp[madeCells,Value.cells,e]
theorem zw2 (n:Nat) (hn:n<=17592186044416) (w:World):(Instr.makeSlice 228 (.int .i64 (n:Int)) (.int .i64 (n:Int))).run Tryz.prog w=.ok (.slice (some ⟨w.heap.size,0,none⟩) n n) (w.alloc (.cells (strA (List.replicate n ⟨#[]⟩)) 9)):=by
 have h:=zwx;obtain⟨i,hi,hz⟩:=Option.map_eq_some_iff.1 h;injection hz with h1 h2;injection h2 with h2 h3;have:=zld (P:=Tryz.prog) 228 9 i (.string ⟨#[]⟩) Tryz.underlying228 hi h1 .i64 .i64 n n (Nat.le_refl _) (by rw[h3];omega) (by omega) w;rw[h2,ztY] at this;exact this
def argL (ks:List T) (j:Nat):List ByteArray:=(ks.take j).map (·.s)++List.replicate (ks.length-j) ⟨#[]⟩
theorem zvs (ks:List T):argL ks 0=List.replicate ks.length ⟨#[]⟩:=by simp[argL]
theorem zuM (ks:List T):argL ks ks.length=ks.map (·.s):=by simp[argL]
theorem zuL (ks:List T) {j:Nat} (hj:j<=ks.length):(argL ks j).length=ks.length:=by simp[argL];omega
theorem zuK (ks:List T) {j:Nat} (hj:j<ks.length):(strA (argL ks j)).setIfInBounds j (.string ks[j].s)=strA (argL ks (j+1)):=by
 unfold strA;rw[List.setIfInBounds_toArray,<-List.map_set];congr 2;unfold argL;refine List.ext_getElem (by simp;omega) fun i h1 h2=>?_;rw[List.getElem_set];simp only[List.length_append,List.length_map,List.length_take,List.length_replicate,List.length_set] at h1 h2;by_cases e:j=i
 ·subst e;rw[if_pos rfl,List.getElem_append_left (by simp;omega)];simp
 ·rw[if_neg e];by_cases hi:i<j
  ·rw[List.getElem_append_left (by simp;omega),List.getElem_append_left (by simp;omega)];simp
  ·rw[List.getElem_append_right (by simp;omega),List.getElem_append_right (by simp;omega)];simp
theorem ztC {W:World} {b:Nat} {E:TypeId} {l:List ByteArray} (h:W.heap[b]?=some (.cells (strA l) E (0,0))):RowS W (some ⟨b,0,none⟩) l:=fun i hi=>by
 have ha:(⟨b,0,none⟩:Addr).add i=⟨b,i,none⟩:=by rw[Addr.add_lit,Nat.zero_add]
 refine⟨⟨b,0,none⟩,rfl,?_⟩;rw[ha];simp only[World.cell?,h];simp[strA,hi]
theorem RI.count {C:RC} (hC:C.Ok) {W:World} {r:RS} (h:RI C W r) {i:Nat} (hi:i<r.ent.length) (hn:r.ent.getD i 0+1<=r.n) :
  ∃ g c,C.ev=.slice (some ⟨g,0,none⟩) r.ent.length c/\W.cell? ⟨g,i,none⟩=some (.int .i64 (r.ent.getD i 0:Nat))/\W.frozen? ⟨g,i,none⟩=false /\
   RI C (W.setCell ⟨g,i,none⟩ (.int .i64 ((r.ent.getD i 0+1:Nat):Int))) { r with ent:=r.ent.set i (r.ent.getD i 0+1) }/\Kpt C.n0 C.kb W (W.setCell ⟨g,i,none⟩ (.int .i64 ((r.ent.getD i 0+1:Nat):Int))):=by
 obtain⟨e1,h2⟩:=h.ent;rcases h2 with h2|⟨g,cap,cur,hev,hb,hg,hcap,hlen,hsz,jS⟩
 ·have hn0:r.ent.length=0:=h2.2;omega
 ·have hcz:cur[i]?=some (.int .i64 (r.ent.getD i 0:Nat)):=by
   have h3:(zki (r.ent.map Int.ofNat))[i]?=some (.int .i64 (r.ent.getD i 0:Nat)):=by simp[zki,hi]
   rw[<-jS,List.getElem?_take] at h3
   split at h3
   ·simpa using h3
   ·cases h3
  have hci:i<cur.size:=by
   rcases Nat.lt_or_ge i cur.size with h|h
   ·exact h
   ·rw[Array.getElem?_eq_none h] at hcz;cases hcz
  have hrb:g≠C.rb:=fun e=>hC.ev.1 (by rw[hev,<-e];rfl);have hkb:¬ C.kb g:=hC.ev.2 g (by rw[hev];rfl);have hch:Chg (fun b=>b=g) W (W.setCell ⟨g,i,none⟩ (.int .i64 ((r.ent.getD i 0+1:Nat):Int))):=(Chg.refl (fun b=>b=g) W).setCell (p:=⟨g,i,none⟩) (.inl rfl) _;have hnn:=h.ks.hn;refine⟨g,cap,hev,zc hg hcz,zf hg,⟨h.ks.chg hch fun b _ e=>⟨by omega,.inr (.inr (.inr (by rw[hev,e];rfl)))⟩,?_,?_,by simp[h.el],?_,h.n,h.fb⟩,Kpt.chg hch fun b e=>⟨by omega,by rw[e];exact hkb⟩⟩
  ·rw[Below.heap_setCell _ _ _ _ (fun e=>hrb (by simpa using e.symm))];exact h.box
  ·have hs:=heap_setCell_same W g i _ _ (.int .i64 ((r.ent.getD i 0+1:Nat):Int)) hg;refine⟨by simp[zki],.inr ⟨g,cap,_,by rw[hev];simp,hb,hs,by simpa using hcap,by simpa using hlen,by simpa using hsz,?_⟩⟩;have e2:((cur.setIfInBounds i (.int .i64 ((r.ent.getD i 0+1:Nat):Int))).toList.take ((r.ent.set i (r.ent.getD i 0+1)).length*1))=(cur.toList.take (r.ent.length*1)).set i (.int .i64 ((r.ent.getD i 0+1:Nat):Int)):=by
    rw[Array.toList_setIfInBounds,List.length_set,List.take_set]
   rw[e2,jS];simp[zki,List.map_set]
  ·intro c hc;rcases List.mem_or_eq_of_mem_set hc with hc|rfl
   ·exact h.en c hc
   ·exact hn
theorem zul:IsFn Tryz.prog 184 Tryz.f184:=⟨Tryz.func184,by kernel_rfl,by kernel_rfl⟩
def caR (prs:List PR) (F:Int) (g:Nat) (back:Bool) (i:Nat) (b:T) (r:RS):Out :=
 (zlb (zkA prs F g back) (blkL back b) { r with ent:=r.ent.set i (r.ent.getD i 0+1) }).bind fun r=>(zkD F r).bind fun r=>zkl r (zl8 r.S)
def caO (prs:List PR) (F:Int) (g:Nat) (back:Bool) (i:Nat) (q:PR) (ss:List ByteArray) (r:RS):Out :=
 (zkD F r).bind fun r=>(zkl r (zl0 r.S q.ps ss)).bind (caR prs F g back i q.b)
theorem znu {G:List PR->T->Prop} {g:Nat} (hS:IStC G g) {C:RC} (hC:C.Ok) {W:World} {r:RS} (h:RI C W r) (t:T) (v:Value) (back:Bool) (hv:NV C.w Any t v) (i:Nat) (hi:prcI C.p.prs t.s=some i) (q:PR) (hq:C.p.prs[i]?=some q) (hG1:∀ u∈q.b.ks,G C.p.prs u)
  (aD:caO C.p.prs C.F g back i q (t.ks.map (·.s)) r ≠ .gas) :
  Calls Tryz.prog 171 #[.pointer (some ⟨C.rb,0,none⟩),v,.bool back] W (RunP C W (caO C.p.prs C.F g back i q (t.ks.map (·.s)) r)):=by
 have HV:=zh hv;have H:=zh h;have HS:=zh hS;have HC:=zh hC;obtain⟨hpi,hil⟩:=zoL _ _ _ hi;obtain⟨A,c,rfl,-,hlk,hlc,hrow⟩:=hv.open_;have ae:=zh hrow;have hb0:=zkc (Below.refl W.heap.size W) (.cells #[.int .u8 t.k,.int .i64 t.n,.string t.s,.slice A t.ks.length c] 24);have k0:=heap_alloc_new W (.cells #[.int .u8 t.k,.int .i64 t.n,.string t.s,.slice A t.ks.length c] 24);obtain⟨x0,x1,x2,x3⟩:=box4 k0;have gK:=zh h.below;obtain⟨w1,hw1⟩:∃ x,W.alloc (.cells #[.int .u8 t.k,.int .i64 t.n,.string t.s,.slice A t.ks.length c] 24)=x:=⟨_,rfl⟩
 have hz1:w1.heap.size=W.heap.size+1:=by rw[<-hw1];simp
 rw[hw1] at hb0 k0 x0 x1 x2 x3;have hmk:=zw2 t.ks.length (by unfold LK at hlk;omega);have hb1:=zkc hb0 (.cells (strA (List.replicate t.ks.length ⟨#[]⟩)) 9);have k1:=heap_alloc_new w1 (.cells (strA (List.replicate t.ks.length ⟨#[]⟩)) 9);have j0:=zkf k0 (.cells (strA (List.replicate t.ks.length ⟨#[]⟩)) 9);rw[hz1] at k1;rw[<-zvs] at hmk;have hz2:(w1.alloc (.cells (strA (argL t.ks 0)) 9)).heap.size=W.heap.size+2:=by simp[hz1]
 rw[<-zvs] at hb1 k1 j0;have HB1:=zh hb1;have K1:=zh k1;have J0:=zh j0;obtain⟨o,ho⟩:∃ o,caO C.p.prs C.F g back i q (t.ks.map (·.s)) r=o:=⟨_,rfl⟩
 have bH:=zh ho;have HO:=zh (show(zkD C.F r).bind (fun r=>(zkl r (zl0 r.S q.ps (t.ks.map (·.s)))).bind (caR C.p.prs C.F g back i q.b))=o from ho);rw[ho] at aD ⊢;have cz:=zh aD;have HPI:=zh hpi;have tL:=zh hil;have HQ:=zh hq;have hlk2:t.ks.length<=17592186044416:=by unfold LK at hlk;omega
 have HZ2:=zh hz2;clear hv hb0 k0 h ho aD hrow hS hC hlk hpi hil hq hi hb1 k1 j0 hz2;go_enter Tryz.func171,Tryz.ntmps171;go_wp2_with fail;clear x0 x1 x2 x3 hw1 hmk;have jM:=zh (fun j (hj:j<t.ks.length)=>zuK t.ks hj);have HAN:=zh (fun j (hj:j<=t.ks.length)=>zuL t.ks hj)
 go_loopw [18] (fun x wr=>∃ j:Nat,j<=t.ks.length/\x=.int .i64 j/\Hid (Below W.heap.size W wr)/\Hid (wr.heap[W.heap.size]?=some (.cells #[.int .u8 t.k,.int .i64 t.n,.string t.s,.slice A t.ks.length c] 24 (0,0)))/\Hid (wr.heap[W.heap.size+1]?=some (.cells (strA (argL t.ks j)) 9 (0,0)))) (fun x _=>t.ks.length-(intOf x).toNat)
 case atStart=>exact⟨0,Nat.zero_le _,rfl,HB1,J0,K1⟩
 case round =>
  obtain⟨j,hj,rfl,af,HJ,HK⟩:=hrel;clear HB1 J0 K1;by_cases hlt:j<t.ks.length
  ·obtain⟨a,u,Au,cu,rfl,-,Hu,⟨p0,p1,p2,p3⟩,-⟩:=ae.out.nd hlt;have hbb:=zka gK.out af.out;have q0:=zb hbb p0;have q1:=zb hbb p1;have q2:=zb hbb p2;have q3:=zb hbb p3;have hj1:(j:Int)<(t.ks.length:Int):=by omega
   have hj0:(0:Int)<=(j:Int):=by omega
   have kz:=zkf HK.out (.cells #[.int .u8 u.k,.int .i64 u.n,.string u.s,.slice Au u.ks.length cu] 24);have jz:=zkf HJ.out (.cells #[.int .u8 u.k,.int .i64 u.n,.string u.s,.slice Au u.ks.length cu] 24);have hbz:=zkc af.out (.cells #[.int .u8 u.k,.int .i64 u.n,.string u.s,.slice Au u.ks.length cu] 24);have zc:∃ y,(strA (argL t.ks j))[j]?=some y:=⟨_,Array.getElem?_eq_getElem (by simp[strA,HAN.out j hj];exact hlt)⟩
   obtain⟨y,hy⟩:=zc;have zy:=zc kz hy;have zf:(wr.alloc (.cells #[.int .u8 u.k,.int .i64 u.n,.string u.s,.slice Au u.ks.length cu] 24)).frozen? ⟨W.heap.size+1,j,none⟩=false:=zf kz;have tV:=zh hbz;have HKZ:=zh kz;have HJZ:=zh jz;have hwlt:W.heap.size+1<wr.heap.size:=zkj HK.out;clear hbb p0 p1 p2 p3 kz jz hbz hy;go_wp2_with fail
   go_roundw
   case rel =>
    have hch:=(Chg.refl (fun b=>b=W.heap.size+1) wr).setCell (p:=⟨W.heap.size+1,j,none⟩) (.inl rfl) (.string u.s);refine⟨j+1,by omega,by go_num,zh (zkc (af.out.trans (hch.below af.out.size fun b e=>by omega)) _),zh (zkf (hch.keep HJ.out (by omega)) _),zh ?_⟩;have:=heap_setCell_same _ (W.heap.size+1) j _ _ (.string u.s) HK.out;refine zkf ?_ _;rw[this,<-jM.out j hlt,Hu.out]
   case measure=>simp[intOf];omega
  ·obtain rfl:j=t.ks.length:=by omega
   rw[zuM] at HK;have hj1:¬ (t.ks.length:Int)<(t.ks.length:Int):=by omega
   have hrn:=H.out.n;have hel:=H.out.el;obtain⟨pa,q1,B1,d1,B2,d2,hA2,-,Hq1,⟨p0,p1,p2,p3,p4,p5⟩,hpr⟩:=HC.out.pg.procs.nd tL.out;obtain rfl:q=q1:=by
    have e:=HQ.out;rw[List.getElem?_eq_getElem tL.out,Hq1.out] at e;injection e with e;exact e.symm
   have HPRR:=zh hpr;have hbb:=zka gK.out af.out;have dH:=zh hbb;have dS:=zh (fun w' (hb:Below wr.heap.size wr w')=>zmY C.p Any (pv C.A1 C.p.vs.length C.c1 C.A2 C.p.prs.length C.c2 C.p.m.k C.p.m.n C.p.m.s C.A3 C.p.m.ks.length C.c3) t.s w' ⟨_,_,_,_,_,_,rfl,HC.out.pg.later (zka dH.out hb)⟩);rw[HPI.out] at dS;have HXB:=zh (zkb H.out.box af.out);rw[hA2] at dS;have ik:Hid (wr.cell? ⟨C.rb,0,none⟩=some (.slice C.A1 C.p.vs.length C.c1)/\wr.cell? ⟨C.rb,1,none⟩=some (.slice (some pa) C.p.prs.length C.c2)/\wr.cell? ⟨C.rb,2,none⟩=some (.int .u8 C.p.m.k)/\wr.cell? ⟨C.rb,3,none⟩=some (.int .i64 C.p.m.n)/\wr.cell? ⟨C.rb,4,none⟩=some (.string C.p.m.s)/\wr.cell? ⟨C.rb,5,none⟩=some (.slice C.A3 C.p.m.ks.length C.c3)) :=
    zh ⟨zc HXB.out rfl,by rw[<-hA2];exact zc HXB.out rfl,zc HXB.out rfl,zc HXB.out rfl,zc HXB.out rfl,zc HXB.out rfl⟩
   have rR:=zh (show(i:Int)<(C.p.prs.length:Int) by have:=tL.out;omega);obtain⟨rb,hrb⟩:∃ b,C.rb=b:=⟨_,rfl⟩
   obtain⟨z1,hz1⟩:∃ b,C.A1=b:=⟨_,rfl⟩
   obtain⟨z2,hz2⟩:∃ b,C.p.vs.length=b:=⟨_,rfl⟩
   obtain⟨z3,hz3⟩:∃ b,C.c1=b:=⟨_,rfl⟩
   obtain⟨z5,mI⟩:∃ b,C.p.prs.length=b:=⟨_,rfl⟩
   obtain⟨z6,eu⟩:∃ b,C.c2=b:=⟨_,rfl⟩
   obtain⟨z7,kK⟩:∃ b,C.p.m.k=b:=⟨_,rfl⟩
   obtain⟨z8,pY⟩:∃ b,C.p.m.n=b:=⟨_,rfl⟩
   obtain⟨z9,kJ⟩:∃ b,C.p.m.s=b:=⟨_,rfl⟩
   obtain⟨z10,iU⟩:∃ b,C.A3=b:=⟨_,rfl⟩
   obtain⟨z11,p9⟩:∃ b,C.p.m.ks.length=b:=⟨_,rfl⟩
   obtain⟨z12,p8⟩:∃ b,C.c3=b:=⟨_,rfl⟩
   rw[hz1,hz2,hz3,mI,eu,kK,pY,kJ,iU,p9,p8] at dS;rw[hrb,hz1,hz2,hz3,mI,eu,kK,pY,kJ,iU,p9,p8] at ik;have ay:=zh (show ∀ w',Below wr.heap.size wr w'->(fun w':World=>w'.cell? ⟨rb,0,none⟩=some (.slice z1 z2 z3)/\w'.cell? ⟨rb,1,none⟩=some (.slice (some pa) z5 z6)/\w'.cell? ⟨rb,2,none⟩=some (.int .u8 z7)/\w'.cell? ⟨rb,3,none⟩=some (.int .i64 z8)/\w'.cell? ⟨rb,4,none⟩=some (.string z9)/\w'.cell? ⟨rb,5,none⟩=some (.slice z10 z11 z12)/\w'.cell? ⟨W.heap.size,2,none⟩=some (.string t.s)) w' from fun w' hb=>by
    obtain⟨y0,y1,y2,y3,y4,y5⟩:=ik.out;exact⟨zb hb y0,zb hb y1,zb hb y2,zb hb y3,zb hb y4,zb hb y5,zb hb (zc HJ.out rfl)⟩)
   have gD:=zh (ay.out _ (Below.refl _ _).drew);have mY:=zh (show C.w.cell? (pa.add (i*6))=_/\_/\_/\_/\_/\_ from ⟨p0,p1,p2,p3,p4,p5⟩);clear p0 p1 p2 p3 p4 p5 hpr hbb hz1 hz2 hz3 eu kK pY kJ iU p9 p8 hel hrn hj1;have iG:=zh mI;rw[mI] at rR;clear mI;have dZ:=zh hrb;clear hrb hA2;rw[dZ.out];have hj1:¬ (t.ks.length:Int)<(t.ks.length:Int):=by omega
   go_upto_region 7 with fail
   go_region_held3 (fun w':World=>w'.cell? ⟨rb,0,none⟩=some (.slice z1 z2 z3)/\w'.cell? ⟨rb,1,none⟩=some (.slice (some pa) z5 z6)/\w'.cell? ⟨rb,2,none⟩=some (.int .u8 z7)/\w'.cell? ⟨rb,3,none⟩=some (.int .i64 z8)/\w'.cell? ⟨rb,4,none⟩=some (.string z9)/\w'.cell? ⟨rb,5,none⟩=some (.slice z10 z11 z12)/\w'.cell? ⟨W.heap.size,2,none⟩=some (.string t.s))
    (first|with_reducible exact dx.out|with_reducible exact gD.out)
    (first
     | (go_at_call 107;refine(dS.out _ (Below.refl _ _).drew).mono ?_;rintro e y1 ⟨rfl,dJ⟩;have b1:=zka (Below.refl wr.heap.size wr).drew dJ;have dx:=zh (ay.out _ b1))
     | fail)
   have hb1:=zka dH.out b1;have p0:=zb hb1 mY.out.1;have p1:=zb hb1 mY.out.2.1;have p2:=zb hb1 mY.out.2.2.1;have p3:=zb hb1 mY.out.2.2.2.1;have p4:=zb hb1 mY.out.2.2.2.2.1;have p5:=zb hb1 mY.out.2.2.2.2.2;obtain⟨-,e1,-⟩:=dx.out;have hi1:=rR.out;have hi0:(0:Int)<=(i:Int):=by omega
   have eZ:=zkc (zka af.out b1) (.cells #[.string q.s,.slice B1 q.ps.length d1,.int .u8 q.b.k,.int .i64 q.b.n,.string q.b.s,.slice B2 q.b.ks.length d2] 166);have k0:=zkf (zkb HJ.out b1) (.cells #[.string q.s,.slice B1 q.ps.length d1,.int .u8 q.b.k,.int .i64 q.b.n,.string q.b.s,.slice B2 q.b.ks.length d2] 166);have k1:=zkf (zkb HK.out b1) (.cells #[.string q.s,.slice B1 q.ps.length d1,.int .u8 q.b.k,.int .i64 q.b.n,.string q.b.s,.slice B2 q.b.ks.length d2] 166);have k2:=heap_alloc_new y1 (.cells #[.string q.s,.slice B1 q.ps.length d1,.int .u8 q.b.k,.int .i64 q.b.n,.string q.b.s,.slice B2 q.b.ks.length d2] 166);obtain⟨pb,hpb⟩:∃ x,y1.heap.size=x:=⟨_,rfl⟩
   have hpl:W.heap.size<=pb:=by rw[<-hpb];exact(zka af.out b1).size
   obtain⟨w5,eX⟩:∃ x,y1.alloc (.cells #[.string q.s,.slice B1 q.ps.length d1,.int .u8 q.b.k,.int .i64 q.b.n,.string q.b.s,.slice B2 q.b.ks.length d2] 166)=x:=⟨_,rfl⟩
   rw[eX] at eZ k0 k1;rw[hpb,eX] at k2;have bO:=zh (Kpt.of_below (n0:=C.n0) (kb:=C.kb) eZ);obtain⟨wo,h5⟩:=H.out.plus HC.out eZ;have l0:=zkj k0;have l1:=zkj k1;have l2:=zkj k2;obtain⟨hi,hhi⟩:∃ x,w5.heap.size=x:=⟨_,rfl⟩
   rw[hhi] at wo h5 l0 l1 l2;have tT:=zh wo;have K0:=zh k0;have K1:=zh k1;have K2:=zh k2;have HST:=zh (zlP wo h5);rw[show(C.plus W.heap.size hi).rb=rb from dZ.out] at HST;have uW:=zh hpl;obtain⟨ss,hss⟩:∃ ss,t.ks.map (·.s)=ss:=⟨_,rfl⟩
   have HSL:=zh (show ss.length=t.ks.length by rw[<-hss];simp);rw[hss] at HO K1;clear hb1 b1 dJ dx ay gD eZ k0 k1 k2 wo h5 mY hpl ik dS jM HAN HK HJ hss;go_upto_region 9 with fail;clear p0 p1 p2 p3 p4 p5 e1 eX hpb;go_wp2_with fail;refine HST.out.mono ?_;rintro e w6 ⟨bY,hb6,gB⟩;have ek:=zh (bO.out.trans (Kpt.less (C:=C) bY));have aO:=zh (show Below C.w.heap.size C.w w6 from hb6);have bS:match zkD C.F r with
    | .gas=>True
    | .err x=>e=zlu x
    | .ok r=>(∃ u,e=.returned u)/\RI (C.plus W.heap.size hi) w6 r:=gB
   have rJ:=zh bY;clear HST bY hb6 gB
   cases hy:zkD C.F r with
   | gas=>exact absurd (by rw[<-HO.out,hy];rfl) cz.out
   | err x =>
    rw[hy] at bS;subst bS;refine⟨rfl,ek.out,aO.out,?_⟩
    try rw[bH.out]
    rw[<-HO.out,hy];rfl
   | ok r1 =>
    rw[hy] at bS;obtain⟨⟨u3,rfl⟩,hr1⟩:=bS;have fP:=zh hr1;have kV:=zh (show(zkl r1 (zl0 r1.S q.ps ss)).bind (caR C.p.prs C.F g back i q.b)=o by rw[<-HO.out,hy];rfl);have dz:=zh (show FB r.n r1.S/\r1.n=r.n+1/\r1.ent=r.ent by obtain⟨rfl,-⟩:=zlp hy;exact⟨H.out.fb,rfl,rfl⟩);have j2:=rJ.out.blk (.inr (.inr ⟨uW.out,l2⟩)) K2.out;have hSS:(fun w':World=>w'.cell? ⟨rb,6,none⟩=some (.pointer (some ⟨C.sb,0,none⟩))/\w'.cell? ⟨pb,1,none⟩=some (.slice B1 q.ps.length d1)) w6.drew/\(fun _:World=>True) w6.drew:=⟨⟨by rw[<-dZ.out];exact hr1.cells.1,zc j2 rfl⟩,trivial⟩
    clear hr1 hy j2;go_upto_region 10 with fail;refine zkd (fun w':World=>w'.cell? ⟨rb,6,none⟩=some (.pointer (some ⟨C.sb,0,none⟩))/\w'.cell? ⟨pb,1,none⟩=some (.slice B1 q.ps.length d1)) (fun _:World=>True) 9 (by kernel_rfl) ?_;refine zT 0 hSS ?_;(try simp only[zQ]);refine zT 1 hSS ?_;(try simp only[zQ]);refine zT 2 hSS ?_;(try simp only[zQ]);refine zT 3 hSS ?_;(try simp only[zQ]);refine zT 4 hSS ?_;(try simp only[zQ]);refine zT 5 hSS ?_;(try simp only[zQ]);refine zT 6 hSS ?_;(try simp only[zQ]);refine zT 7 hSS ?_;(try simp only[zQ]);obtain⟨R,hR⟩:∃ R,zl0 r1.S q.ps ss=R:=⟨_,rfl⟩
    have HRR:=zh hR;have hbd:Below w6.heap.size w6 w6.drew:=(Below.refl _ _).drew;have hpq:q.ps.length<=1000:=HC.out.ps q (List.mem_of_getElem? HQ.out);have hen:=(fP.out.later hbd).ks.enter q.ps ss B1 (some ⟨W.heap.size+1,0,none⟩) d1 t.ks.length (HPRR.out.row.later (zka aO.out hbd)) ((ztC (rJ.out.blk (.inr (.inr ⟨Nat.le_succ _,l1⟩)) K1.out)).later hbd) (by omega) (by rw[HSL.out];exact hlk2);rw[HSL.out] at hen;have had:Calls Tryz.prog 184 [.pointer (some ⟨C.sb,0,none⟩),.slice B1 q.ps.length d1,.slice (some ⟨W.heap.size+1,0,none⟩) t.ks.length t.ks.length].toArray w6.drew fun e w'=>∃ v,e=.returned v/\(v=.int .i64 R.1/\RI (C.plus W.heap.size hi) w' { r1 with S:=R.2 }/\Kpt C.n0 (C.plus W.heap.size hi).kb w6 w') :=
     hen.mono fun e w' ⟨h1,h2,h3⟩=>by
      have hs:=RI.store (C:=C.plus W.heap.size hi) (fP.out.later hbd) (hR▸h2) h3 (by rw[dz.out.2.1,<-hR];exact dz.out.1.enter _ _ hpq);exact⟨_,h1,by rw[hR],hs.1,(Kpt.of_below hbd).trans hs.2⟩
    refine zo 8 fun K hK=>?_;refine zlj (by rfl) (.func 184) [.tmp 50,.tmp 52,.tmp 53] _ (by rfl) 184 _ zul (by rfl) _ (by rfl) _ had ?_;rintro v7 w7 ⟨rfl,qo,jF⟩;have rH:=zh (rJ.out.trans jF);have j2:=rH.out.blk (.inr (.inr ⟨uW.out,l2⟩)) K2.out;have pI:=zh qo;have qM:(fun w':World=>w'.cell? ⟨rb,6,none⟩=some (.pointer (some ⟨C.sb,0,none⟩))/\w'.cell? ⟨pb,1,none⟩=some (.slice B1 q.ps.length d1)) w7:=⟨by rw[<-dZ.out];exact qo.cells.1,zc j2 rfl⟩
    refine hK.out _ _ ⟨qM,trivial⟩ ?_;have wI:=zh qM;have sD:=zh qo.below;clear hK K had qo jF j2 qM hSS hen;(try simp only[zQ]);have rF:=zh (bO.out.trans (Kpt.less (C:=C) rH.out));rw[hR] at kV;have had:=zk4 ⟨rb,0,none⟩ R.1 w7;refine zp 9 fun K hK=>?_;refine zk2 (by rfl) (.func 168) [.tmp 46,.tmp 54] _ (by rfl) 168 _ zl5 (by rfl) _ (by rfl) (fun v w'=>w'=w7/\R.1=0) (had.mono ?_) ?_
    ·rintro e y1 ⟨rfl,hv1⟩;rcases hv1 with⟨h0,u0,rfl⟩|⟨h0,rfl⟩
     ·exact .inl ⟨_,rfl,rfl,h0⟩
     ·refine .inr ⟨_,rfl,?_⟩;refine⟨rfl,rF.out,sD.out,?_⟩
      try rw[bH.out]
      rw[<-kV.out,show zkl r1 R=.err R.1 by unfold zkl;rw[if_pos h0]];rfl
    rintro v8 w8 ⟨rfl,h0⟩;have kr:=zh (show caR C.p.prs C.F g back i q.b { r1 with S:=R.2 }=o by rw[<-kV.out,show zkl r1 R=.ok { r1 with S:=R.2 } by unfold zkl;rw[if_neg (by simpa using h0)]];rfl);refine hK.out _ _ wI.out ?_;clear hK K had h0;(try simp only[zQ]);refine zd ?_;obtain⟨r2,hr2⟩:∃ x,({ r1 with S:=R.2 }:RS)=x:=⟨_,rfl⟩
    rw[hr2] at pI kr;have he2:r2.ent.length=C.p.prs.length:=pI.out.el;have hi2:i<r2.ent.length:=by rw[he2];exact tL.out
    have hn2:r2.ent.getD i 0+1<=r2.n:=by
     rw[<-hr2];simp only;rw[dz.out.2.2,dz.out.2.1,List.getD_eq_getElem?_getD,List.getElem?_eq_getElem (by rw[H.out.el];exact tL.out)];have:=H.out.en _ (List.getElem_mem (l:=r.ent) (n:=i) (by rw[H.out.el];exact tL.out));simp only[Option.getD_some];omega
    obtain⟨eg,ec,hev,hcz,hcf,hrc,hkc⟩:=pI.out.count tT.out hi2 hn2;have hev':C.ev=.slice (some ⟨eg,0,none⟩) r2.ent.length ec:=hev;obtain⟨-,-,-,e9,-⟩:=pI.out.cells;have e9':w8.cell? ⟨rb,9,none⟩=some (.slice (some ⟨eg,0,none⟩) z5 ec):=by
     rw[<-dZ.out,<-iG.out,<-he2,<-hev'];exact e9
    have hnn:=pI.out.n;have wZ:IntKind.i64.wrap ((r2.ent.getD i 0:Nat)+1:Int)=((r2.ent.getD i 0+1:Nat):Int):=by rw[IntWalk.i64_in _ (by omega)];omega
    have gG:=zh (show(runO C.p.prs C.F g back q.b { r2 with ent:=r2.ent.set i (r2.ent.getD i 0+1) }).bind (fun r=>(zkD C.F r).bind fun r=>zkl r (zl8 r.S))=o from kr.out);obtain⟨e0,he0⟩:∃ e,r2.ent.getD i 0=e:=⟨_,rfl⟩
    rw[he0] at hcz hrc hkc wZ gG;obtain⟨w9,aQ⟩:∃ x,w8.setCell ⟨eg,i,none⟩ (.int .i64 ((e0+1:Nat):Int))=x:=⟨_,rfl⟩
    rw[aQ] at hrc hkc;obtain⟨r3,hr3⟩:∃ x,({ r2 with ent:=r2.ent.set i (e0+1) }:RS)=x:=⟨_,rfl⟩
    rw[hr3] at hrc gG;have j3:=zh hrc;have rG:=zh (rH.out.trans hkc);have iq:=zh (bO.out.trans (Kpt.less (C:=C) rG.out));have aW:=zh (show Below C.w.heap.size C.w w9 from hrc.below);have j2:=rG.out.blk (.inr (.inr ⟨uW.out,l2⟩)) K2.out;have hgu:runO C.p.prs C.F g back q.b r3 ≠ .gas:=fun e=>cz.out (by rw[<-gG.out,e];rfl);have aA:=zh (zk8 HS.out tT.out j3.out q.b _ back HPRR.out.body hG1 hgu);rw[show(C.plus W.heap.size hi).rb=rb from dZ.out] at aA;have HJ2:=zh j2;have hi1:=rR.out;have hi0:(0:Int)<=(i:Int):=by omega
    rw[show((e0+1:Nat):Int)=(e0:Int)+1 by omega] at wZ aQ;clear hr2 he2 hi2 hn2 hev hev' e9 hnn he0 hr3 hrc hkc j2 hgu hG1 kr wI hbd hpq hR;go_upto_region 12 with fail;clear aQ hcz hcf e9' wZ;have q2:w9.cell? ⟨pb,2,none⟩=some (.int .u8 q.b.k):=zc HJ2.out rfl;have q3:w9.cell? ⟨pb,3,none⟩=some (.int .i64 q.b.n):=zc HJ2.out rfl;have q4:w9.cell? ⟨pb,4,none⟩=some (.string q.b.s):=zc HJ2.out rfl;have q5:w9.cell? ⟨pb,5,none⟩=some (.slice B2 q.b.ks.length d2):=zc HJ2.out rfl;go_wp2_with fail;refine aA.out.mono ?_;rintro e bz ⟨hk10,eD,ho10⟩;have HK510:=zh (rG.out.trans hk10);have HK10:=zh (bO.out.trans (Kpt.less (C:=C) HK510.out));have mH:=zh (show Below C.w.heap.size C.w bz from eD);have jD:match runO C.p.prs C.F g back q.b r3 with
     | .gas=>True
     | .err x=>e=zlu x
     | .ok r=>(∃ u,e=.returned u)/\RI (C.plus W.heap.size hi) bz r:=ho10
    clear q2 q3 q4 q5 hk10 eD ho10 aA
    cases hx:runO C.p.prs C.F g back q.b r3 with
    | gas=>exact absurd (by rw[<-gG.out,hx];rfl) cz.out
    | err x =>
     rw[hx] at jD;subst jD;refine⟨rfl,HK10.out,mH.out,?_⟩
     try rw[bH.out]
     rw[<-gG.out,hx];rfl
    | ok r4 =>
     rw[hx] at jD;obtain⟨⟨u9,rfl⟩,hr4⟩:=jD;have HST:=zh (zlP tT.out hr4);rw[show(C.plus W.heap.size hi).rb=rb from dZ.out] at HST;have ed:=zh (show((zkD C.F r4).bind fun r=>zkl r (zl8 r.S))=o by rw[<-gG.out,hx];rfl);have HR10:=zh hr4;clear hx hr4;go_wp2_with fail;refine HST.out.mono ?_;rintro e aT ⟨gU,nR,nG⟩;have HK511:=zh (HK510.out.trans gU);have jr:=zh (bO.out.trans (Kpt.less (C:=C) HK511.out));have jA:=zh (show Below C.w.heap.size C.w aT from nR);have jC:match zkD C.F r4 with
      | .gas=>True
      | .err x=>e=zlu x
      | .ok r=>(∃ u,e=.returned u)/\RI (C.plus W.heap.size hi) aT r:=nG
     clear gU nR nG HST
     cases hy:zkD C.F r4 with
     | gas=>exact absurd (by rw[<-ed.out,hy];rfl) cz.out
     | err x =>
      rw[hy] at jC;subst jC;refine⟨rfl,jr.out,jA.out,?_⟩
      try rw[bH.out]
      rw[<-ed.out,hy];rfl
     | ok r5 =>
      rw[hy] at jC;obtain⟨⟨u9,rfl⟩,jQ⟩:=jC;have kg:=zh jQ;have iB:=zh (show FB r4.n r5.S/\r5.n=r4.n+1 by obtain⟨rfl,-⟩:=zlp hy;exact⟨HR10.out.fb,rfl⟩);obtain⟨Rc,kN⟩:∃ R,zl8 r5.S=R:=⟨_,rfl⟩
      have il:=zh (show zkl r5 Rc=o by rw[<-ed.out,hy,<-kN];rfl);have y6:aT.cell? ⟨rb,6,none⟩=some (.pointer (some ⟨C.sb,0,none⟩)):=by rw[<-dZ.out];exact jQ.cells.1
      clear jQ hy;go_wp2_with fail;refine(kg.out.ks.leave).mono ?_;rintro e iN ⟨rfl,h2,h3⟩;have hs:=RI.store (C:=C.plus W.heap.size hi) kg.out h2 h3 (by rw[iB.out.2];exact iB.out.1.leave);rw[kN] at hs ⊢;have lX:=zh hs.1;have HK512:=zh (HK511.out.trans hs.2);have gy:=zh hs.1.below;have eQ:=zh (bO.out.trans (Kpt.less (C:=C) HK512.out));clear hs h2 h3 y6;go_wp2_with fail;refine(zk4 ⟨rb,0,none⟩ Rc.1 iN).mono ?_;rintro e y1 ⟨rfl,hv1⟩;rcases hv1 with⟨h0,u0,rfl⟩|⟨h0,rfl⟩
      ·have fT:=zh (show o=.ok { r5 with S:=Rc.2 } by rw[<-il.out];unfold zkl;rw[if_neg (by simpa using h0)]);have HR13:=zh lX.out.less;clear h0;go_wp2_with fail;go_end0;refine⟨eQ.out,gy.out,?_⟩
       try rw[bH.out]
       rw[fT.out];exact⟨⟨_,rfl⟩,HR13.out⟩
      ·refine⟨rfl,eQ.out,gy.out,?_⟩
       try rw[bH.out]
       rw[<-il.out,show zkl r5 Rc=.err Rc.1 by unfold zkl;rw[if_pos h0]]
theorem zpP {G:List PR->T->Prop} {g:Nat} (hS:IStC G g) {C:RC} (hC:C.Ok) {W:World} {r:RS} (h:RI C W r) (t:T) (v:Value) (back:Bool) (hv:NV C.w Any t v) (hk0:t.k=50) (i:Nat) (hi:prcI C.p.prs t.s=some i) (q:PR) (hq:C.p.prs[i]?=some q) (hG1:∀ u∈q.b.ks,G C.p.prs u)
  (o:Out) (ho:caO C.p.prs C.F g back i q (t.ks.map (·.s)) r=o) (hog:o ≠ .gas) :
  Calls Tryz.prog 139 #[.pointer (some ⟨C.rb,0,none⟩),v,.bool back] W (RunP C W o):=by
 have aD:=hog
 cases back
 ·skip
  obtain⟨k,n,s,ks⟩:=t;obtain rfl:k=50:=hk0;obtain⟨A,c,rfl,-,hlk,hlc,-⟩:=hv.open_;have hb0:=zkc (Below.refl W.heap.size W) (.cells #[.int .u8 50,.int .i64 n,.string s,.slice A ks.length c] 24);obtain⟨x0,x1,x2,x3⟩:=box4 (heap_alloc_new W (.cells #[.int .u8 50,.int .i64 n,.string s,.slice A ks.length c] 24));have aP:=zh (Kpt.of_below (n0:=C.n0) (kb:=C.kb) hb0);have aV:=zh (show Calls Tryz.prog 171 #[.pointer (some ⟨C.rb,0,none⟩),.agg #[.int .u8 50,.int .i64 n,.string s,.slice A ks.length c],.bool false] (W.alloc (.cells #[.int .u8 50,.int .i64 n,.string s,.slice A ks.length c] 24)) (RunP C _ o) from ho▸(znu hS hC (h.later hb0) _ _ false hv i hi q hq hG1 (ho▸hog)));clear hv hb0 h aD hG1 ho hi hq;go_enter Tryz.func139,Tryz.ntmps139;go_wp2_with fail;refine aV.out.mono ?_;rintro e w1 ⟨hk1,hb1,ho1⟩
  cases o with
  | gas=>exact absurd rfl hog
  | err x =>
   subst ho1;exact⟨rfl,aP.out.trans hk1,hb1,rfl⟩
  | ok r1 =>
   obtain⟨⟨u,rfl⟩,hr1⟩:=ho1;have HR:=zh hr1;have aB:=zh (aP.out.trans hk1);have HB1:=zh hb1;clear x0 x1 x2 x3 hr1 hk1 hb1;go_wp2_with fail;go_end0;exact⟨aB.out,HB1.out,⟨_,rfl⟩,HR.out⟩
 ·skip
  obtain⟨k,n,s,ks⟩:=t;obtain rfl:k=50:=hk0;obtain⟨A,c,rfl,-,hlk,hlc,-⟩:=hv.open_;have hb0:=zkc (Below.refl W.heap.size W) (.cells #[.int .u8 50,.int .i64 n,.string s,.slice A ks.length c] 24);obtain⟨x0,x1,x2,x3⟩:=box4 (heap_alloc_new W (.cells #[.int .u8 50,.int .i64 n,.string s,.slice A ks.length c] 24));have aP:=zh (Kpt.of_below (n0:=C.n0) (kb:=C.kb) hb0);have aV:=zh (show Calls Tryz.prog 171 #[.pointer (some ⟨C.rb,0,none⟩),.agg #[.int .u8 50,.int .i64 n,.string s,.slice A ks.length c],.bool true] (W.alloc (.cells #[.int .u8 50,.int .i64 n,.string s,.slice A ks.length c] 24)) (RunP C _ o) from ho▸(znu hS hC (h.later hb0) _ _ true hv i hi q hq hG1 (ho▸hog)));clear hv hb0 h aD hG1 ho hi hq;go_enter Tryz.func139,Tryz.ntmps139;go_wp2_with fail;refine aV.out.mono ?_;rintro e w1 ⟨hk1,hb1,ho1⟩
  cases o with
  | gas=>exact absurd rfl hog
  | err x =>
   subst ho1;exact⟨rfl,aP.out.trans hk1,hb1,rfl⟩
  | ok r1 =>
   obtain⟨⟨u,rfl⟩,hr1⟩:=ho1;have HR:=zh hr1;have aB:=zh (aP.out.trans hk1);have HB1:=zh hb1;clear x0 x1 x2 x3 hr1 hk1 hb1;go_wp2_with fail;go_end0;exact⟨aB.out,HB1.out,⟨_,rfl⟩,HR.out⟩
theorem zpO {G:List PR->T->Prop} {g:Nat} (hS:IStC G g) {C:RC} (hC:C.Ok) {W:World} {r:RS} (h:RI C W r) (t:T) (v:Value) (back:Bool) (hv:NV C.w Any t v) (hk0:t.k=51) (i:Nat) (hi:prcI C.p.prs t.s=some i) (q:PR) (hq:C.p.prs[i]?=some q) (hG1:∀ u∈q.b.ks,G C.p.prs u)
  (o:Out) (ho:caO C.p.prs C.F g (!back) i q (t.ks.map (·.s)) r=o) (hog:o ≠ .gas) :
  Calls Tryz.prog 139 #[.pointer (some ⟨C.rb,0,none⟩),v,.bool back] W (RunP C W o):=by
 have aD:=hog
 cases back
 ·skip
  change caO C.p.prs C.F g true i q (t.ks.map (·.s)) r=o at ho;obtain⟨k,n,s,ks⟩:=t;obtain rfl:k=51:=hk0;obtain⟨A,c,rfl,-,hlk,hlc,-⟩:=hv.open_;have hb0:=zkc (Below.refl W.heap.size W) (.cells #[.int .u8 51,.int .i64 n,.string s,.slice A ks.length c] 24);obtain⟨x0,x1,x2,x3⟩:=box4 (heap_alloc_new W (.cells #[.int .u8 51,.int .i64 n,.string s,.slice A ks.length c] 24));have aP:=zh (Kpt.of_below (n0:=C.n0) (kb:=C.kb) hb0);have aV:=zh (show Calls Tryz.prog 171 #[.pointer (some ⟨C.rb,0,none⟩),.agg #[.int .u8 51,.int .i64 n,.string s,.slice A ks.length c],.bool true] (W.alloc (.cells #[.int .u8 51,.int .i64 n,.string s,.slice A ks.length c] 24)) (RunP C _ o) from ho▸(znu hS hC (h.later hb0) _ _ true hv i hi q hq hG1 (ho▸hog)));clear hv hb0 h aD hG1 ho hi hq;go_enter Tryz.func139,Tryz.ntmps139;go_wp2_with fail;refine aV.out.mono ?_;rintro e w1 ⟨hk1,hb1,ho1⟩
  cases o with
  | gas=>exact absurd rfl hog
  | err x =>
   subst ho1;exact⟨rfl,aP.out.trans hk1,hb1,rfl⟩
  | ok r1 =>
   obtain⟨⟨u,rfl⟩,hr1⟩:=ho1;have HR:=zh hr1;have aB:=zh (aP.out.trans hk1);have HB1:=zh hb1;clear x0 x1 x2 x3 hr1 hk1 hb1;go_wp2_with fail;go_end0;exact⟨aB.out,HB1.out,⟨_,rfl⟩,HR.out⟩
 ·skip
  change caO C.p.prs C.F g false i q (t.ks.map (·.s)) r=o at ho;obtain⟨k,n,s,ks⟩:=t;obtain rfl:k=51:=hk0;obtain⟨A,c,rfl,-,hlk,hlc,-⟩:=hv.open_;have hb0:=zkc (Below.refl W.heap.size W) (.cells #[.int .u8 51,.int .i64 n,.string s,.slice A ks.length c] 24);obtain⟨x0,x1,x2,x3⟩:=box4 (heap_alloc_new W (.cells #[.int .u8 51,.int .i64 n,.string s,.slice A ks.length c] 24));have aP:=zh (Kpt.of_below (n0:=C.n0) (kb:=C.kb) hb0);have aV:=zh (show Calls Tryz.prog 171 #[.pointer (some ⟨C.rb,0,none⟩),.agg #[.int .u8 51,.int .i64 n,.string s,.slice A ks.length c],.bool false] (W.alloc (.cells #[.int .u8 51,.int .i64 n,.string s,.slice A ks.length c] 24)) (RunP C _ o) from ho▸(znu hS hC (h.later hb0) _ _ false hv i hi q hq hG1 (ho▸hog)));clear hv hb0 h aD hG1 ho hi hq;go_enter Tryz.func139,Tryz.ntmps139;go_wp2_with fail;refine aV.out.mono ?_;rintro e w1 ⟨hk1,hb1,ho1⟩
  cases o with
  | gas=>exact absurd rfl hog
  | err x =>
   subst ho1;exact⟨rfl,aP.out.trans hk1,hb1,rfl⟩
  | ok r1 =>
   obtain⟨⟨u,rfl⟩,hr1⟩:=ho1;have HR:=zh hr1;have aB:=zh (aP.out.trans hk1);have HB1:=zh hb1;clear x0 x1 x2 x3 hr1 hk1 hb1;go_wp2_with fail;go_end0;exact⟨aB.out,HB1.out,⟨_,rfl⟩,HR.out⟩
structure GC (G:List PR->T->Prop):Prop where
 two:∀ prs t,G prs t->(t.k=52\/t.k=53)->t.ks.length=4/\(∀ u∈(kid t 1).ks,G prs u)/\∀ u∈(kid t 2).ks,G prs u
 loc:∀ prs t,G prs t->t.k=54->t.ks.length=3/\∀ u∈(kid t 1).ks,G prs u
 stk:∀ prs t,G prs t->t.k=55->t.ks.length=1/\∀ u∈(kid t 0).ks,G prs u
 cal:∀ prs t,G prs t->(t.k=50\/t.k=51)->∃ i q,prcI prs t.s=some i/\prs[i]?=some q/\∀ u∈q.b.ks,G prs u
theorem getD_some {prs:List PR} {i:Nat} {q:PR} (h:prs[i]?=some q):prs.getD i ⟨⟨#[]⟩,[],nil0⟩=q:=by
 rw[List.getD_eq_getElem?_getD,h];rfl
theorem zqp {G:List PR->T->Prop} (hG:GC G):∀ g,IStC G g
 | 0=>fun C hC W r h t v back hv tq hg=>absurd rfl hg
 | g+1=>fun C hC W r h t v back hv tq hg=>by
  have hS:=zqp hG g;by_cases kP:t.k=52
  ·obtain⟨h1,h2,h3⟩:=hG.two _ _ tq (.inl kP);have e:zkA C.p.prs C.F (g+1) back t r=brO C.p.prs C.F g back t r:=by rw[zkA,if_pos kP];rfl
   rw[e] at hg ⊢;exact zvB hS hC h t v back hv kP h1 h2 h3 _ rfl hg
  by_cases lM:t.k=53
  ·obtain⟨h1,h2,h3⟩:=hG.two _ _ tq (.inr lM);have e:zkA C.p.prs C.F (g+1) back t r=lpO C.p.prs C.F g back t r:=by rw[zkA,if_neg kP,if_pos lM];rfl
   rw[e] at hg ⊢;exact zrJ hS hC h t v back hv lM h1 h2 h3 _ rfl hg
  by_cases dX:t.k=54
  ·obtain⟨h1,h2⟩:=hG.loc _ _ tq dX;have e:zkA C.p.prs C.F (g+1) back t r=loO C.p.prs C.F g back t r:=by rw[zkA,if_neg kP,if_neg lM,if_pos dX];rfl
   rw[e] at hg ⊢;exact zqX hS hC h t v back hv dX h1 h2 _ rfl hg
  by_cases eF:t.k=55
  ·obtain⟨h1,h2⟩:=hG.stk _ _ tq eF;have e:zkA C.p.prs C.F (g+1) back t r=lsO C.p.prs C.F g back t r:=by rw[zkA,if_neg kP,if_neg lM,if_neg dX,if_pos eF];rfl
   rw[e] at hg ⊢;exact zvA hS hC h t v back hv eF h1 h2 hg
  by_cases h5:t.k=50\/t.k=51
  ·obtain⟨i,q,hi,hq,hb⟩:=hG.cal _ _ tq h5;have e:zkA C.p.prs C.F (g+1) back t r=caO C.p.prs C.F g (back != decide (t.k=51)) i q (t.ks.map (·.s)) r:=by
    rw[zkA,if_neg kP,if_neg lM,if_neg dX,if_neg eF,if_pos h5,hi];dsimp only;rw[getD_some hq];rfl
   rw[e] at hg ⊢;rcases h5 with h50|kQ
   ·have e2:(back != decide (t.k=51))=back:=by rw[show decide (t.k=51)=false by simp[h50]];cases back<;>rfl
    rw[e2] at hg ⊢;exact zpP hS hC h t v back hv h50 i hi q hq hb _ rfl hg
   ·have e2:(back != decide (t.k=51)) = !back:=by rw[show decide (t.k=51)=true by simp[kQ]];cases back<;>rfl
    rw[e2] at hg ⊢;exact zpO hS hC h t v back hv kQ i hi q hq hb _ rfl hg
  ·have e:zkA C.p.prs C.F (g+1) back t r=basO C.F back t r:=by
    rw[zkA,if_neg kP,if_neg lM,if_neg dX,if_neg eF,if_neg h5];rfl
   rw[e];exact ztD hC h t v back hv ⟨kP,lM,dX,eF,fun h=>h5 (.inl h),fun h=>h5 (.inr h)⟩
theorem zqC (jb:Nat) (w:World) (h:w.cell? ⟨jb,0,none⟩=some (.slice none 0 0)):Calls Tryz.prog 136 #[.pointer (some ⟨jb,0,none⟩)] w fun e w'=>e=.returned (.int .i64 0)/\w'=w:=by
 go_enter Tryz.func136,Tryz.ntmps136;go_wp2_with fail;go_ret;exact⟨rfl,rfl⟩
theorem zwR:IsFn Tryz.prog 136 Tryz.f136:=⟨Tryz.func136,by kernel_rfl,by kernel_rfl⟩
theorem zvv {P:Program} {c:Code} {Q Q':Exit->Act->World->Prop} {a:Act} {w:World} (h:c.wp P Q a w) (hQ:∀ e a' w',Q e a' w'->Q' e a' w'):c.wp P Q' a w :=
 fun b k cs=>let ⟨e,a',w',q,r⟩:=h b k cs;⟨e,a',w',hQ _ _ _ q,r⟩
theorem zvI (C:World->Prop):∃ Q:Exit->Act->World->Prop,(∀ a' w',a'.defers=[]->C w'->Q .normal a' w')/\∀ e a' w',Q e a' w'->e=.normal/\a'.defers=[]/\C w' :=
 ⟨fun e a' w'=>e=.normal/\a'.defers=[]/\C w',fun _ _ h1 h2=>⟨rfl,h1,h2⟩,fun _ _ _ h=>h⟩
theorem tAss (x:Int) (w:World):(Instr.typeAssert (.iface 207 (.agg #[.int .i64 x])) 20 207 true).run Tryz.prog w=.ok (.tuple #[.agg #[.int .i64 x],.bool true]) w:=by kernel_rfl
theorem zuJ (a b c:Value) (w:World) :
  CallsD Tryz.prog 137 #[a,b,c] .returning w fun e u' w'=>e=.returned (.tuple #[])/\u'=.returning/\w'=w:=by
 refine callsD_of_wpS Tryz.func137 rfl fun c₀ cs hu=>?_;apply wpS_seq;apply wpS_region;simp[wpOpsS,go_sem,recoverD,hu,Tryz.ntmps137,Exit.thenS];apply wpS_seq;apply wpS_seq;apply wpS_region;simp[wpOpsS,go_sem,Exit.thenS];refine wpS_cond (t:=true) (by simp[Act.eval,Array.replicate]) ?_;simp only[if_true];refine wpS_of_wp (wp_ret ?_)
 cases c₀
 simp_all [bodyPostS,results,Tryz.results137,Exit.thenS]
theorem zsT (a2 a5 a4 jb:Nat) (x y:Int) (w:World) (h2:w.cell? ⟨a2,0,none⟩=some (.pointer (some ⟨jb,0,none⟩))) (h5:w.cell? ⟨a5,0,none⟩=some (.int .i64 0)) (hj:w.cell? ⟨jb,0,none⟩=some (.slice none 0 0)) (h4:w.cell? ⟨a4,0,none⟩=some (.int .i64 y)) (hf:w.frozen? ⟨a4,0,none⟩=false) :
  CallsD Tryz.prog 137 #[.pointer (some ⟨a2,0,none⟩),.pointer (some ⟨a5,0,none⟩),.pointer (some ⟨a4,0,none⟩)] (.panicking [{ v:=.iface 207 (.agg #[.int .i64 x]),recovered:=false }]) w fun e u' w' =>
   e=.returned (.tuple #[])/\u'=.panicking [{ v:=.iface 207 (.agg #[.int .i64 x]),recovered:=true }]/\w'.cell? ⟨a4,0,none⟩=some (.int .i64 x)/\Chg (fun b=>b=a4) w w':=by
 refine callsD_of_wpS Tryz.func137 rfl fun c₀ cs hu=>?_;apply wpS_seq;apply wpS_region;simp[wpOpsS,go_sem,recoverD,hu,Tryz.ntmps137,Exit.thenS];apply wpS_seq;apply wpS_seq;apply wpS_region;simp[wpOpsS,go_sem,Exit.thenS];refine wpS_cond (t:=false) (by simp[Act.eval,Array.replicate]) ?_;simp only[Bool.false_eq_true,if_false];refine wpS_of_wp (wp_skip ?_);refine wpS_of_wp ?_;obtain⟨Q,sV,hQ2⟩:=zvI (fun w'=>w'.cell? ⟨a4,0,none⟩=some (.int .i64 x)/\Chg (fun b=>b=a4) w w');refine zvv (Q:=Q) ?_ ?_;rotate_left 1
 ·intro e a' w' hq;obtain⟨rfl,h1,h2⟩:=hQ2 _ _ _ hq
  cases c₀
  simp_all [bodyPostS,results,Tryz.results137,Exit.thenS]
 have HQ:=zh sV;clear sV hQ2 hu;refine Eq.mp (congrArg (fun t=>Code.wp Tryz.prog _ Q ⟨t,[]⟩ w) (?e:(#[.pointer (some ⟨a2,0,none⟩),.pointer (some ⟨a5,0,none⟩),.pointer (some ⟨a4,0,none⟩),.iface 207 (.agg #[.int .i64 x]),undef,undef,.iface 207 (.agg #[.int .i64 x]),.iface 207 (.agg #[.int .i64 x]),.bool false,undef,undef,undef,undef,undef,undef,undef,undef,undef,undef,undef,undef,undef,undef,undef,undef,undef]:Array Value)=_)) ?_
 case e=>kernel_rfl
 go_upto_region 2 with fail;have HS:=zh (show ∀ w',Below w.heap.size w w'->(fun w':World=>w'.cell? ⟨a2,0,none⟩=some (.pointer (some ⟨jb,0,none⟩))/\w'.cell? ⟨a5,0,none⟩=some (.int .i64 0)) w' from fun w' hb=>⟨zb hb h2,zb hb h5⟩);have iK:=zh (fun w' (hb:Below w.heap.size w w')=>zqC jb w' (zb hb hj));have hSS:(fun w':World=>w'.cell? ⟨a2,0,none⟩=some (.pointer (some ⟨jb,0,none⟩))/\w'.cell? ⟨a5,0,none⟩=some (.int .i64 0)) w.drew/\(fun _:World=>True) w.drew:=⟨HS.out _ (Below.refl _ _).drew,trivial⟩
 refine wp_region_noPanic ?_;refine zkd (fun w':World=>w'.cell? ⟨a2,0,none⟩=some (.pointer (some ⟨jb,0,none⟩))/\w'.cell? ⟨a5,0,none⟩=some (.int .i64 0)) (fun _:World=>True) 3 (by kernel_rfl) ?_;refine zT 0 hSS ?_;(try simp only[zQ]);refine zT 2 hSS ?_;(try simp only[zQ]);have had:Calls Tryz.prog 136 [.pointer (some ⟨jb,0,none⟩)].toArray w.drew fun e w'=>∃ v,e=.returned v/\(v=.int .i64 0/\w'=w.drew):=(iK.out _ (Below.refl _ _).drew).mono fun e w' ⟨h1,h2⟩=>⟨_,h1,rfl,h2⟩
 refine zo 1 fun K hK=>?_;refine zke (by rfl) (.func 136) [.tmp 9] _ (by rfl) 136 _ zwR (by rfl) _ (by rfl) _ had ?_;rintro v1 w1 ⟨rfl,rfl⟩;refine hK.out _ _ hSS ?_;clear hK K had;(try simp only[zQ]);refine zp 3 fun K hK=>?_;(try simp only[zA,zB,zC]);go_simp;refine hK.out _ _ hSS.1 ?_;clear hK K;(try simp only[zQ]);refine zd ?_;refine NoPanic.normal ?_;clear hSS HS iK;have ht:=fun w=>tAss x w;obtain⟨w1,hw1⟩:∃ w1,w.drew=w1:=⟨_,rfl⟩
 have hb1:Below w.heap.size w w1:=hw1▸(Below.refl _ _).drew;have g4:=zb hb1 h4;have gf:w1.frozen? ⟨a4,0,none⟩=false:=hw1▸hf;have hlt:a4<w1.heap.size:=World.block_lt_of_cell? w1 _ g4;have z4:=zkq g4 (.cells #[.int .i64 x] 207);have HB1:=zh hb1;rw[hw1];clear h2 h5 hj h4 hf hw1 hb1;go_wp2_with fail;have hch:=(Chg.refl (fun b=>b=a4) w1).setCell (p:=⟨a4,0,none⟩) (.inl rfl) (.int .i64 x);exact HQ.out _ _ rfl ⟨zkq (by simp[go_sem,g4]) _,(Chg.of_below HB1.out).trans (hch.alloc _)⟩
def AttP (W:World) (R:World->Prop) (X:Int->World->Prop) (e:Ending) (w':World):Prop :=
 (e=.returned (.int .i64 0)/\∃ w1,R w1/\Chg (fun b=>W.heap.size<=b/\b<W.heap.size+3) w1 w')\/∃ x,e=.returned (.int .i64 x)/\∃ w1,X x w1/\Chg (fun b=>W.heap.size<=b/\b<W.heap.size+3) w1 w'
theorem zqk (jb:Nat) (f:FuncId) (fn:Func) (hf:IsFn Tryz.prog f fn) (caps:Array Value) (W:World) (hj:W.heap[jb]?=some (.cells #[.slice none 0 0,.bool false] 185 (0,0))) (R:World->Prop) (X:Int->World->Prop)
  (hact:∀ W1,Below W.heap.size W W1->W1.heap.size=W.heap.size+3->Calls Tryz.prog f caps W1 fun e w'=>(∀ b,(W.heap.size<=b\/b=jb)->b<W1.heap.size->w'.heap[b]?=W1.heap[b]?)/\(((∃ u,e=.returned u)/\R w')\/∃ x,e=zlu x/\X x w')) :
  Calls Tryz.prog 116 #[.pointer (some ⟨jb,0,none⟩),.func (.func f) #[] caps] W (AttP W R X):=by
 have vT:∀ (fn:Fn) (first cap:Array Value) (w:World),(Instr.makeFunc fn first cap).run Tryz.prog w=.ok (.func fn first cap) w:=fun _ _ _ _=>rfl;have hnf:∀ w:World,(binOp BinOp.eql 1 (.func (.func f) #[] caps) .nilFunc).run Tryz.prog w=.ok (.bool false) w:=fun _=>by kernel_rfl
 have HJ:=zh hj;have hjl:=zkj hj;have HA:=zh hact;have hLE:=fun w' (hb:Below W.heap.size W w')=>zqC jb w' (zb hb (zc hj rfl));have iK:=zh hLE;clear hj hact hLE
 go_enter_defers Tryz.func116,Tryz.ntmps116
 go_wp2_with fail;refine(iK.out _ (zkc (zkc (Below.refl _ _) _) _)).mono ?_;rintro e w1 ⟨rfl,rfl⟩;go_wp2_with fail;rw[zkC hf,Oper.upon_enter];have k0:=zkf (zkf (heap_alloc_new W (.cells #[.pointer (some ⟨jb,0,none⟩)] 182)) (.cells #[.int .i64 0] 44)) (.cells #[.int .i64 0] 3);have k1:=zkf (heap_alloc_new (W.alloc (.cells #[.pointer (some ⟨jb,0,none⟩)] 182)) (.cells #[.int .i64 0] 44)) (.cells #[.int .i64 0] 3);have k2:=heap_alloc_new ((W.alloc (.cells #[.pointer (some ⟨jb,0,none⟩)] 182)).alloc (.cells #[.int .i64 0] 44)) (.cells #[.int .i64 0] 3);have kj:=zkf (zkf (zkf HJ.out (.cells #[.pointer (some ⟨jb,0,none⟩)] 182)) (.cells #[.int .i64 0] 44)) (.cells #[.int .i64 0] 3);have hb3:=zkc (zkc (zkc (Below.refl W.heap.size W) (.cells #[.pointer (some ⟨jb,0,none⟩)] 182)) (.cells #[.int .i64 0] 44)) (.cells #[.int .i64 0] 3)
 simp only[World.size_alloc] at k1 k2;obtain⟨w3,hw3⟩:∃ x,((W.alloc (.cells #[.pointer (some ⟨jb,0,none⟩)] 182)).alloc (.cells #[.int .i64 0] 44)).alloc (.cells #[.int .i64 0] 3)=x:=⟨_,rfl⟩
 have hz3:w3.heap.size=W.heap.size+3:=by rw[<-hw3];simp
 rw[hw3] at k0 k1 k2 kj hb3 ⊢;clear hw3;refine(HA.out w3 hb3 hz3).mono ?_;rintro e w2 ⟨hk,h⟩;have q0:=(hk _ (.inl (Nat.le_refl _)) (by omega)).trans k0;have q1:=(hk _ (.inl (Nat.le_succ _)) (by omega)).trans k1;have q2:=(hk _ (.inl (by omega)) (by omega)).trans k2;have qj:=(hk _ (.inr rfl) (by omega)).trans kj;clear k0 k1 k2 kj hk hb3;rcases h with⟨⟨u,rfl⟩,hR⟩|⟨x,rfl,hX⟩
 ·have c1:w2.cell? ⟨W.heap.size+1,0,none⟩=some (.int .i64 0):=zc q1 rfl;have f1:∀ o,w2.frozen? ⟨W.heap.size+1,o,none⟩=false:=fun _=>zf q1;have HRR:=zh hR;clear q0 q2 qj iK HA hR;go_wp2_with fail;refine leaves_cons (f:=137) (args := #[.pointer (some ⟨W.heap.size,0,none⟩),.pointer (some ⟨W.heap.size+1+1,0,none⟩),.pointer (some ⟨W.heap.size+1,0,none⟩)]) (by simp) (by simp[go_sem]) ?_;refine(zuJ _ _ _ _).mono ?_;rintro e u' w'' ⟨rfl,rfl,rfl⟩;have hch:=(Chg.refl (fun b=>W.heap.size<=b/\b<W.heap.size+3) w2).setCell (p:=⟨W.heap.size+1,0,none⟩) (.inl ⟨Nat.le_succ _,by simp⟩) (.int .i64 0);have hc2:(w2.setCell ⟨W.heap.size+1,0,none⟩ (.int .i64 0)).cell? ⟨W.heap.size+1,0,none⟩=some (.int .i64 0):=by simp[go_sem,c1]
  have HP:AttP W R X (.returned (.int .i64 0)) (w2.setCell ⟨W.heap.size+1,0,none⟩ (.int .i64 0)):=.inl ⟨rfl,w2,HRR.out,hch⟩;simp[Leaves,settle,results,Tryz.results116,go_sem,hc2,HP]
 ·have p0:w2.cell? ⟨W.heap.size,0,none⟩=some (.pointer (some ⟨jb,0,none⟩)):=zc q0 rfl;have p1:w2.cell? ⟨W.heap.size+1,0,none⟩=some (.int .i64 0):=zc q1 rfl;have p2:w2.cell? ⟨W.heap.size+1+1,0,none⟩=some (.int .i64 0):=zc q2 rfl;have pj:w2.cell? ⟨jb,0,none⟩=some (.slice none 0 0):=zc qj rfl;have f1:w2.frozen? ⟨W.heap.size+1,0,none⟩=false:=zf q1;refine leaves_cons (f:=137) (args := #[.pointer (some ⟨W.heap.size,0,none⟩),.pointer (some ⟨W.heap.size+1+1,0,none⟩),.pointer (some ⟨W.heap.size+1,0,none⟩)]) (by simp) (by simp[go_sem]) ?_;refine(zsT _ _ _ jb x 0 _ p0 p2 pj p1 f1).mono ?_;rintro e u' w'' ⟨rfl,rfl,hc2,hch⟩;have HP:AttP W R X (.returned (.int .i64 x)) w'':=.inr ⟨x,rfl,w2,hX,hch.mono fun b _ e=>by omega⟩;simp[Leaves,settle,results,Tryz.results116,go_sem,hc2,HP]
end Go.Proofs.YtghbhbdnkjjnnaaGreat
namespace Go.Proofs.YtghbhbdnkjjnnaaGreat
open Go.RowKit
def zli (ps:List PR) (k:Int) (s:ByteArray) (l:Nat) (vs:List VD):Int :=
 if k=2 then useE vs s 1 else if k=3 then useE vs s 2 else if k=4\/k=5\/k=44\/k=45 then useE vs s 3 else if k=54\/k=55 then zmi vs s
 else if k=50\/k=51 then (match idxP ps s with
  | none=>6
  | some i=>match ps[i]? with
   | none=>6
   | some r=>if l=r.ps.length then 0 else 7)
 else 0
theorem zsA (p:PG) (t:T) (vs:List VD) (A:Option Addr) (c:Nat) (S S' S'':Nat->Prop) (v1 v2:Value) (w:World) (hv1:PV w S p v1) (hv2:NV w S' t v2) (hrow:RowV w S'' A vs) (hl:vs.length<=LV) :
  Calls Tryz.prog 130 #[v1,v2,.slice A vs.length c] w fun e w'=>e=.returned (.int .i64 (zli p.prs t.k t.s t.ks.length vs))/\Below w.heap.size w w':=by
 have hvv:=hv1;obtain⟨A1,c1,A2,c2,A3,c3,rfl,hr⟩:=hv1;have dS:=zh hr.procs;have hlp:=zlv hr.lp;obtain⟨L1,hL1⟩:∃ L,p.vs.length=L:=⟨_,rfl⟩
 obtain⟨L2,hL2⟩:∃ L,p.prs.length=L:=⟨_,rfl⟩
 obtain⟨k,hk⟩:∃ k,p.m.k=k:=⟨_,rfl⟩
 obtain⟨n,hn⟩:∃ n,p.m.n=n:=⟨_,rfl⟩
 obtain⟨s,hs⟩:∃ s,p.m.s=s:=⟨_,rfl⟩
 obtain⟨l3,hl3⟩:∃ l,p.m.ks.length=l:=⟨_,rfl⟩
 rw[hL1,hL2,hk,hn,hs,hl3];rw[hL1,hL2,hk,hn,hs,hl3] at hvv;rw[hL2] at hlp;have HL2:=zh hL2;have HV:=zh hvv;clear hr hvv hL1 hL2 hk hn hs hl3;obtain⟨B,tc,rfl,_,hlk,_,_⟩:=hv2.open_;have az:=zkK hlk;have ae:=zh hrow;have HL:=zh hl;clear hrow hl hv2 hlk;generalize t.k=tk,t.n=tn,t.s=ts,t.ks.length=tl at *
 obtain⟨R,hR⟩:∃ R,zli p.prs tk ts tl vs=R:=⟨_,rfl⟩
 rw[hR];have HR:=zh hR;clear hR;have hb0:∀ o o',Below w.heap.size w ((w.alloc o).alloc o'):=fun o o'=>((Below.refl _ _).alloc (Nat.le_refl _) _).alloc (by simp) _;have HB0:=zh hb0;clear hb0;by_cases h2:tk=2
 ·subst h2;have HN:=zh (show R=useE vs ts 1 by rw[<-HR.out];simp[zli]);go_enter Tryz.func130,Tryz.ntmps130;go_wp2_with fail;refine(zm2 vs A c ts 1 S'' _ (ae.out.later (HB0.out _ _)) HL.out).mono ?_;rintro e w1 ⟨rfl,aa⟩;rw[<-HN.out];have HB:=zh (zka (HB0.out _ _) aa);clear aa;go_wp2_with fail;go_ret;exact⟨rfl,HB.out⟩
 have f2:(tk==2)=false:=by simpa using h2
 by_cases h3:tk=3
 ·subst h3;have HN:=zh (show R=useE vs ts 2 by rw[<-HR.out];simp[zli]);go_enter Tryz.func130,Tryz.ntmps130;go_wp2_with fail;refine(zm2 vs A c ts 2 S'' _ (ae.out.later (HB0.out _ _)) HL.out).mono ?_;rintro e w1 ⟨rfl,aa⟩;rw[<-HN.out];have HB:=zh (zka (HB0.out _ _) aa);clear aa;go_wp2_with fail;go_ret;exact⟨rfl,HB.out⟩
 have f3:(tk==3)=false:=by simpa using h3
 by_cases h4:tk=4
 ·subst h4;have HN:=zh (show R=useE vs ts 3 by rw[<-HR.out];simp[zli]);go_enter Tryz.func130,Tryz.ntmps130;go_wp2_with fail;refine(zm2 vs A c ts 3 S'' _ (ae.out.later (HB0.out _ _)) HL.out).mono ?_;rintro e w1 ⟨rfl,aa⟩;rw[<-HN.out];have HB:=zh (zka (HB0.out _ _) aa);clear aa;go_wp2_with fail;go_ret;exact⟨rfl,HB.out⟩
 have f4:(tk==4)=false:=by simpa using h4
 by_cases h5:tk=5
 ·subst h5;have HN:=zh (show R=useE vs ts 3 by rw[<-HR.out];simp[zli]);go_enter Tryz.func130,Tryz.ntmps130;go_wp2_with fail;refine(zm2 vs A c ts 3 S'' _ (ae.out.later (HB0.out _ _)) HL.out).mono ?_;rintro e w1 ⟨rfl,aa⟩;rw[<-HN.out];have HB:=zh (zka (HB0.out _ _) aa);clear aa;go_wp2_with fail;go_ret;exact⟨rfl,HB.out⟩
 have f5:(tk==5)=false:=by simpa using h5
 by_cases qV:tk=44
 ·subst qV;have HN:=zh (show R=useE vs ts 3 by rw[<-HR.out];simp[zli]);go_enter Tryz.func130,Tryz.ntmps130;go_wp2_with fail;refine(zm2 vs A c ts 3 S'' _ (ae.out.later (HB0.out _ _)) HL.out).mono ?_;rintro e w1 ⟨rfl,aa⟩;rw[<-HN.out];have HB:=zh (zka (HB0.out _ _) aa);clear aa;go_wp2_with fail;go_ret;exact⟨rfl,HB.out⟩
 have f44:(tk==44)=false:=by simpa using qV
 by_cases h45:tk=45
 ·subst h45;have HN:=zh (show R=useE vs ts 3 by rw[<-HR.out];simp[zli]);go_enter Tryz.func130,Tryz.ntmps130;go_wp2_with fail;refine(zm2 vs A c ts 3 S'' _ (ae.out.later (HB0.out _ _)) HL.out).mono ?_;rintro e w1 ⟨rfl,aa⟩;rw[<-HN.out];have HB:=zh (zka (HB0.out _ _) aa);clear aa;go_wp2_with fail;go_ret;exact⟨rfl,HB.out⟩
 have f45:(tk==45)=false:=by simpa using h45
 by_cases dX:tk=54
 ·subst dX;have HN:=zh (show R=zmi vs ts by rw[<-HR.out];simp[zli]);go_enter Tryz.func130,Tryz.ntmps130;go_wp2_with fail;refine(znP vs A c ts S'' _ (ae.out.later (HB0.out _ _)) HL.out).mono ?_;rintro e w1 ⟨rfl,aa⟩;rw[<-HN.out];have HB:=zh (zka (HB0.out _ _) aa);clear aa;go_wp2_with fail;go_ret;exact⟨rfl,HB.out⟩
 have f54:(tk==54)=false:=by simpa using dX
 by_cases eF:tk=55
 ·subst eF;have HN:=zh (show R=zmi vs ts by rw[<-HR.out];simp[zli]);go_enter Tryz.func130,Tryz.ntmps130;go_wp2_with fail;refine(znP vs A c ts S'' _ (ae.out.later (HB0.out _ _)) HL.out).mono ?_;rintro e w1 ⟨rfl,aa⟩;rw[<-HN.out];have HB:=zh (zka (HB0.out _ _) aa);clear aa;go_wp2_with fail;go_ret;exact⟨rfl,HB.out⟩
 have f55:(tk==55)=false:=by simpa using eF
 by_cases h50:tk=50
 ·subst h50;have HN:=zh (show R=(match idxP p.prs ts with|none=>6|some i=>match p.prs[i]? with|none=>6|some r=>if tl=r.ps.length then 0 else 7) by rw[<-HR.out];simp[zli]);go_enter Tryz.func130,Tryz.ntmps130;go_wp2_with fail;refine(zmY p S _ ts _ (HV.out.later (HB0.out _ _))).mono ?_;rintro e w1 ⟨rfl,aa⟩;have hbl:=zka (HB0.out _ _) aa;have hP:=zkb (zkf (heap_alloc_new w (.cells #[.slice A1 L1 c1,.slice A2 L2 c2,.int .u8 k,.int .i64 n,.string s,.slice A3 l3 c3] 55)) _) aa;have hN:=zkb (heap_alloc_new (w.alloc (.cells #[.slice A1 L1 c1,.slice A2 L2 c2,.int .u8 k,.int .i64 n,.string s,.slice A3 l3 c3] 55)) (.cells #[.int .u8 50,.int .i64 tn,.string ts,.slice B tl tc] 24)) aa;simp only[World.size_alloc] at hN
  cases hi:idxP p.prs ts with
  | none =>
   have e1:zlw p.prs ts = -1:=by simp[zlw,hi]
   rw[e1];have aI:=zh (show R=6 by rw[HN.out,hi]);have HB:=zh hbl;clear aa hi e1 hP hN hbl;go_wp2_with fail;go_ret;exact⟨by rw[aI.out];rfl,HB.out⟩
  | some i =>
   have e1:zlw p.prs ts=i:=by simp[zlw,hi]
   rw[e1];have hi2:i<p.prs.length:=(List.findIdx?_eq_some_iff_getElem.1 hi).1;have hiL:i<L2:=by rw[<-HL2.out];exact hi2
   obtain⟨a,r,P1,d1,P2,d2,rfl,_,Hr,⟨_,q1,_⟩,hpr⟩:=(dS.out.later hbl).nd hi2;obtain⟨rl,hrl⟩:∃ l,r.ps.length=l:=⟨_,rfl⟩
   have hlr:=zlv hpr.lp;rw[hrl] at q1 hlr;have aI:=zh (show R=if tl=rl then 0 else 7 by rw[HN.out,hi];simp only;rw[List.getElem?_eq_getElem hi2,Hr.out,<-hrl]);obtain⟨a0,a1,a2,a3,a4,a5⟩:=box6 hP;obtain⟨b0,b1,b2,b3⟩:=box4 hN;have HB:=zh hbl;clear aa hi e1 hP hN hbl hrl hpr;go_wp2_with fail
   go_region_held3 (fun w'=>(w'.cell? ⟨w.heap.size+1,3,none⟩=some (.slice B tl tc)/\w'.cell? ⟨w.heap.size,1,none⟩=some (.slice (some a) L2 c2)/\w'.cell? ⟨(a.add (i*6)).block,(a.add (i*6)).off+1,none⟩=some (.slice P1 rl d1))) (exact⟨b3,a1,q1⟩) (fail)
   by_cases hq:tl=rl
   ·have g1:(tl==rl)=true:=by simpa using hq
    have g2:(tl != rl)=false:=by simpa using hq
    have g3:((tl:Int)==(rl:Int))=true:=by simp;omega
    have g4:((tl:Int) != (rl:Int))=false:=by simp;omega
    have bN:=zh (show R=0 by rw[aI.out,if_pos hq]);clear hq;go_wp2_with fail;go_ret;exact⟨by rw[bN.out];rfl,HB.out.drew⟩
   ·have g1:(tl==rl)=false:=by simpa using hq
    have g2:(tl != rl)=true:=by simpa using hq
    have g3:((tl:Int)==(rl:Int))=false:=by simp;omega
    have g4:((tl:Int) != (rl:Int))=true:=by simp;omega
    have bN:=zh (show R=7 by rw[aI.out,if_neg hq]);clear hq;go_wp2_with fail;go_ret;exact⟨by rw[bN.out];rfl,HB.out.drew⟩
 have f50:(tk==50)=false:=by simpa using h50
 by_cases kQ:tk=51
 ·subst kQ;have HN:=zh (show R=(match idxP p.prs ts with|none=>6|some i=>match p.prs[i]? with|none=>6|some r=>if tl=r.ps.length then 0 else 7) by rw[<-HR.out];simp[zli]);go_enter Tryz.func130,Tryz.ntmps130;go_wp2_with fail;refine(zmY p S _ ts _ (HV.out.later (HB0.out _ _))).mono ?_;rintro e w1 ⟨rfl,aa⟩;have hbl:=zka (HB0.out _ _) aa;have hP:=zkb (zkf (heap_alloc_new w (.cells #[.slice A1 L1 c1,.slice A2 L2 c2,.int .u8 k,.int .i64 n,.string s,.slice A3 l3 c3] 55)) _) aa;have hN:=zkb (heap_alloc_new (w.alloc (.cells #[.slice A1 L1 c1,.slice A2 L2 c2,.int .u8 k,.int .i64 n,.string s,.slice A3 l3 c3] 55)) (.cells #[.int .u8 51,.int .i64 tn,.string ts,.slice B tl tc] 24)) aa;simp only[World.size_alloc] at hN
  cases hi:idxP p.prs ts with
  | none =>
   have e1:zlw p.prs ts = -1:=by simp[zlw,hi]
   rw[e1];have aI:=zh (show R=6 by rw[HN.out,hi]);have HB:=zh hbl;clear aa hi e1 hP hN hbl;go_wp2_with fail;go_ret;exact⟨by rw[aI.out];rfl,HB.out⟩
  | some i =>
   have e1:zlw p.prs ts=i:=by simp[zlw,hi]
   rw[e1];have hi2:i<p.prs.length:=(List.findIdx?_eq_some_iff_getElem.1 hi).1;have hiL:i<L2:=by rw[<-HL2.out];exact hi2
   obtain⟨a,r,P1,d1,P2,d2,rfl,_,Hr,⟨_,q1,_⟩,hpr⟩:=(dS.out.later hbl).nd hi2;obtain⟨rl,hrl⟩:∃ l,r.ps.length=l:=⟨_,rfl⟩
   have hlr:=zlv hpr.lp;rw[hrl] at q1 hlr;have aI:=zh (show R=if tl=rl then 0 else 7 by rw[HN.out,hi];simp only;rw[List.getElem?_eq_getElem hi2,Hr.out,<-hrl]);obtain⟨a0,a1,a2,a3,a4,a5⟩:=box6 hP;obtain⟨b0,b1,b2,b3⟩:=box4 hN;have HB:=zh hbl;clear aa hi e1 hP hN hbl hrl hpr;go_wp2_with fail
   go_region_held3 (fun w'=>(w'.cell? ⟨w.heap.size+1,3,none⟩=some (.slice B tl tc)/\w'.cell? ⟨w.heap.size,1,none⟩=some (.slice (some a) L2 c2)/\w'.cell? ⟨(a.add (i*6)).block,(a.add (i*6)).off+1,none⟩=some (.slice P1 rl d1))) (exact⟨b3,a1,q1⟩) (fail)
   by_cases hq:tl=rl
   ·have g1:(tl==rl)=true:=by simpa using hq
    have g2:(tl != rl)=false:=by simpa using hq
    have g3:((tl:Int)==(rl:Int))=true:=by simp;omega
    have g4:((tl:Int) != (rl:Int))=false:=by simp;omega
    have bN:=zh (show R=0 by rw[aI.out,if_pos hq]);clear hq;go_wp2_with fail;go_ret;exact⟨by rw[bN.out];rfl,HB.out.drew⟩
   ·have g1:(tl==rl)=false:=by simpa using hq
    have g2:(tl != rl)=true:=by simpa using hq
    have g3:((tl:Int)==(rl:Int))=false:=by simp;omega
    have g4:((tl:Int) != (rl:Int))=true:=by simp;omega
    have bN:=zh (show R=7 by rw[aI.out,if_neg hq]);clear hq;go_wp2_with fail;go_ret;exact⟨by rw[bN.out];rfl,HB.out.drew⟩
 have f51:(tk==51)=false:=by simpa using kQ
 have HN:=zh (show R=0 by rw[<-HR.out];simp[zli,h2,h3,h4,h5,qV,h45,dX,eF,h50,kQ]);clear h2 h3 h4 h5 qV h45 dX eF h50 kQ;go_enter Tryz.func130,Tryz.ntmps130;go_wp2_with fail;go_ret;exact⟨by rw[HN.out];rfl,HB0.out _ _⟩
def argE (ps:List PR) (s:ByteArray) (l i:Nat) (m:ByteArray) (vs:List VD):Int:=match zlm vs m with
 | none=>6
 | some v=>match idxP ps s with
  | none=>0
  | some j=>match ps[j]? with
   | none=>0
   | some r=>if l=r.ps.length then (match r.ps[i]? with
    | none=>0
    | some q=>if v.k=q.k/\v.n=q.n then 0 else 7) else 0
theorem box3 {w:World} {b:Nat} {E:TypeId} {u0 u1 u2:Value} (h:w.heap[b]?=some (.cells #[u0,u1,u2] E (0,0))):w.cell? ⟨b,0,none⟩=some u0/\w.cell? ⟨b,1,none⟩=some u1/\w.cell? ⟨b,2,none⟩=some u2 :=
 ⟨zc h rfl,zc h rfl,zc h rfl⟩
theorem zni (p:PG) (t:T) (i:Nat) (hi:i<t.ks.length) (vs:List VD) (A:Option Addr) (c:Nat) (S S' S'':Nat->Prop) (v1 v2:Value) (w:World) (hv1:PV w S p v1) (hv2:NV w S' t v2) (hrow:RowV w S'' A vs) (hl:vs.length<=LV) :
  Calls Tryz.prog 132 #[v1,v2,.int .i64 i,.slice A vs.length c] w fun e w'=>e=.returned (.int .i64 (argE p.prs t.s t.ks.length i t.ks[i].s vs))/\Below w.heap.size w w':=by
 have hvv:=hv1;obtain⟨A1,c1,A2,c2,A3,c3,rfl,hr⟩:=hv1;have dS:=zh hr.procs;have hlp:=zlv hr.lp;obtain⟨L1,hL1⟩:∃ L,p.vs.length=L:=⟨_,rfl⟩
 obtain⟨L2,hL2⟩:∃ L,p.prs.length=L:=⟨_,rfl⟩
 obtain⟨k,hk⟩:∃ k,p.m.k=k:=⟨_,rfl⟩
 obtain⟨n,hn⟩:∃ n,p.m.n=n:=⟨_,rfl⟩
 obtain⟨s,hs⟩:∃ s,p.m.s=s:=⟨_,rfl⟩
 obtain⟨l3,hl3⟩:∃ l,p.m.ks.length=l:=⟨_,rfl⟩
 rw[hL1,hL2,hk,hn,hs,hl3];rw[hL1,hL2,hk,hn,hs,hl3] at hvv;rw[hL2] at hlp;have HL2:=zh hL2;have HV:=zh hvv;clear hr hvv hL1 hL2 hk hn hs hl3;obtain⟨B,tc,rfl,_,hlk,_,jB⟩:=hv2.open_;have az:=zkK hlk;have ae:=zh hrow;have HL:=zh hl;obtain⟨b,u,B1,f1,rfl,_,Hu,⟨z0,z1,z2,z3⟩,-⟩:=jB.nd hi;rw[Hu.out];clear hrow hl hv2 hlk jB z0 z1 z3;obtain⟨us,gM⟩:∃ us,u.s=us:=⟨_,rfl⟩
 rw[gM] at z2 ⊢;clear gM Hu;generalize t.k=tk,t.n=tn,t.s=ts,t.ks.length=tl at *
 obtain⟨R,hR⟩:∃ R,argE p.prs ts tl i us vs=R:=⟨_,rfl⟩
 rw[hR];have HR:=zh hR;clear hR;have hb0:∀ o o',Below w.heap.size w ((w.alloc o).alloc o'):=fun o o'=>((Below.refl _ _).alloc (Nat.le_refl _) _).alloc (by simp) _;have HB0:=zh hb0;have z2':=fun o o'=>zkq (zkq z2 o) o';clear hb0 z2;go_enter Tryz.func132,Tryz.ntmps132;go_wp2_with fail;refine(znw vs A c us S'' _ (ae.out.later (HB0.out _ _)) HL.out).mono ?_;rintro e w1 ⟨rfl,aa⟩;have hbl:=zka (HB0.out _ _) aa;have hP:=zkb (zkf (heap_alloc_new w (.cells #[.slice A1 L1 c1,.slice A2 L2 c2,.int .u8 k,.int .i64 n,.string s,.slice A3 l3 c3] 55)) _) aa;have hN:=zkb (heap_alloc_new (w.alloc (.cells #[.slice A1 L1 c1,.slice A2 L2 c2,.int .u8 k,.int .i64 n,.string s,.slice A3 l3 c3] 55)) (.cells #[.int .u8 tk,.int .i64 tn,.string ts,.slice (some b) tl tc] 24)) aa;simp only[World.size_alloc] at hN
 cases hf:zlm vs us with
 | none =>
  have HN:=zh (show R=6 by rw[<-HR.out];simp[argE,hf]);have HB:=zh (zkc hbl (.cells #[.string ⟨#[]⟩,.int .u8 0,.int .i64 0] 76));clear hf aa hP hN hbl z2';go_wp2_with fail;go_ret;exact⟨by rw[HN.out];rfl,HB.out⟩
 | some v =>
  obtain⟨vm,vk,vl⟩:=v;have hq2:=zkc hbl (.cells #[.string vm,.int .u8 vk,.int .i64 vl] 76);have hP2:=zkf hP (.cells #[.string vm,.int .u8 vk,.int .i64 vl] 76);have qQ:=zkf hN (.cells #[.string vm,.int .u8 vk,.int .i64 vl] 76);have hV2:=heap_alloc_new w1 (.cells #[.string vm,.int .u8 vk,.int .i64 vl] 76);have HR2:=zh (show R=(match idxP p.prs ts with
   | none=>0
   | some j=>match p.prs[j]? with
    | none=>0
    | some r=>if tl=r.ps.length then (match r.ps[i]? with
     | none=>0
     | some q=>if vk=q.k/\vl=q.n then 0 else 7) else 0) by rw[<-HR.out];simp[argE,hf])
  obtain⟨a0,a1,a2,a3,a4,a5⟩:=box6 hP2;obtain⟨b0,b1,b2,b3⟩:=box4 qQ;have kU:=zh hP2;have aI:=zh qQ;have wG:=zh hV2;have pK:=zh hq2;clear hf aa hP hN hbl z2' hP2 qQ hV2 hq2 HR;go_wp2_with fail;refine(zmY p S _ ts _ (HV.out.later pK.out)).mono ?_;rintro e w2 ⟨rfl,aj⟩;have hbl:=zka pK.out aj;have hP:=zkb kU.out aj;have hN:=zkb aI.out aj;have hV:=zkb wG.out aj;clear a0 a1 a2 a3 a4 a5 b0 b1 b2 b3 kU aI wG pK aj
  cases hi2:idxP p.prs ts with
  | none =>
   have e1:zlw p.prs ts = -1:=by simp[zlw,hi2]
   rw[e1];have bN:=zh (show R=0 by rw[HR2.out,hi2]);have HB:=zh hbl;clear hi2 e1 hP hN hV hbl;go_wp2_with fail;refine wp_region_noPanic ?_;refine zkd (fun _=>True) (fun _=>True) 20 (by kernel_rfl) ?_;have hSS:(fun _:World=>True) w2.drew/\(fun _:World=>True) w2.drew:=⟨trivial,trivial⟩
   refine zT 0 hSS ?_;(try simp only[zQ]);refine zT 1 hSS ?_;(try simp only[zQ]);refine zT 2 hSS ?_;(try simp only[zQ]);refine zkt (i:=3) (v:=undef) rfl (by kernel_rfl) (by kernel_rfl) (by kernel_rfl) (by decide) (fun _ _ _ h=>h) (Or.inr ⟨by rfl,rfl⟩) hSS ?_;(try simp only[zQ]);refine zkt (i:=4) (v:=undef) rfl (by kernel_rfl) (by kernel_rfl) (by kernel_rfl) (by decide) (fun _ _ _ h=>h) (Or.inr ⟨by rfl,rfl⟩) hSS ?_;(try simp only[zQ]);refine zkt (i:=5) (v:=undef) rfl (by kernel_rfl) (by kernel_rfl) (by kernel_rfl) (by decide) (fun _ _ _ h=>h) (Or.inr ⟨by rfl,rfl⟩) hSS ?_;(try simp only[zQ]);refine zkt (i:=6) (v:=undef) rfl (by kernel_rfl) (by kernel_rfl) (by kernel_rfl) (by decide) (fun _ _ _ h=>h) (Or.inr ⟨by rfl,rfl⟩) hSS ?_;(try simp only[zQ])
   refine zkt (i:=7) (v:=undef) rfl (by kernel_rfl) (by kernel_rfl) (by kernel_rfl) (by decide) (fun _ _ _ h=>h) (Or.inr ⟨by rfl,rfl⟩) hSS ?_;(try simp only[zQ]);refine zkt (i:=8) (v:=undef) rfl (by kernel_rfl) (by kernel_rfl) (by kernel_rfl) (by decide) (fun _ _ _ h=>h) (Or.inr ⟨by rfl,rfl⟩) hSS ?_;(try simp only[zQ]);refine zkt (i:=9) (v:=undef) rfl (by kernel_rfl) (by kernel_rfl) (by kernel_rfl) (by decide) (fun _ _ _ h=>h) (Or.inr ⟨by rfl,rfl⟩) hSS ?_;(try simp only[zQ]);refine zkt (i:=10) (v:=undef) rfl (by kernel_rfl) (by kernel_rfl) (by kernel_rfl) (by decide) (fun _ _ _ h=>h) (Or.inr ⟨by rfl,rfl⟩) hSS ?_;(try simp only[zQ]);refine zkt (i:=11) (v:=undef) rfl (by kernel_rfl) (by kernel_rfl) (by kernel_rfl) (by decide) (fun _ _ _ h=>h) (Or.inr ⟨by rfl,rfl⟩) hSS ?_;(try simp only[zQ])
   refine zkt (i:=12) (v:=undef) rfl (by kernel_rfl) (by kernel_rfl) (by kernel_rfl) (by decide) (fun _ _ _ h=>h) (Or.inr ⟨by rfl,rfl⟩) hSS ?_;(try simp only[zQ]);refine zkt (i:=13) (v:=undef) rfl (by kernel_rfl) (by kernel_rfl) (by kernel_rfl) (by decide) (fun _ _ _ h=>h) (Or.inr ⟨by rfl,rfl⟩) hSS ?_;(try simp only[zQ]);refine zT 14 hSS ?_;(try simp only[zQ]);refine zd ?_;refine NoPanic.normal ?_;clear hSS;go_wp2_with fail;go_ret;exact⟨by rw[bN.out];rfl,HB.out.drew⟩
  | some j =>
   have e1:zlw p.prs ts=j:=by simp[zlw,hi2]
   rw[e1];have hj2:j<p.prs.length:=(List.findIdx?_eq_some_iff_getElem.1 hi2).1;have hjL:j<L2:=by rw[<-HL2.out];exact hj2
   obtain⟨a,r,P1,d1,P2,d2,rfl,_,Hr,⟨_,q1,_⟩,hpr⟩:=(dS.out.later hbl).nd hj2;obtain⟨rl,hrl⟩:∃ l,r.ps.length=l:=⟨_,rfl⟩
   have hlr:=zlv hpr.lp;have HPW:=zh hpr.row;rw[hrl] at q1 hlr;have HR3:=zh (show R=if tl=rl then (match r.ps[i]? with
     | none=>0
     | some q=>if vk=q.k/\vl=q.n then 0 else 7) else 0 by rw[HR2.out,hi2];simp only;rw[List.getElem?_eq_getElem hj2,Hr.out,<-hrl])
   have xV:=zh hrl;obtain⟨a0,a1,a2,a3,a4,a5⟩:=box6 hP;obtain⟨b0,b1,b2,b3⟩:=box4 hN;have eH:=zh hV;have HB:=zh hbl;have hj0:decide ((j:Int)<0)=false:=by simp
   clear hi2 e1 hP hN hbl hrl hpr hV;go_wp2_with fail
   go_region_held3 (fun w'=>(w'.cell? ⟨w.heap.size+1,3,none⟩=some (.slice (some b) tl tc)/\w'.cell? ⟨w.heap.size,1,none⟩=some (.slice (some a) L2 c2)/\w'.cell? ⟨(a.add (j*6)).block,(a.add (j*6)).off+1,none⟩=some (.slice P1 rl d1))) (exact⟨b3,a1,q1⟩) (fail)
   by_cases hq:tl=rl
   ·have g1:(tl==rl)=true:=by simpa using hq
    have g2:(tl != rl)=false:=by simpa using hq
    have g3:((tl:Int)==(rl:Int))=true:=by simp;omega
    have g4:((tl:Int) != (rl:Int))=false:=by simp;omega
    have hir:i<r.ps.length:=by rw[xV.out];omega
    have hir':i<rl:=by omega
    obtain⟨e,q,rfl,_,Hq,⟨y0,y1,y2⟩,uz⟩:=(HPW.out.later (Below.refl _ _).drew).nd hir;have HR4:=zh (show R=if vk=q.k/\vl=q.n then 0 else 7 by rw[HR3.out,if_pos hq,List.getElem?_eq_getElem hir,Hq.out]);obtain⟨qm,qk,ql⟩:=q;simp only at y0 y1 y2 HR4;have hV3:=box3 eH.out;obtain⟨x0,x1,x2⟩:=hV3;have aW:=zh (zkc HB.out.drew (.cells #[.string qm,.int .u8 qk,.int .i64 ql] 76));have hlt9:=zkj eH.out;clear hq Hq uz HPW eH;by_cases hk1:vk=qk
    ·have k1:(vk==qk)=true:=by simpa using hk1
     have k2:(vk != qk)=false:=by simpa using hk1
     by_cases hk2:vl=ql
     ·have k3:(vl==ql)=true:=by simpa using hk2
      have k4:(vl != ql)=false:=by simpa using hk2
      have bN:=zh (show R=0 by rw[HR4.out,if_pos ⟨hk1,hk2⟩]);clear hk1 hk2;go_wp2_with fail;go_ret;exact⟨by rw[bN.out];rfl,aW.out⟩
     ·have k3:(vl==ql)=false:=by simpa using hk2
      have k4:(vl != ql)=true:=by simpa using hk2
      have bN:=zh (show R=7 by rw[HR4.out,if_neg (fun h=>hk2 h.2)]);clear hk1 hk2;go_wp2_with fail;go_ret;exact⟨by rw[bN.out];rfl,aW.out⟩
    ·have k1:(vk==qk)=false:=by simpa using hk1
     have k2:(vk != qk)=true:=by simpa using hk1
     have bN:=zh (show R=7 by rw[HR4.out,if_neg (fun h=>hk1 h.1)]);clear hk1;go_wp2_with fail;go_ret;exact⟨by rw[bN.out];rfl,aW.out⟩
   ·have g1:(tl==rl)=false:=by simpa using hq
    have g2:(tl != rl)=true:=by simpa using hq
    have g3:((tl:Int)==(rl:Int))=false:=by simp;omega
    have g4:((tl:Int) != (rl:Int))=true:=by simp;omega
    have bN:=zh (show R=0 by rw[HR3.out,if_neg hq]);clear hq;go_wp2_with fail;go_ret;exact⟨by rw[bN.out];rfl,HB.out.drew⟩
theorem RowV.news {w:World} {S:Nat->Prop} {a:Addr}:∀ {vs:List VD},RowV w S (some a) vs->∃ news:List Value,news.length=vs.length*3/\(∀ j u,news[j]?=some u->w.cell? (a.add j)=some u)/\(∀ u∈news,u.oneCell'=true) /\
  ∀ i (hi:i<vs.length),news[i*3]?=some (.string vs[i].s)/\news[i*3+1]?=some (.int .u8 vs[i].k)/\news[i*3+2]?=some (.int .i64 vs[i].n):=by
 intro vs
 induction vs generalizing a with
 | nil=>exact fun _=>⟨[],rfl,fun j u h=>by simp at h,fun u h=>by simp at h,fun i hi=>absurd hi (by simp)⟩
 | cons t us ih =>
  intro h;obtain⟨a',e,hS,hc,_⟩:=h 0 (by simp);injection e with e;subst e;obtain⟨news,hl,hcell,h1,hns⟩:=ih (a:=a.add 3) (fun i hi=>by
   obtain⟨a'',e,hS',hc,hf⟩:=h (i+1) (by simpa using hi);injection e with e;subst e;refine⟨_,rfl,by rw[zko];exact hS',?_,by simpa using hf⟩;rw[zsU,show 3+i*3=(i+1)*3 by omega];simpa using hc)
  obtain⟨c0,c1,c2⟩:=hc;simp only[Nat.zero_mul] at c0 c1 c2;refine⟨.string t.s :: .int .u8 t.k :: .int .i64 t.n::news,by simp[hl];omega,fun j u hj=>?_,fun u hu=>?_,fun i hi=>?_⟩
  ·rcases j with _|_|_|j
   ·simp at hj;subst hj;exact c0
   ·simp at hj;subst hj;exact c1
   ·simp at hj;subst hj;exact c2
   ·have:=hcell j u (by simpa using hj);rw[zsU] at this;rw[show j+1+1+1=3+j by omega];exact this
  ·simp only[List.mem_cons] at hu;rcases hu with rfl|rfl|rfl|hu
   ·rfl
   ·rfl
   ·rfl
   ·exact h1 u hu
  ·rcases i with _|i
   ·exact⟨rfl,rfl,rfl⟩
   ·obtain⟨e0,e1,e2⟩:=hns i (by simpa using hi);refine⟨?_,?_,?_⟩
    ·rw[show(i+1)*3=i*3+1+1+1 by omega];simpa using e0
    ·rw[show(i+1)*3+1=i*3+1+1+1+1 by omega];simpa using e1
    ·rw[show(i+1)*3+2=i*3+2+1+1+1 by omega];simpa using e2
end Go.Proofs.YtghbhbdnkjjnnaaGreat
