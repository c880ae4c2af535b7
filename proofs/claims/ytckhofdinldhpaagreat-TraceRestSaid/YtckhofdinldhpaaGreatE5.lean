/-
  Texts of the proof, put together without their remarks: Id, It, Lim, Val, Scp, Ik, Im, Iz, ScA, ClW, ScC, Clone, Wk, ScR.
-/
import Derived.Test.YtckhofdinldhpaaGreatE4
import Derived.ArgAppend
set_option linter.unusedSimpArgs false
set_option linter.unusedVariables false
set_option maxHeartbeats 8000000
set_option maxRecDepth 100000
namespace Go.Proofs.YtckhofdinldhpaaGreat
open Go Go.RowKit
theorem zvx:IsFn Tryz.prog 20 Tryz.f20:=⟨Tryz.func20,by kernel_rfl,by kernel_rfl⟩
theorem zue:IsFn Tryz.prog 19 Tryz.f19:=⟨Tryz.func19,by kernel_rfl,by kernel_rfl⟩
def basO (F:Int) (back:Bool) (t:T) (r:RS):Out:=(zk5 F r).bind fun r=>zkK r (if back=true then zls r.S t else doE r.S t)
theorem zsw {C:RC} (hC:C.Ok) {W:World} {r:RS} (h:RI C W r) (t:T) (v:Value) (back:Bool) (hv:NV C.w Any t v) (hk:t.k≠52/\t.k≠53/\t.k≠54/\t.k≠55/\t.k≠50/\t.k≠51) :
  Calls Tryz.prog 157 #[.pointer (some ⟨C.rb,0,none⟩),v,.bool back] W (RunP C W (basO C.F back t r)):=by
 have HV:=zh hv;have H:=zh h;obtain⟨A,c,rfl,-,hlk,hlc,-⟩:=hv.open_;have e0:(t.k==52)=false:=by simpa using hk.1
 have e1:(t.k==53)=false:=by simpa using hk.2.1
 have e2:(t.k==54)=false:=by simpa using hk.2.2.1
 have e3:(t.k==55)=false:=by simpa using hk.2.2.2.1
 have e4:(t.k==50)=false:=by simpa using hk.2.2.2.2.1
 have e5:(t.k==51)=false:=by simpa using hk.2.2.2.2.2
 have hb0:=zkd (Below.refl W.heap.size W) (.cells #[.int .u8 t.k,.int .i64 t.n,.string t.s,.slice A t.ks.length c] 29);obtain⟨dm,h1⟩:=h.plus hC hb0;have k0:=heap_alloc_new W (.cells #[.int .u8 t.k,.int .i64 t.n,.string t.s,.slice A t.ks.length c] 29);obtain⟨x0,x1,x2,x3⟩:=box4 k0;have qJ:=zh (Kpt.of_below (n0:=C.n0) (kb:=C.kb) hb0);obtain⟨w3,hw3⟩:∃ x,W.alloc (.cells #[.int .u8 t.k,.int .i64 t.n,.string t.s,.slice A t.ks.length c] 29)=x:=⟨_,rfl⟩
 rw[hw3] at dm h1 k0 x0 x1 x2 x3 qJ;have l0:=zko k0;have K0:=zh k0;obtain⟨hi,hhi⟩:∃ x,w3.heap.size=x:=⟨_,rfl⟩
 rw[hhi] at dm h1 l0;have HHO:=zh (zsx dm h1);obtain⟨o,ho⟩:∃ o,basO C.F back t r=o:=⟨_,rfl⟩
 have rX:=zh ho;have HO:=zh (show(zk5 C.F r).bind (fun r=>zkK r (if back=true then zls r.S t else doE r.S t))=o from ho);rw[ho];clear hv hb0 dm h1 k0 h hk ho;go_enter Tryz.func157,Tryz.ntmps157;go_wp2_with fail;refine HHO.out.mono ?_;rintro e w4 ⟨hk4,hb4,gP⟩;have kR:=zh (qJ.out.trans (Kpt.less (C:=C) hk4));have az:=zh (show Below C.w.heap.size C.w w4 from hb4);have kW:match zk5 C.F r with
  | .gas=>True
  | .err x=>e=zpt x
  | .ok r=>(∃ u,e=.returned u)/\RI (C.plus W.heap.size hi) w4 r:=gP
 have pE:=zh hk4;clear x0 x1 x2 x3 HHO hk4 hb4 gP hw3
 cases hy:zk5 C.F r with
 | gas=>exact absurd hy (zkW _ _).1
 | err x =>
  rw[hy] at kW;subst kW;refine⟨rfl,kR.out,az.out,?_⟩
  try rw[rX.out]
  rw[<-HO.out,hy];rfl
 | ok r1 =>
  rw[hy] at kW;obtain⟨⟨u3,rfl⟩,hr1⟩:=kW;have HR4:=zh hr1;have lW:=zh (show zkK r1 (if back=true then zls r1.S t else doE r1.S t)=o by rw[<-HO.out,hy];rfl);have uk:=zh (show FB r.n r1.S/\r1.n=r.n+1 by obtain⟨rfl,-⟩:=zkV hy;exact⟨H.out.fb,rfl⟩);have j0:=pE.out.blk (.inr (.inr ⟨Nat.le_refl _,l0⟩)) K0.out;have hSS:(fun w':World=>w'.cell? ⟨C.rb,6,none⟩=some (.pointer (some ⟨C.sb,0,none⟩))/\w'.cell? ⟨W.heap.size,0,none⟩=some (.int .u8 t.k)/\w'.cell? ⟨W.heap.size,1,none⟩=some (.int .i64 t.n)/\w'.cell? ⟨W.heap.size,2,none⟩=some (.string t.s)/\w'.cell? ⟨W.heap.size,3,none⟩=some (.slice A t.ks.length c)) w4.drew/\(fun _:World=>True) w4.drew:=⟨⟨hr1.cells.1,zc j0 rfl,zc j0 rfl,zc j0 rfl,zc j0 rfl⟩,trivial⟩
  clear hr1 hy j0
  cases back
  ·skip
   go_upto_region 5 with fail;refine zke (fun w':World=>w'.cell? ⟨C.rb,6,none⟩=some (.pointer (some ⟨C.sb,0,none⟩))/\w'.cell? ⟨W.heap.size,0,none⟩=some (.int .u8 t.k)/\w'.cell? ⟨W.heap.size,1,none⟩=some (.int .i64 t.n)/\w'.cell? ⟨W.heap.size,2,none⟩=some (.string t.s)/\w'.cell? ⟨W.heap.size,3,none⟩=some (.slice A t.ks.length c)) (fun _:World=>True) 7 (by kernel_rfl) ?_;refine zT 0 hSS ?_;(try simp only[zQ]);refine zT 1 hSS ?_;(try simp only[zQ]);refine zT 2 hSS ?_;(try simp only[zQ]);refine zT 3 hSS ?_;(try simp only[zQ]);refine zT 4 hSS ?_;(try simp only[zQ]);refine zT 5 hSS ?_;(try simp only[zQ]);obtain⟨R,hR⟩:∃ R,doE r1.S t=R:=⟨_,rfl⟩
   have fq:=zh (show zkK r1 R=o by rw[<-hR];exact lW.out);have hbd:Below w4.heap.size w4 w4.drew:=(Below.refl _ _).drew;have had:Calls Tryz.prog 20 [.pointer (some ⟨C.sb,0,none⟩),.agg #[.int .u8 t.k,.int .i64 t.n,.string t.s,.slice A t.ks.length c]].toArray w4.drew fun e w'=>∃ v,e=.returned v/\(v=.int .i64 R.1/\RI (C.plus W.heap.size hi) w' { r1 with S:=R.2 }/\Kpt C.n0 (C.plus W.heap.size hi).kb w4 w') :=
    ((HR4.out.later hbd).ks.do_ t _ (HV.out.later (zka az.out hbd))).mono fun e w' ⟨h1,h2,h3⟩=>by
     have hs:=RI.store (C:=C.plus W.heap.size hi) (HR4.out.later hbd) h2 h3 (by rw[uk.out.2];exact uk.out.1.do_ _);rw[hR] at h1 hs;exact⟨_,h1,rfl,hs.1,(Kpt.of_below hbd).trans hs.2⟩
   refine zo 6 fun K hK=>?_;refine zkQ (by rfl) (.func 20) [.tmp 23,.tmp 24] _ (by rfl) 20 _ zvx (by rfl) _ (by rfl) _ had ?_;rintro v6 w6 ⟨rfl,iW,bz⟩;have lY:=zh (kR.out.trans (Kpt.less (C:=C) bz));have j0:=(pE.out.trans bz).blk (.inr (.inr ⟨Nat.le_refl _,l0⟩)) K0.out;have aH:(fun w':World=>w'.cell? ⟨C.rb,6,none⟩=some (.pointer (some ⟨C.sb,0,none⟩))/\w'.cell? ⟨W.heap.size,0,none⟩=some (.int .u8 t.k)/\w'.cell? ⟨W.heap.size,1,none⟩=some (.int .i64 t.n)/\w'.cell? ⟨W.heap.size,2,none⟩=some (.string t.s)/\w'.cell? ⟨W.heap.size,3,none⟩=some (.slice A t.ks.length c)) w6:=⟨iW.cells.1,zc j0 rfl,zc j0 rfl,zc j0 rfl,zc j0 rfl⟩
   have oP:=zh iW.less;have dD:=zh iW.below;refine hK.out _ _ ⟨aH,trivial⟩ ?_;have rT:=zh aH;clear hK K had iW bz j0 aH hSS;(try simp only[zQ]);have had:=zo3 ⟨C.rb,0,none⟩ R.1 w6;refine zp 7 fun K hK=>?_;refine znY (by rfl) (.func 197) [.tmp 19,.tmp 25] _ (by rfl) 197 _ zp2 (by rfl) _ (by rfl) (fun v w'=>w'=w6/\R.1=0) (had.mono ?_) ?_
   ·rintro e y1 ⟨rfl,hv1⟩;rcases hv1 with⟨h0,u0,rfl⟩|⟨h0,rfl⟩
    ·exact .inl ⟨_,rfl,rfl,h0⟩
    ·refine .inr ⟨_,rfl,?_⟩;refine⟨rfl,lY.out,dD.out,?_⟩
     try rw[rX.out]
     rw[<-fq.out,show zkK r1 R=.err R.1 by unfold zkK;rw[if_pos h0]]
   rintro v12 fJ ⟨rfl,h0⟩;have o5:=zh (show o=.ok { r1 with S:=R.2 } by rw[<-fq.out];unfold zkK;rw[if_neg (by simpa using h0)]);refine hK.out _ _ rT.out ?_;clear hK K had h0;(try simp only[zQ]);refine zd ?_;go_wp2_with fail;go_end0;refine⟨lY.out,dD.out,?_⟩
   try rw[rX.out]
   rw[o5.out];exact⟨⟨_,rfl⟩,oP.out⟩
  ·skip
   go_upto_region 4 with fail;refine zke (fun w':World=>w'.cell? ⟨C.rb,6,none⟩=some (.pointer (some ⟨C.sb,0,none⟩))/\w'.cell? ⟨W.heap.size,0,none⟩=some (.int .u8 t.k)/\w'.cell? ⟨W.heap.size,1,none⟩=some (.int .i64 t.n)/\w'.cell? ⟨W.heap.size,2,none⟩=some (.string t.s)/\w'.cell? ⟨W.heap.size,3,none⟩=some (.slice A t.ks.length c)) (fun _:World=>True) 7 (by kernel_rfl) ?_;refine zT 0 hSS ?_;(try simp only[zQ]);refine zT 1 hSS ?_;(try simp only[zQ]);refine zT 2 hSS ?_;(try simp only[zQ]);refine zT 3 hSS ?_;(try simp only[zQ]);refine zT 4 hSS ?_;(try simp only[zQ]);refine zT 5 hSS ?_;(try simp only[zQ]);obtain⟨R,hR⟩:∃ R,zls r1.S t=R:=⟨_,rfl⟩
   have fq:=zh (show zkK r1 R=o by rw[<-hR];exact lW.out);have hbd:Below w4.heap.size w4 w4.drew:=(Below.refl _ _).drew;have had:Calls Tryz.prog 19 [.pointer (some ⟨C.sb,0,none⟩),.agg #[.int .u8 t.k,.int .i64 t.n,.string t.s,.slice A t.ks.length c]].toArray w4.drew fun e w'=>∃ v,e=.returned v/\(v=.int .i64 R.1/\RI (C.plus W.heap.size hi) w' { r1 with S:=R.2 }/\Kpt C.n0 (C.plus W.heap.size hi).kb w4 w') :=
    ((HR4.out.later hbd).ks.undo t _ (HV.out.later (zka az.out hbd))).mono fun e w' ⟨h1,h2,h3⟩=>by
     have hs:=RI.store (C:=C.plus W.heap.size hi) (HR4.out.later hbd) h2 h3 (by rw[uk.out.2];exact uk.out.1.undo _);rw[hR] at h1 hs;exact⟨_,h1,rfl,hs.1,(Kpt.of_below hbd).trans hs.2⟩
   refine zo 6 fun K hK=>?_;refine zkQ (by rfl) (.func 19) [.tmp 15,.tmp 16] _ (by rfl) 19 _ zue (by rfl) _ (by rfl) _ had ?_;rintro v6 w6 ⟨rfl,iW,bz⟩;have lY:=zh (kR.out.trans (Kpt.less (C:=C) bz));have j0:=(pE.out.trans bz).blk (.inr (.inr ⟨Nat.le_refl _,l0⟩)) K0.out;have aH:(fun w':World=>w'.cell? ⟨C.rb,6,none⟩=some (.pointer (some ⟨C.sb,0,none⟩))/\w'.cell? ⟨W.heap.size,0,none⟩=some (.int .u8 t.k)/\w'.cell? ⟨W.heap.size,1,none⟩=some (.int .i64 t.n)/\w'.cell? ⟨W.heap.size,2,none⟩=some (.string t.s)/\w'.cell? ⟨W.heap.size,3,none⟩=some (.slice A t.ks.length c)) w6:=⟨iW.cells.1,zc j0 rfl,zc j0 rfl,zc j0 rfl,zc j0 rfl⟩
   have oP:=zh iW.less;have dD:=zh iW.below;refine hK.out _ _ ⟨aH,trivial⟩ ?_;have rT:=zh aH;clear hK K had iW bz j0 aH hSS;(try simp only[zQ]);have had:=zo3 ⟨C.rb,0,none⟩ R.1 w6;refine zp 7 fun K hK=>?_;refine znY (by rfl) (.func 197) [.tmp 11,.tmp 17] _ (by rfl) 197 _ zp2 (by rfl) _ (by rfl) (fun v w'=>w'=w6/\R.1=0) (had.mono ?_) ?_
   ·rintro e y1 ⟨rfl,hv1⟩;rcases hv1 with⟨h0,u0,rfl⟩|⟨h0,rfl⟩
    ·exact .inl ⟨_,rfl,rfl,h0⟩
    ·refine .inr ⟨_,rfl,?_⟩;refine⟨rfl,lY.out,dD.out,?_⟩
     try rw[rX.out]
     rw[<-fq.out,show zkK r1 R=.err R.1 by unfold zkK;rw[if_pos h0]]
   rintro v12 fJ ⟨rfl,h0⟩;have o5:=zh (show o=.ok { r1 with S:=R.2 } by rw[<-fq.out];unfold zkK;rw[if_neg (by simpa using h0)]);refine hK.out _ _ rT.out ?_;clear hK K had h0;(try simp only[zQ]);refine zd ?_;go_wp2_with fail;go_end0;refine⟨lY.out,dD.out,?_⟩
   try rw[rX.out]
   rw[o5.out];exact⟨⟨_,rfl⟩,oP.out⟩
end Go.Proofs.YtckhofdinldhpaaGreat
namespace Go.Proofs.YtckhofdinldhpaaGreat
open Go.RowKit
mutual
/-- ast.limited: what is left of the count,or none. -/
def lim:T->Nat->Nat->Option Nat
 | .nd _ _ _ ks,d,l=>if d=0\/l=0 then none else lims ks (d-1) (l-1)
def lims:List T->Nat->Nat->Option Nat
 | [],_,l=>some l
 | t::ts,d,l=>match lim t d l with
  | none=>none
  | some l'=>lims ts d l'
end
theorem znx (ts us:List T) (d:Nat):∀ l,lims (ts++us) d l=(lims ts d l).bind fun r=>lims us d r:=by
 induction ts with
 | nil=>intro l;simp[lims]
 | cons t ts ih =>
  intro l;simp only[List.cons_append,lims]
  cases lim t d l with
  | none=>rfl
  | some r=>exact ih r
theorem zsM (t:T) (d l:Nat):lims [t] d l=lim t d l:=by
 simp only[lims]
 cases lim t d l<;>rfl
theorem zrs {ks:List T} {d l r j:Nat} (hj:j<ks.length) (h:lims (ks.take j) d l=some r):lims (ks.take (j+1)) d l=lim ks[j] d r:=by
 rw[List.take_succ_eq_append_getElem hj,znx,h];exact zsM _ _ _
theorem zrt {ks:List T} {d l j:Nat} (h:lims (ks.take j) d l=none):lims ks d l=none:=by
 rw[<-List.take_append_drop j ks,znx,h];rfl
theorem zuM (t:T):∀ d l r,lim t d l=some r->r<=l:=by
 induction t using T.ind with
 | _ k n s ks ih =>
 intro d l r h;rw[lim] at h
 split at h
 ·cases h
 ·have key:∀ (us:List T),(∀ t∈us,∀ d l r,lim t d l=some r->r<=l)->∀ l r d,lims us d l=some r->r<=l:=by
   intro us
   induction us with
   | nil=>intro _ l r d h;simp[lims] at h;omega
   | cons t us ih2 =>
    intro hu l r d h;simp only[lims] at h
    cases h1:lim t d l with
    | none=>rw[h1] at h;cases h
    | some r1 =>
     rw[h1] at h;have:=hu t (by simp) d l r1 h1;have:=ih2 (fun t ht=>hu t (by simp[ht])) r1 r d h;omega
  have:=key ks ih _ _ _ h;omega
def LimE (w:World) (b:Nat) (o:Option Nat) (e:Ending) (w':World):Prop :=
 e=.returned (.bool o.isSome)/\∃ l':Nat,w'.heap[b]?=some (.cells #[.int .i64 (l':Int)] 3 (0,0))/\(∀ r,o=some r->l'=r)/\w.grownBy w' (some b)
theorem zmx {a b c:World} {row:Option Nat} (h1:a.grownBy b row) (h2:b.grownBy c row):a.grownBy c row :=
 ⟨h2.os.trans h1.os,h2.tape.trans h1.tape,h2.output.trans h1.output,Nat.le_trans h1.size h2.size,fun i hi hne=>(h2.block i (Nat.lt_of_lt_of_le hi h1.size) hne).trans (h1.block i hi hne)⟩
theorem zlS {w:World} (o:Obj) (row:Option Nat):w.grownBy (w.alloc o) row :=
 let h:=(Below.refl w.heap.size w).alloc (Nat.le_refl _) o
 ⟨h.os,h.tape,h.output,h.size,fun b hb _=>h.block b hb⟩
theorem zmc.grown {w w':World} {S:Nat->Prop} {A:Option Addr} {ts:List T} {b:Nat} (h:zmc w S A ts) (hg:w.grownBy w' (some b)) (hb:¬ S b):zmc w' S A ts :=
 h.keep (fun _ h _=>h) fun i hi hlt=>hg.block i hlt fun e=>by injection e with e;subst e;exact hb hi
theorem zpp (t:T):∀ (d l:Nat) (S:Nat->Prop) (v:Value) (w:World) (b:Nat),NV w S t v->¬ S b->d<=80->l<=2000->w.heap[b]?=some (.cells #[.int .i64 (l:Int)] 3 (0,0)) ->
  Calls Tryz.prog 90 #[v,.int .i64 (d:Int),.pointer (some ⟨b,0,none⟩)] w (LimE w b (lim t d l)):=by
 induction t using T.ind with
 | _ k n s ks ih =>
 intro d l S v w b hv hSb hd hl hbx;obtain⟨A,c,rfl,hf,hlk,hlc,hrow⟩:=hv.open_;simp only[T.k_nd,T.n_nd,T.s_nd,T.ks_nd] at *
 have av:=zkA hlk;have IH:=zh ih;have ag:=zh hrow;have iK:=zh hSb;have ax:=zh hbx;have hbl:=zko hbx;have c0:=zkj (zc (i:=0) (u:=.int .i64 (l:Int)) hbx rfl);have f0:∀ o:Obj,(w.alloc o).frozen? ⟨b,0,none⟩=false:=fun o=>by
  have:(w.alloc o).heap[b]?=some (.cells #[.int .i64 (l:Int)] 3 (0,0)):=(Below.heap_alloc w o b hbl).trans hbx;exact zf this
 clear hv ih hrow hSb hf hlk hbx;have hne:¬ b=w.heap.size:=by omega
 have hne':¬ w.heap.size=b:=by omega
 by_cases hd0:d=0
 ·subst hd0;have HX:=zh (show lim (.nd k n s ks) 0 l=none by rw[lim];simp);go_enter Tryz.func90,Tryz.ntmps90;go_wp2_with fail;go_ret;rw[HX.out];exact⟨rfl,l,(Below.heap_alloc w _ b hbl).trans ax.out,(fun r h=>by cases h),zlS _ _⟩
 by_cases hl0:l=0
 ·subst hl0;have HX:=zh (show lim (.nd k n s ks) d 0=none by rw[lim];simp);have fd:((d:Int)==0)=false:=by simpa using hd0
  go_enter Tryz.func90,Tryz.ntmps90;go_wp2_with fail;go_ret;rw[HX.out];exact⟨rfl,0,(Below.heap_alloc w _ b hbl).trans ax.out,(fun r h=>by cases h),zlS _ _⟩
 obtain⟨d',rfl⟩:∃ d',d=d'+1:=⟨d-1,by omega⟩
 obtain⟨l',rfl⟩:∃ l',l=l'+1:=⟨l-1,by omega⟩
 have HX:=zh (show lim (.nd k n s ks) (d'+1) (l'+1)=lims ks d' l' by rw[lim,if_neg (by omega)];simp);rw[show((d'+1:Nat):Int)=(d':Int)+1 from rfl];have fd:((d':Int)+1==0)=false:=by simp;omega
 have fl:((l':Int)+1==0)=false:=by simp;omega
 clear hd0 hl0;have hb1:(w.setCell ⟨b,0,none⟩ (.int .i64 (l':Int))).heap[b]?=some (.cells #[.int .i64 (l':Int)] 3 (0,0)):=by
  have h1:=heap_setCell_same w b 0 _ 3 (.int .i64 (l':Int)) ax.out;simpa using h1
 have hz1:(w.setCell ⟨b,0,none⟩ (.int .i64 (l':Int))).heap.size=w.heap.size:=by simp[World.setCell]
 obtain⟨W0,hW0⟩:∃ W0,(w.setCell ⟨b,0,none⟩ (.int .i64 (l':Int))).alloc (.cells #[.int .u8 k,.int .i64 n,.string s,.slice A ks.length c] 29)=W0:=⟨_,rfl⟩
 have H0:W0.heap[b]?=some (.cells #[.int .i64 (l':Int)] 3 (0,0)):=by
  rw[<-hW0,Below.heap_alloc _ _ b (by rw[hz1];exact hbl)];exact hb1
 have A0:W0.heap[w.heap.size]?=some (.cells #[.int .u8 k,.int .i64 n,.string s,.slice A ks.length c] 29 (0,0)):=by
  rw[<-hW0,<-hz1];exact heap_alloc_new _ _
 have G0:w.grownBy W0 (some b):=by
  rw[<-hW0];refine zmx (zsI (zmF w (some b)) (p:=⟨b,0,none⟩) rfl _) (zlS _ _)
 have HH:=zh (And.intro H0 (And.intro A0 G0));have HW0:=zh hW0;clear H0 G0 A0 hb1 hz1 hW0;go_enter Tryz.func90,Tryz.ntmps90;go_wp2_with fail;rw[HW0.out];clear c0 f0
 go_loopw [25] (fun i wr=>∃ (j lc:Nat),j<=ks.length/\i=.int .i64 j/\lc<=2000/\Hid (lims (ks.take j) d' l'=some lc)/\wr.heap[b]?=some (.cells #[.int .i64 (lc:Int)] 3 (0,0))/\wr.heap[w.heap.size]?=some (.cells #[.int .u8 k,.int .i64 n,.string s,.slice A ks.length c] 29 (0,0))/\w.grownBy wr (some b)) (fun i _=>ks.length-(intOf i).toNat)
 case atStart=>exact⟨0,l',Nat.zero_le _,rfl,by omega,zh (by simp[lims]),HH.out.1,HH.out.2.1,HH.out.2.2⟩
 case round =>
  obtain⟨j,lc,hj,rfl,kZ,HLI,hbx,hax,hg⟩:=hrel;clear HH HW0;by_cases hlt:j<ks.length
  ·obtain⟨a,t,A1,c1,rfl,_,Ht,⟨q0,q1,q2,q3⟩,hn⟩:=(ag.out.grown hg iK.out).nd hlt;have hI:=IH.out ks[j] (List.getElem_mem hlt);rw[Ht.out] at hI;have lC:=zko hbx;have hal:∀ o:Obj,(wr.alloc o).heap[b]?=some (.cells #[.int .i64 (lc:Int)] 3 (0,0)):=fun o=>(Below.heap_alloc wr o b lC).trans hbx;have HI1:=zh (hI d' lc S _ (wr.alloc (.cells #[.int .u8 t.k,.int .i64 t.n,.string t.s,.slice A1 t.ks.length c1] 29)) b (hn.later ((Below.refl _ _).alloc (Nat.le_refl _) _)) iK.out (by omega) kZ (hal _));have HT:=zh (show lims (ks.take (j+1)) d' l'=lim t d' lc by rw[zrs hlt HLI.out,Ht.out]);have HG:=zh (zmx hg (zlS (.cells #[.int .u8 t.k,.int .i64 t.n,.string t.s,.slice A1 t.ks.length c1] 29) _))
   have HAX:=zh (show ∀ o:Obj,(wr.alloc o).heap[w.heap.size]?=some (.cells #[.int .u8 k,.int .i64 n,.string s,.slice (some a) ks.length c] 29 (0,0)) from fun o=>(Below.heap_alloc wr o _ (zko hax)).trans hax);clear hI hn hbx hax hal;go_wp2_with fail;refine HI1.out.mono ?_;rintro e w1 ⟨rfl,l1,hb1,hl1,hg1⟩;have HG1:=zh (zmx HG.out hg1);have HA1:=zh ((hg1.block _ (zko (HAX.out _)) (fun e=>hne' (by injection e))).trans (HAX.out _));have HB1:=zh hb1;clear hb1 hg1
   cases ho:lim t d' lc with
   | none =>
    have bN:=zh (show lims ks d' l'=none from zrt (j:=j+1) (by rw[HT.out,ho]));go_wp2_with fail;go_ret;rw[HX.out,bN.out];exact⟨rfl,l1,HB1.out,(fun r h=>by cases h),HG1.out⟩
   | some r =>
    have hr1:=hl1 r ho;subst hr1;have hle:l1<=2000:=by have:=zuM t d' lc l1 ho;omega
    have HT2:=zh (show lims (ks.take (j+1)) d' l'=some l1 by rw[HT.out,ho]);clear hl1 ho;go_wp2_with fail
    go_roundw
    case rel=>exact⟨j+1,l1,by omega,by go_num,hle,HT2,HB1.out,HA1.out,HG1.out⟩
    case measure=>simp[intOf];omega
  ·obtain rfl:j=ks.length:=by omega
   have HL2:=zh (show lims ks d' l'=some lc by have:=HLI.out;rw[List.take_of_length_le (by omega)] at this;exact this);go_wp2_with fail;go_ret;rw[HX.out,HL2.out];exact⟨rfl,lc,hbx,(fun r h=>by cases h;rfl),hg⟩
def zlk (t:T):Bool:=(lim t 80 2000).isSome&&isB t
theorem zn6 (t:T) (v:Value) (w:World) (hv:NV w Any t v):Calls Tryz.prog 52 #[v] w fun e w'=>e=.returned (.bool (zlk t))/\Below w.heap.size w w':=by
 have HV:=zh hv;have HX:=zh (show zlk t=((lim t 80 2000).isSome&&isB t) from rfl);obtain⟨A,c,rfl,hf,hlk,hlc,hrow⟩:=hv.open_;clear hf hlk hrow hv hlc;generalize t.k=k,t.n=n,t.s=s,t.ks.length=l at *
 have tN:=zh (show NV w (fun b=>b<w.heap.size) t (nv k n s A l c) from HV.out.keep (fun _ _ h=>h) fun _ _ _=>rfl);have hb2:∀ o o',Below w.heap.size w ((w.alloc o).alloc o'):=fun o o'=>((Below.refl _ _).alloc (Nat.le_refl _) _).alloc (by simp) _;have HB2:=zh hb2;have ax:=zh (show ∀ o:Obj,((w.alloc o).alloc (.cells #[.int .i64 2000] 3)).heap[w.heap.size+1]?=some (.cells #[.int .i64 ((2000:Nat):Int)] 3 (0,0)) from fun o=>by
  have:=heap_alloc_new (w.alloc o) (.cells #[.int .i64 2000] 3);simpa using this)
 clear hb2;go_enter Tryz.func52,Tryz.ntmps52;go_wp2_with fail;refine(zpp t 80 2000 (fun b=>b<w.heap.size) _ _ (w.heap.size+1) (tN.out.later (HB2.out _ _)) (fun h=>by have h':w.heap.size+1<w.heap.size:=h;omega) (by omega) (by omega) (ax.out _)).mono ?_;rintro e w1 ⟨rfl,l1,hb1,_,hg1⟩;have q1:Below w.heap.size w w1:=by
  refine(HB2.out (.cells #[.int .u8 k,.int .i64 n,.string s,.slice A l c] 29) (.cells #[.int .i64 2000] 3)).grown hg1 (by simp;omega) ?_;intro g e;injection e with e;omega
 have hc:∀ i,w1.cell? ⟨w.heap.size,i,none⟩=((w.alloc (.cells #[.int .u8 k,.int .i64 n,.string s,.slice A l c] 29)).alloc (.cells #[.int .i64 2000] 3)).cell? ⟨w.heap.size,i,none⟩:=fun i =>
  World.cell?_of_block (a:=⟨w.heap.size,i,none⟩) (hg1.block _ (by simp;omega) (fun e=>by simp at e))
 have x0:w1.cell? ⟨w.heap.size,0,none⟩=some (.int .u8 k):=(hc 0).trans (by simp);have x1:w1.cell? ⟨w.heap.size,1,none⟩=some (.int .i64 n):=(hc 1).trans (by simp);have x2:w1.cell? ⟨w.heap.size,2,none⟩=some (.string s):=(hc 2).trans (by simp);have x3:w1.cell? ⟨w.heap.size,3,none⟩=some (.slice A l c):=(hc 3).trans (by simp);have jc:=HX.out;clear hc hg1 hb1
 cases ho:(lim t 80 2000).isSome
 ·rw[ho] at jc;go_wp2_with fail;go_ret;exact⟨by rw[jc];rfl,q1⟩
 ·rw[ho] at jc;have bN:=zh jc;clear jc;go_wp2_with fail;refine(zpG t _ _ (HV.out.later q1)).mono ?_;rintro e w2 ⟨rfl,aj⟩;go_wp2_with fail;go_ret;exact⟨by rw[bN.out];simp,q1.trans (aj.mono q1.size)⟩
def zl1 (v:VD):Bool:=zlZ v.s&&(if v.k=1\/v.k=3 then v.n==0 else if v.k=2 then decide (1<=v.n/\v.n<=16) else false)
theorem ztj {vs:List VD} {f:VD->Bool} {j:Nat} (hj:j<vs.length) (h:(vs.take j).all f=true):(vs.take (j+1)).all f=f vs[j]:=by
 rw[List.take_succ_eq_append_getElem hj,List.all_append,h];simp
theorem ztk {vs:List VD} {f:VD->Bool} {j:Nat} (hj:j<vs.length) (h:f vs[j]=false):vs.all f=false:=by
 simp only[List.all_eq_false];exact⟨vs[j],List.getElem_mem hj,by simp[h]⟩
theorem zm2 (vs:List VD) (A:Option Addr) (c:Nat) (S:Nat->Prop) (w:World) (hrow:RowV w S A vs) (hl:vs.length<=LV) (_hlc:vs.length<=c) :
  Calls Tryz.prog 50 #[.slice A vs.length c] w fun e w'=>e=.returned (.bool (vs.all zl1))/\Below w.heap.size w w':=by
 have hl':=zli hl;have ag:=zh hrow;clear hrow hl;go_enter Tryz.func50,Tryz.ntmps50;go_wp2_with fail
 go_loopw [7] (fun i wr=>∃ j:Nat,j<=vs.length/\i=.int .i64 j/\Below w.heap.size w wr/\Hid ((vs.take j).all zl1=true)) (fun i _=>vs.length-(intOf i).toNat)
 case atStart=>exact⟨0,Nat.zero_le _,rfl,Below.refl _ _,zh (by simp)⟩
 case round =>
  obtain⟨j,hj,rfl,hb,HA⟩:=hrel;by_cases hlt:j<vs.length
  ·obtain⟨a,v,rfl,_,Hv,⟨q0,q1,q2⟩,hf⟩:=(ag.out.later hb).nd hlt;have HT:=zh (show(vs.take (j+1)).all zl1=zl1 v by rw[ztj hlt HA.out,Hv.out]);have HN:=zh (show zl1 v=false->vs.all zl1=false from fun h=>ztk hlt (by rw[Hv.out];exact h));have HD:=zh (show zl1 v=(zlZ v.s&&(if v.k=1\/v.k=3 then v.n==0 else if v.k=2 then decide (1<=v.n/\v.n<=16) else false)) from rfl);obtain⟨s,hs⟩:∃ s,v.s=s:=⟨_,rfl⟩
   obtain⟨k,hk⟩:∃ k,v.k=k:=⟨_,rfl⟩
   obtain⟨n,hn⟩:∃ n,v.n=n:=⟨_,rfl⟩
   have cK:=HD.out;rw[hs,hk,hn] at cK;rw[hs] at q0;rw[hk] at q1;rw[hn] at q2;clear HD hf hs hk hn;have HD:=zh cK;clear cK;go_wp2_with fail;refine(zoH s _).mono ?_;rintro e w1 ⟨rfl,aa⟩;have q1':Below w.heap.size w w1:=(hb.alloc hb.size _).trans (aa.mono (by have:=hb.size;simp;omega));have x1:w1.cell? ⟨wr.heap.size,1,none⟩=some (.int .u8 k):=zb aa (by simp);have x2:w1.cell? ⟨wr.heap.size,2,none⟩=some (.int .i64 n):=zb aa (by simp);have cK:=HD.out;clear aa
   cases hnm:zlZ s
   ·rw[hnm] at cK;have HR:=zh (HN.out (by rw[cK];rfl));clear cK;go_wp2_with fail;go_ret;exact⟨by rw[HR.out];rfl,q1'⟩
   rw[hnm,Bool.true_and] at cK;by_cases kM:k=1\/k=3
   ·rw[if_pos kM] at cK;by_cases hn0:n=0
    ·subst hn0;have HG:=zh (show(vs.take (j+1)).all zl1=true by rw[HT.out,cK];rfl);clear cK;rcases kM with rfl|rfl
     ·go_wp2_with fail
      go_roundw
      case rel=>exact⟨j+1,by omega,by go_num,q1',HG⟩
      case measure=>simp[intOf];omega
     ·go_wp2_with fail
      go_roundw
      case rel=>exact⟨j+1,by omega,by go_num,q1',HG⟩
      case measure=>simp[intOf];omega
    ·have fn:(n != 0)=true:=by simpa using hn0
     have HR:=zh (HN.out (by rw[cK];simpa using hn0));clear cK;rcases kM with rfl|rfl
     ·go_wp2_with fail;go_ret;exact⟨by rw[HR.out];rfl,q1'⟩
     ·go_wp2_with fail;go_ret;exact⟨by rw[HR.out];rfl,q1'⟩
   ·rw[if_neg kM] at cK;have f1:(k==1)=false:=by simp;omega
    have f3:(k==3)=false:=by simp;omega
    by_cases h2:k=2
    ·subst h2;rw[if_pos rfl] at cK;by_cases hl1:n<1
     ·have HR:=zh (HN.out (by rw[cK];simp;omega));clear cK;go_wp2_with fail;go_ret;exact⟨by rw[HR.out];rfl,q1'⟩
     ·by_cases hg16:16<n
      ·have HR:=zh (HN.out (by rw[cK];simp;omega));have nP:1<=n:=by omega
       clear cK hl1;go_wp2_with fail;go_ret;exact⟨by rw[HR.out];rfl,q1'⟩
      ·have HG:=zh (show(vs.take (j+1)).all zl1=true by rw[HT.out,cK];simp;omega);have nP:1<=n:=by omega
       have hg16':n<=16:=by omega
       clear cK hl1 hg16;go_wp2_with fail
       go_roundw
       case rel=>exact⟨j+1,by omega,by go_num,q1',HG⟩
       case measure=>simp[intOf];omega
    ·rw[if_neg h2] at cK;have f2:(k==2)=false:=by simpa using h2
     have HR:=zh (HN.out cK);clear cK;go_wp2_with fail;go_ret;exact⟨by rw[HR.out];rfl,q1'⟩
  ·obtain rfl:j=vs.length:=by omega
   have HR:=zh (show vs.all zl1=true by have:=HA.out;rw[List.take_of_length_le (by omega)] at this;exact this);go_wp2_with fail;go_ret;exact⟨by rw[HR.out];rfl,hb⟩
def znQ (r:PR):Bool:=zlZ r.s&&decide (r.ps.length<=8)&&r.ps.all zl1&&zlk r.b
def zkX (p:PG):Bool:=decide (p.vs.length<=32)&&decide (p.prs.length<=64)&&p.vs.all zl1&&p.prs.all znQ&&zlk p.m
theorem zri {vs:List PR} {f:PR->Bool} {j:Nat} (hj:j<vs.length) (h:(vs.take j).all f=true):(vs.take (j+1)).all f=f vs[j]:=by
 rw[List.take_succ_eq_append_getElem hj,List.all_append,h];simp
theorem zrj {vs:List PR} {f:PR->Bool} {j:Nat} (hj:j<vs.length) (h:f vs[j]=false):vs.all f=false:=by
 simp only[List.all_eq_false];exact⟨vs[j],List.getElem_mem hj,by simp[h]⟩
theorem zpb (p:PG) (S:Nat->Prop) (v:Value) (w:World) (hv:PV w S p v):Calls Tryz.prog 17 #[v] w fun e w'=>e=.returned (.bool (zkX p))/\Below w.heap.size w w':=by
 obtain⟨A1,c1,A2,c2,A3,c3,rfl,hr⟩:=hv;have HR:=zh hr;have hv1:=zli hr.lv;have hv2:=zli hr.lp;have HX:=zh (show zkX p=(decide (p.vs.length<=32)&&decide (p.prs.length<=64)&&p.vs.all zl1&&p.prs.all znQ&&zlk p.m) from rfl);have kZ:=hr.lpc;obtain⟨L1,hL1⟩:∃ L,p.vs.length=L:=⟨_,rfl⟩
 obtain⟨L2,hL2⟩:∃ L,p.prs.length=L:=⟨_,rfl⟩
 obtain⟨k,hk⟩:∃ k,p.m.k=k:=⟨_,rfl⟩
 obtain⟨n,hn⟩:∃ n,p.m.n=n:=⟨_,rfl⟩
 obtain⟨s,hs⟩:∃ s,p.m.s=s:=⟨_,rfl⟩
 obtain⟨l3,hl3⟩:∃ l,p.m.ks.length=l:=⟨_,rfl⟩
 have o9:=zh hL1;have HL2:=zh hL2;have hm:=hr.main;rw[hk,hn,hs,hl3] at hm;have HM:=zh hm;have hx:=HX.out;rw[hL1,hL2] at hx;rw[hL1] at hv1;rw[hL2] at hv2 kZ;rw[hL1,hL2,hk,hn,hs,hl3];clear hr hm HX hL1 hL2 hk hn hs hl3;have HX:=zh hx;clear hx;have hb0:∀ o,Below w.heap.size w (w.alloc o):=fun o=>(Below.refl _ _).alloc (Nat.le_refl _) _;have HB0:=zh hb0;clear hb0;have pV:=zh (show ∀ w',Below w.heap.size w w'->Calls Tryz.prog 50 #[.slice A1 L1 c1] w' fun e w''=>e=.returned (.bool (p.vs.all zl1))/\Below w'.heap.size w' w'' from fun w' h=>by
  have:=zm2 p.vs A1 c1 S w' (HR.out.vars.later h) HR.out.lv HR.out.lvc;rw[o9.out] at this;exact this)
 by_cases h32:32<L1
 ·have HF:=zh (show zkX p=false by rw[HX.out];simp;intro h;omega);have h32':(32:Int)<(L1:Int):=by omega
  go_enter Tryz.func17,Tryz.ntmps17;go_wp2_with fail;go_ret;exact⟨by rw[HF.out];rfl,HB0.out _⟩
 by_cases h64:64<L2
 ·have HF:=zh (show zkX p=false by rw[HX.out];simp;intro _ h;omega);have h32':(L1:Int)<=32:=by omega
  have h64':(64:Int)<(L2:Int):=by omega
  clear h32;go_enter Tryz.func17,Tryz.ntmps17;go_wp2_with fail;go_ret;exact⟨by rw[HF.out];rfl,HB0.out _⟩
 have h32':(L1:Int)<=32:=by omega
 have h64':(L2:Int)<=64:=by omega
 have hx:=HX.out;have e1:L1<=32:=by omega
 have e2:L2<=64:=by omega
 rw[decide_eq_true e1,decide_eq_true e2] at hx;simp only[Bool.true_and] at hx;clear HX h32 h64 e1 e2;have HX:=zh hx;clear hx;go_enter Tryz.func17,Tryz.ntmps17;go_wp2_with fail;refine(pV.out _ (HB0.out _)).mono ?_;rintro e w1 ⟨rfl,aa⟩;have q1:Below w.heap.size w w1:=(HB0.out _).trans (aa.mono (by simp));have hbx:w1.heap[w.heap.size]?=some (.cells #[.slice A1 L1 c1,.slice A2 L2 c2,.int .u8 k,.int .i64 n,.string s,.slice A3 l3 c3] 35 (0,0)):=(aa.block _ (by simp)).trans (heap_alloc_new w _);have x1:w1.cell? ⟨w.heap.size,1,none⟩=some (.slice A2 L2 c2):=zc hbx rfl;have hx:=HX.out;clear aa pV
 cases hd:p.vs.all zl1
 ·rw[hd] at hx;have HF:=zh (show zkX p=false by rw[hx];rfl);clear hx;go_wp2_with fail;go_ret;exact⟨by rw[HF.out];rfl,q1⟩
 rw[hd,Bool.true_and] at hx;have bN:=zh hx;have ax:=zh hbx;clear hx HX hd hbx;go_wp2_with fail
 go_loopw [24] (fun i wr=>∃ j:Nat,j<=L2/\i=.int .i64 j/\Below w1.heap.size w1 wr/\Hid ((p.prs.take j).all znQ=true)) (fun i _=>L2-(intOf i).toNat)
 case atStart=>exact⟨0,Nat.zero_le _,rfl,Below.refl _ _,zh (by simp)⟩
 case round =>
  obtain⟨j,hj,rfl,hb,HA⟩:=hrel;have hq:Below w.heap.size w wr:=q1.trans (hb.mono q1.size);by_cases hlt:j<L2
  ·have hlt':j<p.prs.length:=by rw[HL2.out];exact hlt
   obtain⟨a,r,B1,d1,B2,d2,rfl,_,Hr,⟨z0,z1,z2,z3,z4,z5⟩,hrr⟩:=(HR.out.procs.later hq).nd hlt';have HRR:=zh hrr;have HT:=zh (show(p.prs.take (j+1)).all znQ=znQ r by rw[zri hlt' HA.out,Hr.out]);have HN:=zh (show znQ r=false->zkX p=false from fun h=>by rw[bN.out,zrj hlt' (by rw[Hr.out];exact h)];rfl);have mR:=zh (show znQ r=(zlZ r.s&&decide (r.ps.length<=8)&&r.ps.all zl1&&zlk r.b) from rfl);have hd1:=zli hrr.lp;clear hrr;have pV:=zh (show ∀ w',Below wr.heap.size wr w'->Calls Tryz.prog 50 #[.slice B1 r.ps.length d1] w' fun e w''=>e=.returned (.bool (r.ps.all zl1))/\Below w'.heap.size w' w'' from fun w' h=>zm2 r.ps B1 d1 S w' (HRR.out.row.later h) HRR.out.lp HRR.out.lc);have dU:=zh (show ∀ w',Below wr.heap.size wr w'->NV w' Any r.b (nv r.b.k r.b.n r.b.s B2 r.b.ks.length d2) from fun w' h=>(HRR.out.body.later h).any)
   obtain⟨rs,hrs⟩:∃ s,r.s=s:=⟨_,rfl⟩
   obtain⟨rl,hrl⟩:∃ l,r.ps.length=l:=⟨_,rfl⟩
   obtain⟨bk,hbk⟩:∃ k,r.b.k=k:=⟨_,rfl⟩
   obtain⟨bn,hbn⟩:∃ k,r.b.n=k:=⟨_,rfl⟩
   obtain⟨bs,hbs⟩:∃ k,r.b.s=k:=⟨_,rfl⟩
   obtain⟨bl,hbl⟩:∃ k,r.b.ks.length=k:=⟨_,rfl⟩
   have hpb:=mR.out;have uQ:=pV.out;have hbd:=dU.out;rw[hrs] at z0 hpb;rw[hrl] at z1 hpb uQ hd1;rw[hbk] at z2 hbd;rw[hbn] at z3 hbd;rw[hbs] at z4 hbd;rw[hbl] at z5 hbd;clear mR pV dU HRR hrs hrl hbk hbn hbs hbl;have mR:=zh hpb;have pV:=zh uQ;have dU:=zh hbd;clear hpb uQ hbd;go_wp2_with fail;refine(zoH rs _).mono ?_;rintro e w2 ⟨rfl,aj⟩;have b2:Below wr.heap.size wr w2:=((Below.refl _ _).alloc (Nat.le_refl _) _).trans (aj.mono (by simp));have hbx:w2.heap[wr.heap.size]?=some (.cells #[.string rs,.slice B1 rl d1,.int .u8 bk,.int .i64 bn,.string bs,.slice B2 bl d2] 103 (0,0)):=(aj.block _ (by simp)).trans (heap_alloc_new wr _);have u1:w2.cell? ⟨wr.heap.size,1,none⟩=some (.slice B1 rl d1):=zc hbx rfl;have hpb:=mR.out;clear aj
   cases hnm:zlZ rs
   ·rw[hnm] at hpb;have HF:=zh (HN.out (by rw[hpb];rfl));clear hpb;go_wp2_with fail;go_ret;exact⟨by rw[HF.out];rfl,hq.trans (b2.mono hq.size)⟩
   rw[hnm,Bool.true_and] at hpb;by_cases h8:8<rl
   ·have HF:=zh (HN.out (by rw[hpb];simp;intro h;omega));have h8':(8:Int)<(rl:Int):=by omega
    clear hpb;go_wp2_with fail;go_ret;exact⟨by rw[HF.out];rfl,hq.trans (b2.mono hq.size)⟩
   rw[decide_eq_true (show rl<=8 by omega),Bool.true_and] at hpb;have h8':(rl:Int)<=8:=by omega
   have HPC:=zh hpb;have HBX2:=zh hbx;clear hpb mR h8 hbx;go_wp2_with fail;refine(pV.out _ b2).mono ?_;rintro e w3 ⟨rfl,aU⟩;have b3:=b2.trans (aU.mono b2.size);have hbx:w3.heap[wr.heap.size]?=some (.cells #[.string rs,.slice B1 rl d1,.int .u8 bk,.int .i64 bn,.string bs,.slice B2 bl d2] 103 (0,0)):=(aU.block _ (zko HBX2.out)).trans HBX2.out;have u2:w3.cell? ⟨wr.heap.size,2,none⟩=some (.int .u8 bk):=zc hbx rfl;have u3:w3.cell? ⟨wr.heap.size,3,none⟩=some (.int .i64 bn):=zc hbx rfl;have u4:w3.cell? ⟨wr.heap.size,4,none⟩=some (.string bs):=zc hbx rfl;have u5:w3.cell? ⟨wr.heap.size,5,none⟩=some (.slice B2 bl d2):=zc hbx rfl;have hpb:=HPC.out;clear aU u1 hbx
   cases hdd:r.ps.all zl1
   ·rw[hdd] at hpb;have HF:=zh (HN.out (by rw[hpb];rfl));clear hpb;go_wp2_with fail;go_ret;exact⟨by rw[HF.out];rfl,hq.trans (b3.mono hq.size)⟩
   rw[hdd,Bool.true_and] at hpb;have HPD:=zh hpb;clear hpb HPC hdd;go_wp2_with fail;refine(zn6 r.b _ _ (dU.out _ b3)).mono ?_;rintro e w4 ⟨rfl,rG⟩;have b4:=b3.trans (rG.mono b3.size);have hpb:=HPD.out;clear rG u2 u3 u4 u5
   cases hbb:zlk r.b
   ·rw[hbb] at hpb;have HF:=zh (HN.out hpb);clear hpb;go_wp2_with fail;go_ret;exact⟨by rw[HF.out];rfl,hq.trans (b4.mono hq.size)⟩
   ·rw[hbb] at hpb;have HG:=zh (show(p.prs.take (j+1)).all znQ=true by rw[HT.out];exact hpb);have HQ4:=zh (hb.trans (b4.mono hb.size));clear hpb;go_wp2_with fail
    go_roundw
    case rel=>exact⟨j+1,by omega,by go_num,HQ4.out,HG⟩
    case measure=>simp[intOf];omega
  ·obtain rfl:j=L2:=by omega
   have HF:=zh (show zkX p=zlk p.m by rw[bN.out];have:=HA.out;rw[List.take_of_length_le (by rw[HL2.out];omega)] at this;rw[this];rfl);have hbx:wr.heap[w.heap.size]?=some (.cells #[.slice A1 L1 c1,.slice A2 j c2,.int .u8 k,.int .i64 n,.string s,.slice A3 l3 c3] 35 (0,0)):=(hb.block _ (zko ax.out)).trans ax.out;have y2:wr.cell? ⟨w.heap.size,2,none⟩=some (.int .u8 k):=zc hbx rfl;have y3:wr.cell? ⟨w.heap.size,3,none⟩=some (.int .i64 n):=zc hbx rfl;have y4:wr.cell? ⟨w.heap.size,4,none⟩=some (.string s):=zc hbx rfl;have y5:wr.cell? ⟨w.heap.size,5,none⟩=some (.slice A3 l3 c3):=zc hbx rfl;go_wp2_with fail;refine(zn6 p.m _ _ (HM.out.later hq).any).mono ?_;rintro e w2 ⟨rfl,aj⟩;go_wp2_with fail;go_ret;exact⟨by rw[HF.out];rfl,hq.trans (aj.mono hq.size)⟩
def zl8 (vs:List VD) (s:ByteArray):Int:=if (zk9 vs s).isSome then 22 else 0
def useE (vs:List VD) (s:ByteArray) (k:Int):Int:=match zk9 vs s with
 | none=>6
 | some v=>if v.k=k then 0 else 7
theorem znA (vs:List VD) (A:Option Addr) (c:Nat) (s:ByteArray) (S:Nat->Prop) (w:World) (hrow:RowV w S A vs) (hl:vs.length<=LV) :
  Calls Tryz.prog 93 #[.slice A vs.length c,.string s] w fun e w'=>e=.returned (.int .i64 (zl8 vs s))/\Below w.heap.size w w':=by
 have ag:=zh hrow;have HL:=zh hl;obtain⟨E,hE⟩:∃ E,zl8 vs s=E:=⟨_,rfl⟩
 rw[hE];have HE:=zh hE;clear hrow hl hE;go_enter Tryz.func93,Tryz.ntmps93;go_wp2_with fail;refine(zni vs A c s S _ ag.out HL.out).mono ?_;rintro e w1 ⟨rfl,aa⟩
 cases hf:zk9 vs s with
 | none =>
  have HN:=zh (show E=0 by rw[<-HE.out];simp[zl8,hf]);have HB:=zh (show Below w.heap.size w (w1.alloc (.cells #[.string ⟨#[]⟩,.int .u8 0,.int .i64 0] 83)) from aa.alloc aa.size _);clear hf aa;go_wp2_with fail;go_ret;exact⟨by rw[HN.out];rfl,HB.out⟩
 | some v =>
  have HN:=zh (show E=22 by rw[<-HE.out];simp[zl8,hf]);have HB:=zh (show Below w.heap.size w (w1.alloc (.cells #[.string v.s,.int .u8 v.k,.int .i64 v.n] 83)) from aa.alloc aa.size _);clear hf aa;go_wp2_with fail;go_ret;exact⟨by rw[HN.out];rfl,HB.out⟩
theorem zmR (vs:List VD) (A:Option Addr) (c:Nat) (s:ByteArray) (k:Int) (S:Nat->Prop) (w:World) (hrow:RowV w S A vs) (hl:vs.length<=LV) :
  Calls Tryz.prog 164 #[.slice A vs.length c,.string s,.int .u8 k] w fun e w'=>e=.returned (.int .i64 (useE vs s k))/\Below w.heap.size w w':=by
 have ag:=zh hrow;have HL:=zh hl;obtain⟨E,hE⟩:∃ E,useE vs s k=E:=⟨_,rfl⟩
 rw[hE];have HE:=zh hE;clear hrow hl hE;go_enter Tryz.func164,Tryz.ntmps164;go_wp2_with fail;refine(zni vs A c s S _ ag.out HL.out).mono ?_;rintro e w1 ⟨rfl,aa⟩
 cases hf:zk9 vs s with
 | none =>
  have HN:=zh (show E=6 by rw[<-HE.out];simp[useE,hf]);have HB:=zh (show Below w.heap.size w (w1.alloc (.cells #[.string ⟨#[]⟩,.int .u8 0,.int .i64 0] 83)) from aa.alloc aa.size _);clear hf aa;go_wp2_with fail;go_ret;exact⟨by rw[HN.out];rfl,HB.out⟩
 | some v =>
  obtain⟨vm,vk,vl⟩:=v;have HB2:=zh (show Below w.heap.size w (w1.alloc (.cells #[.string vm,.int .u8 vk,.int .i64 vl] 83)) from aa.alloc aa.size _);have HN:=zh (show E=if vk=k then 0 else 7 by rw[<-HE.out];simp[useE,hf]);clear hf aa;by_cases hk:vk=k
  ·have e1:(vk==k)=true:=by simpa using hk
   have e2:(vk != k)=false:=by simpa using hk
   have aK:=zh (show E=0 by rw[HN.out,if_pos hk]);clear hk;go_wp2_with fail;go_ret;exact⟨by rw[aK.out];rfl,HB2.out⟩
  ·have e1:(vk==k)=false:=by simpa using hk
   have e2:(vk != k)=true:=by simpa using hk
   have aK:=zh (show E=7 by rw[HN.out,if_neg hk]);clear hk;go_wp2_with fail;go_ret;exact⟨by rw[aK.out];rfl,HB2.out⟩
def idxP (ps:List PR) (s:ByteArray):Option Nat:=ps.findIdx? fun r=>r.s.toList==s.toList
def zlj (ps:List PR) (s:ByteArray):Int:=match idxP ps s with
 | some i=>i
 | none => -1
theorem zr0 (rs:ByteArray) (u1 u2 u3 u4 u5:Value) (s:ByteArray) (nb:Nat) (w:World) (hc:w.cell? ⟨nb,0,none⟩=some (.string s)) :
  Calls Tryz.prog 136 #[.agg #[.string rs,u1,u2,u3,u4,u5],.pointer (some ⟨nb,0,none⟩)] w fun e w'=>e=.returned (.bool (rs.toList==s.toList))/\Below w.heap.size w w':=by
 have hc':=zkj hc;go_enter Tryz.func136,Tryz.ntmps136;go_wp2_with fail;go_ret;exact⟨rfl,(Below.refl _ _).alloc (Nat.le_refl _) _⟩
theorem znS (ps:List PR) (A:Option Addr) (c:Nat) (s:ByteArray) (nb:Nat) (S:Nat->Prop) (w:World) (hrow:RowP w S A ps) (hl:ps.length<=LV) (hc:w.cell? ⟨nb,0,none⟩=some (.string s)) :
  Calls Tryz.prog 135 #[.slice A ps.length c,.func (.func 136) #[] #[.pointer (some ⟨nb,0,none⟩)]] w fun e w'=>e=.returned (.int .i64 (zlj ps s))/\Below w.heap.size w w':=by
 have hl':=zli hl;have ag:=zh hrow;have HC:=zh hc;obtain⟨R,hR⟩:∃ R,zlj ps s=R:=⟨_,rfl⟩
 rw[hR];have HR:=zh hR;clear hrow hl hc hR;go_enter Tryz.func135,Tryz.ntmps135;go_wp2_with fail
 go_loopw [8] (fun i wr=>∃ j:Nat,j<=ps.length/\i=.int .i64 j/\Below w.heap.size w wr/\Hid (∀ q (h:q<ps.length),q<j->(ps[q].s.toList==s.toList)=false)) (fun i _=>ps.length-(intOf i).toNat)
 case atStart=>exact⟨0,Nat.zero_le _,rfl,Below.refl _ _,zh fun q _ h=>by omega⟩
 case round =>
  obtain⟨j,hj,rfl,hbl,HJ⟩:=hrel;by_cases hlt:j<ps.length
  ·obtain⟨a,r,B1,f1,B2,f2,rfl,_,Hr,⟨q0,q1,q2,q3,q4,q5⟩,-⟩:=(ag.out.later hbl).nd hlt;obtain⟨b,hb⟩:∃ b,(r.s.toList==s.toList)=b:=⟨_,rfl⟩
   have HB:=zh hb;clear hb;go_wp2_with fail;refine(zr0 r.s _ _ _ _ _ s nb _ (zb hbl HC.out)).mono ?_;rintro e w1 ⟨rfl,aa⟩;rw[HB.out];have ae:=zh (zka hbl aa);clear aa q0 q1 q2 q3 q4 q5
   cases b
   ·have HJ2:=zh (show ∀ q (h:q<ps.length),q<j+1->(ps[q].s.toList==s.toList)=false from fun q h hq=>by
     by_cases e:q<j
     ·exact HJ.out q h e
     ·obtain rfl:q=j:=by omega
      rw[Hr.out];exact HB.out)
    go_wp2_with fail
    go_roundw
    case rel=>exact⟨j+1,by omega,by go_num,ae.out,HJ2⟩
    case measure=>simp[intOf];omega
   ·have HN:=zh (show R=j by
     rw[<-HR.out];have:idxP ps s=some j:=List.findIdx?_eq_some_iff_getElem.2 ⟨hlt,by rw[Hr.out];exact HB.out,fun q hq=>by rw[HJ.out q (by omega) hq];simp⟩;simp[zlj,this])
    go_wp2_with fail;go_ret;exact⟨by rw[HN.out];rfl,ae.out⟩
  ·have HN:=zh (show R = -1 by
    rw[<-HR.out];have:idxP ps s=none:=List.findIdx?_eq_none_iff.2 fun r hr=>by
     obtain⟨q,hq,rfl⟩:=List.getElem_of_mem hr;exact HJ.out q hq (by omega)
    simp[zlj,this])
   have ae:=zh hbl;clear hbl;go_wp2_with fail;go_ret;exact⟨by rw[HN.out];rfl,ae.out⟩
theorem znh (p:PG) (S:Nat->Prop) (v:Value) (s:ByteArray) (w:World) (hv:PV w S p v):Calls Tryz.prog 94 #[v,.string s] w fun e w'=>e=.returned (.int .i64 (zlj p.prs s))/\Below w.heap.size w w':=by
 obtain⟨A1,c1,A2,c2,A3,c3,rfl,hr⟩:=hv;have HR:=zh hr;obtain⟨L1,hL1⟩:∃ L,p.vs.length=L:=⟨_,rfl⟩
 rw[hL1];clear hr hL1;go_enter Tryz.func94,Tryz.ntmps94;go_wp2_with fail;refine(znS p.prs A2 c2 s (w.heap.size+1) S _ (HR.out.procs.later (zkd (zkd (Below.refl _ _) _) _)) HR.out.lp (by simp)).mono ?_;rintro e w1 ⟨rfl,aa⟩;have HB:=zh (zka (zkd (zkd (Below.refl w.heap.size w) _) _) aa);clear aa;go_wp2_with fail;go_ret;exact⟨rfl,HB.out⟩
end Go.Proofs.YtckhofdinldhpaaGreat
namespace Go.Proofs.YtckhofdinldhpaaGreat
open Go Go.RowKit
theorem zpS:∀ (prs:List PR) (s:ByteArray) (i:Nat),prcI prs s=some i->zlj prs s=(i:Int)/\i<prs.length
 | [],_,_,h=>by simp[prcI] at h
 | q::qs,s,i,h=>by
  unfold prcI at h;unfold zlj idxP;rw[List.findIdx?_cons]
  split at h
  ·rename_i h0;injection h with h;subst h;rw[if_pos h0];exact⟨rfl,by simp⟩
  ·rename_i h0;rw[if_neg h0];obtain⟨j,hj,rfl⟩:=Option.map_eq_some_iff.1 h;have h5:=zpS qs s j hj;unfold zlj idxP at h5
   cases hf:List.findIdx? (fun r=>r.s.toList==s.toList) qs with
   | none =>
    rw[hf] at h5;have h6:(-1:Int)=(j:Int):=h5.1;omega
   | some m =>
    rw[hf] at h5;have h6:(m:Int)=(j:Int):=h5.1;exact⟨by show((m+1:Nat):Int)=((j+1:Nat):Int);omega,by have:=h5.2;simp;omega⟩
structure GC (G:List PR->T->Prop):Prop where
 two:∀ prs t,G prs t->(t.k=52\/t.k=53)->t.ks.length=4/\(∀ u∈(kid t 1).ks,G prs u)/\∀ u∈(kid t 2).ks,G prs u
 loc:∀ prs t,G prs t->t.k=54->t.ks.length=3/\∀ u∈(kid t 1).ks,G prs u
 stk:∀ prs t,G prs t->t.k=55->t.ks.length=1/\∀ u∈(kid t 0).ks,G prs u
 cal:∀ prs t,G prs t->(t.k=50\/t.k=51)->∃ i q,prcI prs t.s=some i/\prs[i]?=some q/\∀ u∈q.b.ks,G prs u
theorem getD_some {prs:List PR} {i:Nat} {q:PR} (h:prs[i]?=some q):prs.getD i ⟨⟨#[]⟩,[],nil0⟩=q:=by
 rw[List.getD_eq_getElem?_getD,h];rfl
end Go.Proofs.YtckhofdinldhpaaGreat
namespace Go.Proofs.YtckhofdinldhpaaGreat
open Go.RowKit
def zk7 (ps:List PR) (k:Int) (s:ByteArray) (l:Nat) (vs:List VD):Int :=
 if k=2 then useE vs s 1 else if k=3 then useE vs s 2 else if k=4\/k=5\/k=44\/k=45 then useE vs s 3 else if k=54\/k=55 then zl8 vs s
 else if k=50\/k=51 then (match idxP ps s with
  | none=>6
  | some i=>match ps[i]? with
   | none=>6
   | some r=>if l=r.ps.length then 0 else 7)
 else 0
theorem zrL (p:PG) (t:T) (vs:List VD) (A:Option Addr) (c:Nat) (S S' S'':Nat->Prop) (v1 v2:Value) (w:World) (hv1:PV w S p v1) (hv2:NV w S' t v2) (hrow:RowV w S'' A vs) (hl:vs.length<=LV) :
  Calls Tryz.prog 137 #[v1,v2,.slice A vs.length c] w fun e w'=>e=.returned (.int .i64 (zk7 p.prs t.k t.s t.ks.length vs))/\Below w.heap.size w w':=by
 have hvv:=hv1;obtain⟨A1,c1,A2,c2,A3,c3,rfl,hr⟩:=hv1;have jg:=zh hr.procs;have hlp:=zli hr.lp;obtain⟨L1,hL1⟩:∃ L,p.vs.length=L:=⟨_,rfl⟩
 obtain⟨L2,hL2⟩:∃ L,p.prs.length=L:=⟨_,rfl⟩
 obtain⟨k,hk⟩:∃ k,p.m.k=k:=⟨_,rfl⟩
 obtain⟨n,hn⟩:∃ n,p.m.n=n:=⟨_,rfl⟩
 obtain⟨s,hs⟩:∃ s,p.m.s=s:=⟨_,rfl⟩
 obtain⟨l3,hl3⟩:∃ l,p.m.ks.length=l:=⟨_,rfl⟩
 rw[hL1,hL2,hk,hn,hs,hl3];rw[hL1,hL2,hk,hn,hs,hl3] at hvv;rw[hL2] at hlp;have HL2:=zh hL2;have HV:=zh hvv;clear hr hvv hL1 hL2 hk hn hs hl3;obtain⟨B,tc,rfl,_,hlk,_,_⟩:=hv2.open_;have av:=zkA hlk;have ag:=zh hrow;have HL:=zh hl;clear hrow hl hv2 hlk;generalize t.k=tk,t.n=tn,t.s=ts,t.ks.length=tl at *
 obtain⟨R,hR⟩:∃ R,zk7 p.prs tk ts tl vs=R:=⟨_,rfl⟩
 rw[hR];have HR:=zh hR;clear hR;have hb0:∀ o o',Below w.heap.size w ((w.alloc o).alloc o'):=fun o o'=>((Below.refl _ _).alloc (Nat.le_refl _) _).alloc (by simp) _;have HB0:=zh hb0;clear hb0;by_cases h2:tk=2
 ·subst h2;have HN:=zh (show R=useE vs ts 1 by rw[<-HR.out];simp[zk7]);go_enter Tryz.func137,Tryz.ntmps137;go_wp2_with fail;refine(zmR vs A c ts 1 S'' _ (ag.out.later (HB0.out _ _)) HL.out).mono ?_;rintro e w1 ⟨rfl,aa⟩;rw[<-HN.out];have HB:=zh (zka (HB0.out _ _) aa);clear aa;go_wp2_with fail;go_ret;exact⟨rfl,HB.out⟩
 have f2:(tk==2)=false:=by simpa using h2
 by_cases h3:tk=3
 ·subst h3;have HN:=zh (show R=useE vs ts 2 by rw[<-HR.out];simp[zk7]);go_enter Tryz.func137,Tryz.ntmps137;go_wp2_with fail;refine(zmR vs A c ts 2 S'' _ (ag.out.later (HB0.out _ _)) HL.out).mono ?_;rintro e w1 ⟨rfl,aa⟩;rw[<-HN.out];have HB:=zh (zka (HB0.out _ _) aa);clear aa;go_wp2_with fail;go_ret;exact⟨rfl,HB.out⟩
 have f3:(tk==3)=false:=by simpa using h3
 by_cases h4:tk=4
 ·subst h4;have HN:=zh (show R=useE vs ts 3 by rw[<-HR.out];simp[zk7]);go_enter Tryz.func137,Tryz.ntmps137;go_wp2_with fail;refine(zmR vs A c ts 3 S'' _ (ag.out.later (HB0.out _ _)) HL.out).mono ?_;rintro e w1 ⟨rfl,aa⟩;rw[<-HN.out];have HB:=zh (zka (HB0.out _ _) aa);clear aa;go_wp2_with fail;go_ret;exact⟨rfl,HB.out⟩
 have f4:(tk==4)=false:=by simpa using h4
 by_cases h5:tk=5
 ·subst h5;have HN:=zh (show R=useE vs ts 3 by rw[<-HR.out];simp[zk7]);go_enter Tryz.func137,Tryz.ntmps137;go_wp2_with fail;refine(zmR vs A c ts 3 S'' _ (ag.out.later (HB0.out _ _)) HL.out).mono ?_;rintro e w1 ⟨rfl,aa⟩;rw[<-HN.out];have HB:=zh (zka (HB0.out _ _) aa);clear aa;go_wp2_with fail;go_ret;exact⟨rfl,HB.out⟩
 have f5:(tk==5)=false:=by simpa using h5
 by_cases oz:tk=44
 ·subst oz;have HN:=zh (show R=useE vs ts 3 by rw[<-HR.out];simp[zk7]);go_enter Tryz.func137,Tryz.ntmps137;go_wp2_with fail;refine(zmR vs A c ts 3 S'' _ (ag.out.later (HB0.out _ _)) HL.out).mono ?_;rintro e w1 ⟨rfl,aa⟩;rw[<-HN.out];have HB:=zh (zka (HB0.out _ _) aa);clear aa;go_wp2_with fail;go_ret;exact⟨rfl,HB.out⟩
 have f44:(tk==44)=false:=by simpa using oz
 by_cases h45:tk=45
 ·subst h45;have HN:=zh (show R=useE vs ts 3 by rw[<-HR.out];simp[zk7]);go_enter Tryz.func137,Tryz.ntmps137;go_wp2_with fail;refine(zmR vs A c ts 3 S'' _ (ag.out.later (HB0.out _ _)) HL.out).mono ?_;rintro e w1 ⟨rfl,aa⟩;rw[<-HN.out];have HB:=zh (zka (HB0.out _ _) aa);clear aa;go_wp2_with fail;go_ret;exact⟨rfl,HB.out⟩
 have f45:(tk==45)=false:=by simpa using h45
 by_cases gZ:tk=54
 ·subst gZ;have HN:=zh (show R=zl8 vs ts by rw[<-HR.out];simp[zk7]);go_enter Tryz.func137,Tryz.ntmps137;go_wp2_with fail;refine(znA vs A c ts S'' _ (ag.out.later (HB0.out _ _)) HL.out).mono ?_;rintro e w1 ⟨rfl,aa⟩;rw[<-HN.out];have HB:=zh (zka (HB0.out _ _) aa);clear aa;go_wp2_with fail;go_ret;exact⟨rfl,HB.out⟩
 have f54:(tk==54)=false:=by simpa using gZ
 by_cases gY:tk=55
 ·subst gY;have HN:=zh (show R=zl8 vs ts by rw[<-HR.out];simp[zk7]);go_enter Tryz.func137,Tryz.ntmps137;go_wp2_with fail;refine(znA vs A c ts S'' _ (ag.out.later (HB0.out _ _)) HL.out).mono ?_;rintro e w1 ⟨rfl,aa⟩;rw[<-HN.out];have HB:=zh (zka (HB0.out _ _) aa);clear aa;go_wp2_with fail;go_ret;exact⟨rfl,HB.out⟩
 have f55:(tk==55)=false:=by simpa using gY
 by_cases h50:tk=50
 ·subst h50;have HN:=zh (show R=(match idxP p.prs ts with|none=>6|some i=>match p.prs[i]? with|none=>6|some r=>if tl=r.ps.length then 0 else 7) by rw[<-HR.out];simp[zk7]);go_enter Tryz.func137,Tryz.ntmps137;go_wp2_with fail;refine(znh p S _ ts _ (HV.out.later (HB0.out _ _))).mono ?_;rintro e w1 ⟨rfl,aa⟩;have hbl:=zka (HB0.out _ _) aa;have hP:=zkc (zkr (heap_alloc_new w (.cells #[.slice A1 L1 c1,.slice A2 L2 c2,.int .u8 k,.int .i64 n,.string s,.slice A3 l3 c3] 35)) _) aa;have hN:=zkc (heap_alloc_new (w.alloc (.cells #[.slice A1 L1 c1,.slice A2 L2 c2,.int .u8 k,.int .i64 n,.string s,.slice A3 l3 c3] 35)) (.cells #[.int .u8 50,.int .i64 tn,.string ts,.slice B tl tc] 29)) aa;simp only[World.size_alloc] at hN
  cases hi:idxP p.prs ts with
  | none =>
   have e1:zlj p.prs ts = -1:=by simp[zlj,hi]
   rw[e1];have aK:=zh (show R=6 by rw[HN.out,hi]);have HB:=zh hbl;clear aa hi e1 hP hN hbl;go_wp2_with fail;go_ret;exact⟨by rw[aK.out];rfl,HB.out⟩
  | some i =>
   have e1:zlj p.prs ts=i:=by simp[zlj,hi]
   rw[e1];have hi2:i<p.prs.length:=(List.findIdx?_eq_some_iff_getElem.1 hi).1;have hiL:i<L2:=by rw[<-HL2.out];exact hi2
   obtain⟨a,r,P1,d1,P2,d2,rfl,_,Hr,⟨_,q1,_⟩,hpr⟩:=(jg.out.later hbl).nd hi2;obtain⟨rl,hrl⟩:∃ l,r.ps.length=l:=⟨_,rfl⟩
   have hlr:=zli hpr.lp;rw[hrl] at q1 hlr;have aK:=zh (show R=if tl=rl then 0 else 7 by rw[HN.out,hi];simp only;rw[List.getElem?_eq_getElem hi2,Hr.out,<-hrl]);obtain⟨a0,a1,a2,a3,a4,a5⟩:=box6 hP;obtain⟨b0,b1,b2,b3⟩:=box4 hN;have HB:=zh hbl;clear aa hi e1 hP hN hbl hrl hpr;go_wp2_with fail
   go_region_held3 (fun w'=>(w'.cell? ⟨w.heap.size+1,3,none⟩=some (.slice B tl tc)/\w'.cell? ⟨w.heap.size,1,none⟩=some (.slice (some a) L2 c2)/\w'.cell? ⟨(a.add (i*6)).block,(a.add (i*6)).off+1,none⟩=some (.slice P1 rl d1))) (exact⟨b3,a1,q1⟩) (fail)
   by_cases hq:tl=rl
   ·have g1:(tl==rl)=true:=by simpa using hq
    have g2:(tl != rl)=false:=by simpa using hq
    have g3:((tl:Int)==(rl:Int))=true:=by simp;omega
    have g4:((tl:Int) != (rl:Int))=false:=by simp;omega
    have bK:=zh (show R=0 by rw[aK.out,if_pos hq]);clear hq;go_wp2_with fail;go_ret;exact⟨by rw[bK.out];rfl,HB.out.drew⟩
   ·have g1:(tl==rl)=false:=by simpa using hq
    have g2:(tl != rl)=true:=by simpa using hq
    have g3:((tl:Int)==(rl:Int))=false:=by simp;omega
    have g4:((tl:Int) != (rl:Int))=true:=by simp;omega
    have bK:=zh (show R=7 by rw[aK.out,if_neg hq]);clear hq;go_wp2_with fail;go_ret;exact⟨by rw[bK.out];rfl,HB.out.drew⟩
 have f50:(tk==50)=false:=by simpa using h50
 by_cases lI:tk=51
 ·subst lI;have HN:=zh (show R=(match idxP p.prs ts with|none=>6|some i=>match p.prs[i]? with|none=>6|some r=>if tl=r.ps.length then 0 else 7) by rw[<-HR.out];simp[zk7]);go_enter Tryz.func137,Tryz.ntmps137;go_wp2_with fail;refine(znh p S _ ts _ (HV.out.later (HB0.out _ _))).mono ?_;rintro e w1 ⟨rfl,aa⟩;have hbl:=zka (HB0.out _ _) aa;have hP:=zkc (zkr (heap_alloc_new w (.cells #[.slice A1 L1 c1,.slice A2 L2 c2,.int .u8 k,.int .i64 n,.string s,.slice A3 l3 c3] 35)) _) aa;have hN:=zkc (heap_alloc_new (w.alloc (.cells #[.slice A1 L1 c1,.slice A2 L2 c2,.int .u8 k,.int .i64 n,.string s,.slice A3 l3 c3] 35)) (.cells #[.int .u8 51,.int .i64 tn,.string ts,.slice B tl tc] 29)) aa;simp only[World.size_alloc] at hN
  cases hi:idxP p.prs ts with
  | none =>
   have e1:zlj p.prs ts = -1:=by simp[zlj,hi]
   rw[e1];have aK:=zh (show R=6 by rw[HN.out,hi]);have HB:=zh hbl;clear aa hi e1 hP hN hbl;go_wp2_with fail;go_ret;exact⟨by rw[aK.out];rfl,HB.out⟩
  | some i =>
   have e1:zlj p.prs ts=i:=by simp[zlj,hi]
   rw[e1];have hi2:i<p.prs.length:=(List.findIdx?_eq_some_iff_getElem.1 hi).1;have hiL:i<L2:=by rw[<-HL2.out];exact hi2
   obtain⟨a,r,P1,d1,P2,d2,rfl,_,Hr,⟨_,q1,_⟩,hpr⟩:=(jg.out.later hbl).nd hi2;obtain⟨rl,hrl⟩:∃ l,r.ps.length=l:=⟨_,rfl⟩
   have hlr:=zli hpr.lp;rw[hrl] at q1 hlr;have aK:=zh (show R=if tl=rl then 0 else 7 by rw[HN.out,hi];simp only;rw[List.getElem?_eq_getElem hi2,Hr.out,<-hrl]);obtain⟨a0,a1,a2,a3,a4,a5⟩:=box6 hP;obtain⟨b0,b1,b2,b3⟩:=box4 hN;have HB:=zh hbl;clear aa hi e1 hP hN hbl hrl hpr;go_wp2_with fail
   go_region_held3 (fun w'=>(w'.cell? ⟨w.heap.size+1,3,none⟩=some (.slice B tl tc)/\w'.cell? ⟨w.heap.size,1,none⟩=some (.slice (some a) L2 c2)/\w'.cell? ⟨(a.add (i*6)).block,(a.add (i*6)).off+1,none⟩=some (.slice P1 rl d1))) (exact⟨b3,a1,q1⟩) (fail)
   by_cases hq:tl=rl
   ·have g1:(tl==rl)=true:=by simpa using hq
    have g2:(tl != rl)=false:=by simpa using hq
    have g3:((tl:Int)==(rl:Int))=true:=by simp;omega
    have g4:((tl:Int) != (rl:Int))=false:=by simp;omega
    have bK:=zh (show R=0 by rw[aK.out,if_pos hq]);clear hq;go_wp2_with fail;go_ret;exact⟨by rw[bK.out];rfl,HB.out.drew⟩
   ·have g1:(tl==rl)=false:=by simpa using hq
    have g2:(tl != rl)=true:=by simpa using hq
    have g3:((tl:Int)==(rl:Int))=false:=by simp;omega
    have g4:((tl:Int) != (rl:Int))=true:=by simp;omega
    have bK:=zh (show R=7 by rw[aK.out,if_neg hq]);clear hq;go_wp2_with fail;go_ret;exact⟨by rw[bK.out];rfl,HB.out.drew⟩
 have f51:(tk==51)=false:=by simpa using lI
 have HN:=zh (show R=0 by rw[<-HR.out];simp[zk7,h2,h3,h4,h5,oz,h45,gZ,gY,h50,lI]);clear h2 h3 h4 h5 oz h45 gZ gY h50 lI;go_enter Tryz.func137,Tryz.ntmps137;go_wp2_with fail;go_ret;exact⟨by rw[HN.out];rfl,HB0.out _ _⟩
def argE (ps:List PR) (s:ByteArray) (l i:Nat) (m:ByteArray) (vs:List VD):Int:=match zk9 vs m with
 | none=>6
 | some v=>match idxP ps s with
  | none=>0
  | some j=>match ps[j]? with
   | none=>0
   | some r=>if l=r.ps.length then (match r.ps[i]? with
    | none=>0
    | some q=>if v.k=q.k/\v.n=q.n then 0 else 7) else 0
theorem box3 {w:World} {b:Nat} {E:TypeId} {u0 u1 u2:Value} (h:w.heap[b]?=some (.cells #[u0,u1,u2] E (0,0))):w.cell? ⟨b,0,none⟩=some u0/\w.cell? ⟨b,1,none⟩=some u1/\w.cell? ⟨b,2,none⟩=some u2 :=
 ⟨zc h rfl,zc h rfl,zc h rfl⟩
theorem zm4 (p:PG) (t:T) (i:Nat) (hi:i<t.ks.length) (vs:List VD) (A:Option Addr) (c:Nat) (S S' S'':Nat->Prop) (v1 v2:Value) (w:World) (hv1:PV w S p v1) (hv2:NV w S' t v2) (hrow:RowV w S'' A vs) (hl:vs.length<=LV) :
  Calls Tryz.prog 139 #[v1,v2,.int .i64 i,.slice A vs.length c] w fun e w'=>e=.returned (.int .i64 (argE p.prs t.s t.ks.length i t.ks[i].s vs))/\Below w.heap.size w w':=by
 have hvv:=hv1;obtain⟨A1,c1,A2,c2,A3,c3,rfl,hr⟩:=hv1;have jg:=zh hr.procs;have hlp:=zli hr.lp;obtain⟨L1,hL1⟩:∃ L,p.vs.length=L:=⟨_,rfl⟩
 obtain⟨L2,hL2⟩:∃ L,p.prs.length=L:=⟨_,rfl⟩
 obtain⟨k,hk⟩:∃ k,p.m.k=k:=⟨_,rfl⟩
 obtain⟨n,hn⟩:∃ n,p.m.n=n:=⟨_,rfl⟩
 obtain⟨s,hs⟩:∃ s,p.m.s=s:=⟨_,rfl⟩
 obtain⟨l3,hl3⟩:∃ l,p.m.ks.length=l:=⟨_,rfl⟩
 rw[hL1,hL2,hk,hn,hs,hl3];rw[hL1,hL2,hk,hn,hs,hl3] at hvv;rw[hL2] at hlp;have HL2:=zh hL2;have HV:=zh hvv;clear hr hvv hL1 hL2 hk hn hs hl3;obtain⟨B,tc,rfl,_,hlk,_,dw⟩:=hv2.open_;have av:=zkA hlk;have ag:=zh hrow;have HL:=zh hl;obtain⟨b,u,B1,f1,rfl,_,Hu,⟨z0,z1,z2,z3⟩,-⟩:=dw.nd hi;rw[Hu.out];clear hrow hl hv2 hlk dw z0 z1 z3;obtain⟨us,hus⟩:∃ us,u.s=us:=⟨_,rfl⟩
 rw[hus] at z2 ⊢;clear hus Hu;generalize t.k=tk,t.n=tn,t.s=ts,t.ks.length=tl at *
 obtain⟨R,hR⟩:∃ R,argE p.prs ts tl i us vs=R:=⟨_,rfl⟩
 rw[hR];have HR:=zh hR;clear hR;have hb0:∀ o o',Below w.heap.size w ((w.alloc o).alloc o'):=fun o o'=>((Below.refl _ _).alloc (Nat.le_refl _) _).alloc (by simp) _;have HB0:=zh hb0;have z2':=fun o o'=>zkj (zkj z2 o) o';clear hb0 z2;go_enter Tryz.func139,Tryz.ntmps139;go_wp2_with fail;refine(zni vs A c us S'' _ (ag.out.later (HB0.out _ _)) HL.out).mono ?_;rintro e w1 ⟨rfl,aa⟩;have hbl:=zka (HB0.out _ _) aa;have hP:=zkc (zkr (heap_alloc_new w (.cells #[.slice A1 L1 c1,.slice A2 L2 c2,.int .u8 k,.int .i64 n,.string s,.slice A3 l3 c3] 35)) _) aa;have hN:=zkc (heap_alloc_new (w.alloc (.cells #[.slice A1 L1 c1,.slice A2 L2 c2,.int .u8 k,.int .i64 n,.string s,.slice A3 l3 c3] 35)) (.cells #[.int .u8 tk,.int .i64 tn,.string ts,.slice (some b) tl tc] 29)) aa;simp only[World.size_alloc] at hN
 cases hf:zk9 vs us with
 | none =>
  have HN:=zh (show R=6 by rw[<-HR.out];simp[argE,hf]);have HB:=zh (zkd hbl (.cells #[.string ⟨#[]⟩,.int .u8 0,.int .i64 0] 83));clear hf aa hP hN hbl z2';go_wp2_with fail;go_ret;exact⟨by rw[HN.out];rfl,HB.out⟩
 | some v =>
  obtain⟨vm,vk,vl⟩:=v;have hq2:=zkd hbl (.cells #[.string vm,.int .u8 vk,.int .i64 vl] 83);have hP2:=zkr hP (.cells #[.string vm,.int .u8 vk,.int .i64 vl] 83);have uX:=zkr hN (.cells #[.string vm,.int .u8 vk,.int .i64 vl] 83);have hV2:=heap_alloc_new w1 (.cells #[.string vm,.int .u8 vk,.int .i64 vl] 83);have HR2:=zh (show R=(match idxP p.prs ts with
   | none=>0
   | some j=>match p.prs[j]? with
    | none=>0
    | some r=>if tl=r.ps.length then (match r.ps[i]? with
     | none=>0
     | some q=>if vk=q.k/\vl=q.n then 0 else 7) else 0) by rw[<-HR.out];simp[argE,hf])
  obtain⟨a0,a1,a2,a3,a4,a5⟩:=box6 hP2;obtain⟨b0,b1,b2,b3⟩:=box4 uX;have mU:=zh hP2;have aK:=zh uX;have tN:=zh hV2;have vK:=zh hq2;clear hf aa hP hN hbl z2' hP2 uX hV2 hq2 HR;go_wp2_with fail;refine(znh p S _ ts _ (HV.out.later vK.out)).mono ?_;rintro e w2 ⟨rfl,aj⟩;have hbl:=zka vK.out aj;have hP:=zkc mU.out aj;have hN:=zkc aK.out aj;have hV:=zkc tN.out aj;clear a0 a1 a2 a3 a4 a5 b0 b1 b2 b3 mU aK tN vK aj
  cases hi2:idxP p.prs ts with
  | none =>
   have e1:zlj p.prs ts = -1:=by simp[zlj,hi2]
   rw[e1];have bK:=zh (show R=0 by rw[HR2.out,hi2]);have HB:=zh hbl;clear hi2 e1 hP hN hV hbl;go_wp2_with fail;refine wp_region_noPanic ?_;refine zke (fun _=>True) (fun _=>True) 20 (by kernel_rfl) ?_;have hSS:(fun _:World=>True) w2.drew/\(fun _:World=>True) w2.drew:=⟨trivial,trivial⟩
   refine zT 0 hSS ?_;(try simp only[zQ]);refine zT 1 hSS ?_;(try simp only[zQ]);refine zT 2 hSS ?_;(try simp only[zQ]);refine zkP (i:=3) (v:=undef) rfl (by kernel_rfl) (by kernel_rfl) (by kernel_rfl) (by decide) (fun _ _ _ h=>h) (Or.inr ⟨by rfl,rfl⟩) hSS ?_;(try simp only[zQ]);refine zkP (i:=4) (v:=undef) rfl (by kernel_rfl) (by kernel_rfl) (by kernel_rfl) (by decide) (fun _ _ _ h=>h) (Or.inr ⟨by rfl,rfl⟩) hSS ?_;(try simp only[zQ]);refine zkP (i:=5) (v:=undef) rfl (by kernel_rfl) (by kernel_rfl) (by kernel_rfl) (by decide) (fun _ _ _ h=>h) (Or.inr ⟨by rfl,rfl⟩) hSS ?_;(try simp only[zQ]);refine zkP (i:=6) (v:=undef) rfl (by kernel_rfl) (by kernel_rfl) (by kernel_rfl) (by decide) (fun _ _ _ h=>h) (Or.inr ⟨by rfl,rfl⟩) hSS ?_;(try simp only[zQ])
   refine zkP (i:=7) (v:=undef) rfl (by kernel_rfl) (by kernel_rfl) (by kernel_rfl) (by decide) (fun _ _ _ h=>h) (Or.inr ⟨by rfl,rfl⟩) hSS ?_;(try simp only[zQ]);refine zkP (i:=8) (v:=undef) rfl (by kernel_rfl) (by kernel_rfl) (by kernel_rfl) (by decide) (fun _ _ _ h=>h) (Or.inr ⟨by rfl,rfl⟩) hSS ?_;(try simp only[zQ]);refine zkP (i:=9) (v:=undef) rfl (by kernel_rfl) (by kernel_rfl) (by kernel_rfl) (by decide) (fun _ _ _ h=>h) (Or.inr ⟨by rfl,rfl⟩) hSS ?_;(try simp only[zQ]);refine zkP (i:=10) (v:=undef) rfl (by kernel_rfl) (by kernel_rfl) (by kernel_rfl) (by decide) (fun _ _ _ h=>h) (Or.inr ⟨by rfl,rfl⟩) hSS ?_;(try simp only[zQ]);refine zkP (i:=11) (v:=undef) rfl (by kernel_rfl) (by kernel_rfl) (by kernel_rfl) (by decide) (fun _ _ _ h=>h) (Or.inr ⟨by rfl,rfl⟩) hSS ?_;(try simp only[zQ])
   refine zkP (i:=12) (v:=undef) rfl (by kernel_rfl) (by kernel_rfl) (by kernel_rfl) (by decide) (fun _ _ _ h=>h) (Or.inr ⟨by rfl,rfl⟩) hSS ?_;(try simp only[zQ]);refine zkP (i:=13) (v:=undef) rfl (by kernel_rfl) (by kernel_rfl) (by kernel_rfl) (by decide) (fun _ _ _ h=>h) (Or.inr ⟨by rfl,rfl⟩) hSS ?_;(try simp only[zQ]);refine zT 14 hSS ?_;(try simp only[zQ]);refine zd ?_;refine NoPanic.normal ?_;clear hSS;go_wp2_with fail;go_ret;exact⟨by rw[bK.out];rfl,HB.out.drew⟩
  | some j =>
   have e1:zlj p.prs ts=j:=by simp[zlj,hi2]
   rw[e1];have hj2:j<p.prs.length:=(List.findIdx?_eq_some_iff_getElem.1 hi2).1;have hjL:j<L2:=by rw[<-HL2.out];exact hj2
   obtain⟨a,r,P1,d1,P2,d2,rfl,_,Hr,⟨_,q1,_⟩,hpr⟩:=(jg.out.later hbl).nd hj2;obtain⟨rl,hrl⟩:∃ l,r.ps.length=l:=⟨_,rfl⟩
   have hlr:=zli hpr.lp;have HPW:=zh hpr.row;rw[hrl] at q1 hlr;have HR3:=zh (show R=if tl=rl then (match r.ps[i]? with
     | none=>0
     | some q=>if vk=q.k/\vl=q.n then 0 else 7) else 0 by rw[HR2.out,hi2];simp only;rw[List.getElem?_eq_getElem hj2,Hr.out,<-hrl])
   have mK:=zh hrl;obtain⟨a0,a1,a2,a3,a4,a5⟩:=box6 hP;obtain⟨b0,b1,b2,b3⟩:=box4 hN;have eG:=zh hV;have HB:=zh hbl;have hj0:decide ((j:Int)<0)=false:=by simp
   clear hi2 e1 hP hN hbl hrl hpr hV;go_wp2_with fail
   go_region_held3 (fun w'=>(w'.cell? ⟨w.heap.size+1,3,none⟩=some (.slice (some b) tl tc)/\w'.cell? ⟨w.heap.size,1,none⟩=some (.slice (some a) L2 c2)/\w'.cell? ⟨(a.add (j*6)).block,(a.add (j*6)).off+1,none⟩=some (.slice P1 rl d1))) (exact⟨b3,a1,q1⟩) (fail)
   by_cases hq:tl=rl
   ·have g1:(tl==rl)=true:=by simpa using hq
    have g2:(tl != rl)=false:=by simpa using hq
    have g3:((tl:Int)==(rl:Int))=true:=by simp;omega
    have g4:((tl:Int) != (rl:Int))=false:=by simp;omega
    have hir:i<r.ps.length:=by rw[mK.out];omega
    have hir':i<rl:=by omega
    obtain⟨e,q,rfl,_,Hq,⟨y0,y1,y2⟩,uN⟩:=(HPW.out.later (Below.refl _ _).drew).nd hir;have HR4:=zh (show R=if vk=q.k/\vl=q.n then 0 else 7 by rw[HR3.out,if_pos hq,List.getElem?_eq_getElem hir,Hq.out]);obtain⟨qm,qk,ql⟩:=q;simp only at y0 y1 y2 HR4;have hV3:=box3 eG.out;obtain⟨x0,x1,x2⟩:=hV3;have bu:=zh (zkd HB.out.drew (.cells #[.string qm,.int .u8 qk,.int .i64 ql] 83));have hlt9:=zko eG.out;clear hq Hq uN HPW eG;by_cases hk1:vk=qk
    ·have k1:(vk==qk)=true:=by simpa using hk1
     have k2:(vk != qk)=false:=by simpa using hk1
     by_cases hk2:vl=ql
     ·have k3:(vl==ql)=true:=by simpa using hk2
      have k4:(vl != ql)=false:=by simpa using hk2
      have bK:=zh (show R=0 by rw[HR4.out,if_pos ⟨hk1,hk2⟩]);clear hk1 hk2;go_wp2_with fail;go_ret;exact⟨by rw[bK.out];rfl,bu.out⟩
     ·have k3:(vl==ql)=false:=by simpa using hk2
      have k4:(vl != ql)=true:=by simpa using hk2
      have bK:=zh (show R=7 by rw[HR4.out,if_neg (fun h=>hk2 h.2)]);clear hk1 hk2;go_wp2_with fail;go_ret;exact⟨by rw[bK.out];rfl,bu.out⟩
    ·have k1:(vk==qk)=false:=by simpa using hk1
     have k2:(vk != qk)=true:=by simpa using hk1
     have bK:=zh (show R=7 by rw[HR4.out,if_neg (fun h=>hk1 h.1)]);clear hk1;go_wp2_with fail;go_ret;exact⟨by rw[bK.out];rfl,bu.out⟩
   ·have g1:(tl==rl)=false:=by simpa using hq
    have g2:(tl != rl)=true:=by simpa using hq
    have g3:((tl:Int)==(rl:Int))=false:=by simp;omega
    have g4:((tl:Int) != (rl:Int))=true:=by simp;omega
    have bK:=zh (show R=0 by rw[HR3.out,if_neg hq]);clear hq;go_wp2_with fail;go_ret;exact⟨by rw[bK.out];rfl,HB.out.drew⟩
theorem RowV.news {w:World} {S:Nat->Prop} {a:Addr}:∀ {vs:List VD},RowV w S (some a) vs->∃ news:List Value,news.length=vs.length*3/\(∀ j u,news[j]?=some u->w.cell? (a.add j)=some u)/\(∀ u∈news,u.oneCell'=true) /\
  ∀ i (hi:i<vs.length),news[i*3]?=some (.string vs[i].s)/\news[i*3+1]?=some (.int .u8 vs[i].k)/\news[i*3+2]?=some (.int .i64 vs[i].n):=by
 intro vs
 induction vs generalizing a with
 | nil=>exact fun _=>⟨[],rfl,fun j u h=>by simp at h,fun u h=>by simp at h,fun i hi=>absurd hi (by simp)⟩
 | cons t us ih =>
  intro h;obtain⟨a',e,hS,hc,_⟩:=h 0 (by simp);injection e with e;subst e;obtain⟨news,hl,hcell,h1,hns⟩:=ih (a:=a.add 3) (fun i hi=>by
   obtain⟨a'',e,hS',hc,hf⟩:=h (i+1) (by simpa using hi);injection e with e;subst e;refine⟨_,rfl,by rw[zkn];exact hS',?_,by simpa using hf⟩;rw[add_add,show 3+i*3=(i+1)*3 by omega];simpa using hc)
  obtain⟨c0,c1,c2⟩:=hc;simp only[Nat.zero_mul] at c0 c1 c2;refine⟨.string t.s :: .int .u8 t.k :: .int .i64 t.n::news,by simp[hl];omega,fun j u hj=>?_,fun u hu=>?_,fun i hi=>?_⟩
  ·rcases j with _|_|_|j
   ·simp at hj;subst hj;exact c0
   ·simp at hj;subst hj;exact c1
   ·simp at hj;subst hj;exact c2
   ·have:=hcell j u (by simpa using hj);rw[add_add] at this;rw[show j+1+1+1=3+j by omega];exact this
  ·simp only[List.mem_cons] at hu;rcases hu with rfl|rfl|rfl|hu
   ·rfl
   ·rfl
   ·rfl
   ·exact h1 u hu
  ·rcases i with _|i
   ·exact⟨rfl,rfl,rfl⟩
   ·obtain⟨e0,e1,e2⟩:=hns i (by simpa using hi);refine⟨?_,?_,?_⟩
    ·rw[show(i+1)*3=i*3+1+1+1 by omega];simpa using e0
    ·rw[show(i+1)*3+1=i*3+1+1+1+1 by omega];simpa using e1
    ·rw[show(i+1)*3+2=i*3+2+1+1+1 by omega];simpa using e2
theorem zsm (A:Option Addr) (l c:Nat) (hlc:l<=c) (hl:l<=LI) (w:World):Calls Tryz.prog 165 #[.slice A l c] w fun e w'=>e=.returned (.slice A l l)/\w=w':=by
 have hl':=zmO hl;have h1:(l:Int)<=(c:Int):=by omega
 clear hl;go_enter Tryz.func165,Tryz.ntmps165;go_wp2_with fail;go_ret;exact⟨rfl,rfl⟩
theorem zpd (A:Option Addr) (l c:Nat) (hlc:l<=c) (hl:l<=LV) (w:World):Calls Tryz.prog 166 #[.slice A l c] w fun e w'=>e=.returned (.slice A l l)/\w=w':=by
 have hl':=zli hl;have h1:(l:Int)<=(c:Int):=by omega
 clear hl;go_enter Tryz.func166,Tryz.ntmps166;go_wp2_with fail;go_ret;exact⟨rfl,rfl⟩
theorem zlM {P:Program} {w:World} {ops:Array Oper} {o:Oper} {a:Act} {K:Act->World->Prop} {Q:Exit->Act->World->Prop} {F:Prop} (hgd:o.guard=none) (s x:Operand) (t:TypeId)
  (hop:o.op=Op.call { callee:=Callee.builtin Builtin.append,args := #[s,x],argTypes := #[t,t] }) (e:TypeId) (i:TypeInfo) (z:Value) (size bytes:Nat) (h1:P.underlying t=some (.slice e)) (h2:P.info? e=some i) (h3:i.zero=some z) (h4:i.size=size) (h5:i.bytes=bytes) (h6:z.cells.size=size) (h7:0<size)
  (ao:Option Addr) (n cap:Nat) (olds:List Value) (hs:a.eval s=.slice ao n cap) (hnone:ao=none->n=0/\cap=0) (hlo:olds.length=n*size) (holds:∀ b,ao=some b->∀ j u,olds[j]?=some u->w.cell? (b.add j)=some u)
  (ad:Addr) (m c:Nat) (news:List Value) (hx:a.eval x=.slice (some ad) m c) (hn:news.length=m*size) (hc:∀ j u,news[j]?=some u->w.cell? (ad.add j)=some u) (h1c:∀ u∈news,u.oneCell'=true)
  (hfull:cap<n+m) (b1:n+m<=maxLen) (b2:(n+m)*bytes<=140737488355328)
  (hK:∀ v' w',w'.ownsRow w.heap.size e size v' (n+m) (olds++news)->w.grownBy w' none->K (a.put o.dst v') w') :
  if Region.wanted o (yielded ops a.tmps)=true then Oper.wp P o a w K Q else F:=by
 have hw:Region.wanted o (yielded ops a.tmps)=true:=by simp[Region.wanted,hgd]
 rw[if_pos hw]
 cases ao with
 | some b =>
  obtain⟨v',w',hrun,r1,r2⟩:=run_append_arg_grows (P:=P) w t o.type e i z size bytes h1 h2 h3 h4 h5 h6 h7 b n cap olds hlo (holds b rfl) ad m c news hn hc hfull b1 b2;unfold Oper.wp;simp[execOp,hop,resolve,invoke,builtin,hs,hx,hrun,Result.andThen];exact hK v' w' r1 r2
 | none =>
  obtain⟨rfl,rfl⟩:=hnone rfl;obtain rfl:olds=[]:=List.eq_nil_of_length_eq_zero (by simpa using hlo);obtain⟨v',w',hrun,r1,r2,_⟩:=run_append_own (P:=P) w w.heap.size t o.type e i z size bytes h1 h2 h3 h4 h5 h6 h7 (.slice none 0 0) 0 [] (World.ownsRow_nil w _ e size) ad m c news hn hc h1c b1 b2 (Nat.le_refl _);unfold Oper.wp;simp[execOp,hop,resolve,invoke,builtin,hs,hx,hrun,Result.andThen];exact hK v' w' r1 r2
theorem znL (q:List Int) (A:Option Addr) (c:Nat) (i:Int) (hi:I64 i) (S:Nat->Prop) (w:World) (hrow:RowI w S A q) (hlc:q.length<=c) (hl:q.length<=100000) :
  Calls Tryz.prog 138 #[.slice A q.length c,.int .i64 i] w (NewI w (q++[i])):=by
 obtain⟨i0,hi0,hz0,hz1,hz2⟩:=info_parts zmX;have ag:=zh hrow;have HI:=zh hi;have hbI:=zoF;have hm1:q.length+1<=maxLen:=by unfold maxLen;omega
 have hm2:(q.length+1)*8<=140737488355328:=by omega
 have hnone:A=none->q.length=0/\q.length=0:=fun h=>by
  subst h
  cases q with
  | nil=>simp
  | cons x xs=>obtain⟨_,h,_⟩:=hrow 0 (by simp);cases h
 have hold:∀ b,A=some b->∀ (j:Nat) u,(q.map fun x=>Value.int .i64 x)[j]?=some u->(w.alloc (.cells #[.int .i64 i] 3)).cell? (b.add j)=some u:=fun b hb j u hj=>by
  subst hb;exact zkj (hrow.news.1 j u hj) _
 have hnew:∀ (j:Nat) (u:Value),[Value.int .i64 i][j]?=some u->(w.alloc (.cells #[.int .i64 i] 3)).cell? ((⟨w.heap.size,0,none⟩:Addr).add j)=some u:=fun j u h=>by
  have:=zlw w 3 [Value.int .i64 i] j u h;simpa using this
 clear hrow hi;go_enter Tryz.func138,Tryz.ntmps138;go_wp2_with fail;refine(zsm A q.length c hlc (by unfold LI;omega) _).mono ?_;rintro e w' ⟨rfl,rfl⟩;go_wp2_with (at_builtin;refine wpList_append_grows (P:=Tryz.prog) _ rfl (.tmp 6) (.tmp 8) 24 rfl 3 i0 _ 1 8 Tryz.underlying24 hi0 hz0 hz1 hz2 rfl (by decide) A q.length q.length _ rfl hnone (by simp) hold ⟨w.heap.size,0,none⟩ 1 1 [.int .i64 i] rfl rfl hnew (by intro u hu;simp at hu;subst hu;rfl) (by omega) hm1 hm2 ?_;intro v' w' h2 h3)
 have h2':w'.ownsRow (w.heap.size+1) 3 1 v' (q++[i]).length ((q++[i]).map (fun x=>Value.int .i64 x)):=by
  have:=h2;simp only[World.size_alloc] at this;simpa using this
 have hbl:Below w.heap.size w w':=((Below.refl w.heap.size w).alloc (Nat.le_refl _) _).grown h3 (by simp) (fun g e=>by cases e);obtain⟨A',c',rfl,hcc,aL⟩:=zk2 h2' (by
  intro x hx;simp only[List.mem_append,List.mem_singleton] at hx;rcases hx with hx|rfl
  ·exact ag.out.fits x hx
  ·exact HI.out)
 have eH:=zh (aL.mono (S':=From w.heap.size) fun b hb=>by have:=(h2'.lt b hb).1;show w.heap.size<=b;omega);have HB:=zh hbl;have HC:=zh hcc;clear h2 h2' h3 hbl hold hnew aL hcc hnone;go_wp2_with fail;go_ret;exact⟨A',c',rfl,eH.out,HC.out,HB.out⟩
theorem zuu (s:ByteArray) (k:Int) (w:World):(Instr.build 83 #[(0,.string s),(1,.int .u8 k)]).run Tryz.prog w=.ok (.agg #[.string s,.int .u8 k,.int .i64 0]) w:=by kernel_rfl
theorem ztg (a0 a1 a2:Value) (w:World):(Instr.buildSlice 22 1 #[(0,.agg #[a0,a1,a2])]).run Tryz.prog w=.ok (.slice (some ⟨w.heap.size,0,none⟩) 1 1) (w.alloc (.cells #[a0,a1,a2] 83)):=by kernel_rfl
def zl6 (k:Int) (s:ByteArray) (i:Nat) (vs:List VD):List VD:=if k=54/\i=1 then vs++[⟨s,1,0⟩] else if k=55/\i=0 then vs++[⟨s,3,0⟩] else vs
def zto (w:World) (S:Nat->Prop) (vs:List VD) (e:Ending) (w':World):Prop:=∃ A' c',e=.returned (.slice A' vs.length c')/\RowV w' (fun b=>S b\/w.heap.size<=b) A' vs/\vs.length<=c'/\Below w.heap.size w w'
theorem zoS {w w':World} {base:Nat} {E:TypeId} {v:Value} {vs:List VD} {u:VD} {news:List Value} (hn:∀ i (hi:i<vs.length),news[i*3]?=some (.string vs[i].s)/\news[i*3+1]?=some (.int .u8 vs[i].k)/\news[i*3+2]?=some (.int .i64 vs[i].n))
  (hl:news.length=vs.length*3) (hf:∀ i (hi:i<vs.length),FldV vs[i]) (hu:FldV u) (h:w'.ownsRow base E 3 v (vs.length+1) (news++[.string u.s,.int .u8 u.k,.int .i64 u.n])) :
  ∃ A c,v=.slice A (vs++[u]).length c/\(vs++[u]).length<=c/\RowV w' (fun b=>base<=b) A (vs++[u]):=by
 rcases h.2 with⟨_,h0⟩|⟨g,cap,cur,rfl,hb,hg,hc,hm,hz,hx⟩
 ·omega
 ·refine⟨some ⟨g,0,none⟩,cap,by simp,by simpa using hc,fun i hi=>?_⟩;have ha:(⟨g,0,none⟩:Addr).add (i*3)=⟨g,i*3,none⟩:=by unfold Addr.add;split<;>simp_all
  have hcell:∀ j x,(news++[Value.string u.s,.int .u8 u.k,.int .i64 u.n])[j]?=some x->w'.cell? ⟨g,j,none⟩=some x:=fun j x hj=>by
   have hlt:=(List.getElem?_eq_some_iff.1 hj).1;rw[h.cellAt j (by simp at hlt;omega)];exact hj
  refine⟨⟨g,0,none⟩,rfl,hb,?_,?_⟩
  ·rw[ha];by_cases e:i<vs.length
   ·obtain⟨e0,e1,e2⟩:=hn i e;rw[List.getElem_append_left e];exact⟨hcell (i*3) _ (by rw[List.getElem?_append_left (by omega)];exact e0),hcell (i*3+1) _ (by rw[List.getElem?_append_left (by omega)];exact e1),hcell (i*3+2) _ (by rw[List.getElem?_append_left (by omega)];exact e2)⟩
   ·have e':i=vs.length:=by simp at hi;omega
    subst e';simp only[List.getElem_append_right (Nat.le_refl _),Nat.sub_self,List.getElem_cons_zero];exact⟨hcell (vs.length*3) _ (by rw[List.getElem?_append_right (by omega)];simp[hl]),hcell (vs.length*3+1) _ (by rw[List.getElem?_append_right (by omega)];simp[hl]),hcell (vs.length*3+2) _ (by rw[List.getElem?_append_right (by omega)];simp[hl])⟩
  ·by_cases e:i<vs.length
   ·rw[List.getElem_append_left e];exact hf i e
   ·have e':i=vs.length:=by simp at hi;omega
    subst e';simpa using hu
theorem zry (t:T) (i:Nat) (hi64:i<=4000000000) (vs:List VD) (A:Option Addr) (c:Nat) (S S':Nat->Prop) (v:Value) (w:World) (hv:NV w S' t v) (hrow:RowV w S A vs) (hlc:vs.length<=c) (hl:vs.length<=100000) :
  Calls Tryz.prog 140 #[v,.int .i64 i,.slice A vs.length c] w (zto w S (zl6 t.k t.s i vs)):=by
 obtain⟨i0,hi0,hz0,hz1,hz2⟩:=info_parts ztC;obtain⟨B,tc,rfl,hft,-⟩:=hv.open_;have ag:=zh hrow;have rZ:=zh hlc;have ji:=zh hft;have hb2:=zuu;have hbs:=ztg;have hm1:vs.length+1<=maxLen:=by unfold maxLen;omega
 have hm2:(vs.length+1)*32<=140737488355328:=by omega
 have hlv:vs.length<=LV:=by unfold LV;omega
 obtain⟨news,hnl,hnc,hn1,qY⟩:∃ news:List Value,news.length=vs.length*3/\(∀ b,A=some b->∀ (j:Nat) u,news[j]?=some u->w.cell? (b.add j)=some u)/\(A=none->vs.length=0/\vs.length=0)/\(∀ i (hi:i<vs.length),news[i*3]?=some (.string vs[i].s)/\news[i*3+1]?=some (.int .u8 vs[i].k)/\news[i*3+2]?=some (.int .i64 vs[i].n)):=by
  cases A with
  | none =>
   have h0:vs=[]:=by
    cases vs with
    | nil=>rfl
    | cons x xs=>obtain⟨_,h,_⟩:=hrow 0 (by simp);cases h
   subst h0;exact⟨[],rfl,(fun b h=>by cases h),(fun _=>⟨rfl,rfl⟩),fun i hi=>absurd hi (by simp)⟩
  | some a =>
   obtain⟨news,h1,h2,_,h4⟩:=hrow.news;exact⟨news,h1,(fun b h=>by injection h with h;subst h;exact h2),(fun h=>by cases h),h4⟩
 have HNV:=zh qY;have HFV:=zh (show ∀ i (hi:i<vs.length),FldV vs[i] from fun i hi=>(hrow i hi).choose_spec.2.2.2);clear hrow hlc hft hv qY;generalize t.k=tk,t.n=tn,t.s=ts,t.ks.length=tl at *
 obtain⟨V,hV⟩:∃ V,zl6 tk ts i vs=V:=⟨_,rfl⟩
 rw[hV];have HV:=zh hV;clear hV;have key:∀ (kd:Int) (hkd:kd=1\/kd=3) (W':World) (v':Value),(((w.alloc (.cells #[.int .u8 tk,.int .i64 tn,.string ts,.slice B tl tc] 29)).alloc (.cells #[.string ts,.int .u8 kd,.int .i64 0] 83)).drew).grownBy W' none ->
   W'.ownsRow ((w.alloc (.cells #[.int .u8 tk,.int .i64 tn,.string ts,.slice B tl tc] 29)).alloc (.cells #[.string ts,.int .u8 kd,.int .i64 0] 83)).drew.heap.size 83 3 v' (vs.length+1) (news++[.string ts,.int .u8 kd,.int .i64 0])->V=vs++[⟨ts,kd,0⟩]->zto w S V (.returned v') W':=by
  intro kd hkd W' v' hg ho hVV;subst hVV;obtain⟨A',c',rfl,hcc,hrr⟩:=zoS (w:=w) (u:=⟨ts,kd,0⟩) HNV.out hnl HFV.out ⟨ji.out.2.2,(show(0:Int)<=kd/\kd<256 by rcases hkd with rfl|rfl<;>decide),(by decide:(-9223372036854775808:Int)<=0/\(0:Int)<=9223372036854775807)⟩ ho;refine⟨A',c',rfl,hrr.mono fun b hb=>.inr ?_,hcc,?_⟩
  ·simp at hb;omega
  ·exact((((Below.refl w.heap.size w).alloc (Nat.le_refl _) _).alloc (by simp) _).drew).grown hg (by simp;omega) (fun g e=>by cases e)
 have HKEY:=zh key;have hnc':∀ o o' b,A=some b->∀ (j:Nat) u,news[j]?=some u->((w.alloc o).alloc o').drew.cell? (b.add j)=some u:=fun o o' b hb j u hj=>zkj (zkj (hnc b hb j u hj) o) o';have hnw:∀ (kd:Int) (j:Nat) (u:Value),[Value.string ts,.int .u8 kd,.int .i64 0][j]?=some u->((w.alloc (.cells #[.int .u8 tk,.int .i64 tn,.string ts,.slice B tl tc] 29)).alloc (.cells #[.string ts,.int .u8 kd,.int .i64 0] 83)).drew.cell? ((⟨w.heap.size+1,0,none⟩:Addr).add j)=some u:=fun kd j u h=>by
  have:=zlw (w.alloc (.cells #[.int .u8 tk,.int .i64 tn,.string ts,.slice B tl tc] 29)) 83 [Value.string ts,.int .u8 kd,.int .i64 0] j u h;simpa using this
 have kQ:=zh hnc';have iM:=zh hnw;clear key hnc hnc' hnw;by_cases gZ:tk=54/\i=1
 ·obtain⟨rfl,rfl⟩:=gZ;have bJ:=zh (show V=vs++[⟨ts,1,0⟩] by rw[<-HV.out];simp[zl6]);go_enter Tryz.func140,Tryz.ntmps140;go_wp2_with fail
  go_region_held3 (fun w'=>w'.cell? ⟨w.heap.size,2,none⟩=some (.string ts))
   (first|exact hk5|(simp;done))
   (first
    | (refine zlM (by rfl) (.tmp 16) (.tmp 20) 22 (by rfl) 83 i0 _ 3 32 Tryz.underlying22 hi0 hz0 hz1 hz2 rfl (by decide) A vs.length vs.length news (by rfl) hn1 hnl (kQ.out _ _) ⟨w.heap.size+1,0,none⟩ 1 1 [.string ts,.int .u8 1,.int .i64 0] (by rfl) rfl (iM.out 1) (by intro u hu;simp at hu;rcases hu with rfl|rfl|rfl<;>rfl) (by omega) hm1 hm2 ?_;intro v' w' h2 h3;have HF:=zh (HKEY.out 1 (.inl rfl) w' v' h3 h2 bJ.out);have hk5:w'.cell? ⟨w.heap.size,2,none⟩=some (.string ts):=(World.cell?_of_block (a:=⟨w.heap.size,2,none⟩) (h3.block _ (by simp;omega) (by simp))).trans (by simp);clear h2 h3)
    | (go_at_call 166;refine(zpd A vs.length c rZ.out hlv _).mono ?_;rintro e wq ⟨rfl,rfl⟩)
    | fail)
  all_goals
   clear hk5;go_wp2_with fail;go_ret;exact HF.out
 by_cases gY:tk=55/\i=0
 ·obtain⟨rfl,rfl⟩:=gY;have bJ:=zh (show V=vs++[⟨ts,3,0⟩] by rw[<-HV.out];simp[zl6]);go_enter Tryz.func140,Tryz.ntmps140;go_wp2_with fail
  go_region_held3 (fun w'=>w'.cell? ⟨w.heap.size,2,none⟩=some (.string ts))
   (first|exact hk5|(simp;done))
   (first
    | (refine zlM (by rfl) (.tmp 31) (.tmp 35) 22 (by rfl) 83 i0 _ 3 32 Tryz.underlying22 hi0 hz0 hz1 hz2 rfl (by decide) A vs.length vs.length news (by rfl) hn1 hnl (kQ.out _ _) ⟨w.heap.size+1,0,none⟩ 1 1 [.string ts,.int .u8 3,.int .i64 0] (by rfl) rfl (iM.out 3) (by intro u hu;simp at hu;rcases hu with rfl|rfl|rfl<;>rfl) (by omega) hm1 hm2 ?_;intro v' w' h2 h3;have HF:=zh (HKEY.out 3 (.inr rfl) w' v' h3 h2 bJ.out);have hk5:w'.cell? ⟨w.heap.size,2,none⟩=some (.string ts):=(World.cell?_of_block (a:=⟨w.heap.size,2,none⟩) (h3.block _ (by simp;omega) (by simp))).trans (by simp);clear h2 h3)
    | (go_at_call 166;refine(zpd A vs.length c rZ.out hlv _).mono ?_;rintro e wq ⟨rfl,rfl⟩)
    | fail)
  all_goals
   clear hk5;go_wp2_with fail;go_ret;exact HF.out
 have bJ:=zh (show V=vs by rw[<-HV.out];unfold zl6;rw[if_neg gZ,if_neg gY]);have HF:=zh (show ∀ o,zto w S V (.returned (.slice A vs.length c)) (w.alloc o) from fun o=>by
  rw[bJ.out];exact⟨A,c,rfl,(ag.out.later ((Below.refl _ _).alloc (Nat.le_refl _) _)).mono fun b hb=>.inl hb,rZ.out,(Below.refl _ _).alloc (Nat.le_refl _) _⟩)
 by_cases uG:tk=54
 ·subst uG;have hne:¬ i=1:=fun e=>gZ ⟨rfl,e⟩;have e1:(i==1)=false:=by simpa using hne
  have e2:((i:Int)==1)=false:=by simp;omega
  clear gZ gY hne;go_enter Tryz.func140,Tryz.ntmps140;go_wp2_with fail;go_ret;exact HF.out _
 have f54:(tk==54)=false:=by simpa using uG
 by_cases uF:tk=55
 ·subst uF;have hne:¬ i=0:=fun e=>gY ⟨rfl,e⟩;have e1:(i==0)=false:=by simpa using hne
  have e2:((i:Int)==0)=false:=by simp;omega
  clear gZ gY hne;go_enter Tryz.func140,Tryz.ntmps140;go_wp2_with fail;go_ret;exact HF.out _
 have f55:(tk==55)=false:=by simpa using uF
 clear gZ gY uG uF;go_enter Tryz.func140,Tryz.ntmps140;go_wp2_with fail;go_ret;exact HF.out _
end Go.Proofs.YtckhofdinldhpaaGreat
namespace Go.Proofs.YtckhofdinldhpaaGreat
open Go Go.RowKit
mutual
/-- The nodes of a tree,in pre-order. -/
def po:T->List T
 | .nd k n s ks=>.nd k n s ks::pos ks
def pos:List T->List T
 | []=>[]
 | t::ts=>po t++pos ts
end
mutual
/-- The depth of a tree. -/
def dep:T->Nat
 | .nd _ _ _ ks=>1+deps ks
def deps:List T->Nat
 | []=>0
 | t::ts=>max (dep t) (deps ts)
end
theorem ztR {t:T}:∀ {ks:List T},t∈ks->dep t<=deps ks
 | u::us,h=>by
  simp only[List.mem_cons] at h;rcases h with rfl|h
  ·simp only[deps];omega
  ·have:=ztR h;simp only[deps];omega
section
variable {C C' D:Nat->Prop} {W W':World} {n0 l yb pb vb:Nat} {pv pv':Value} {q q':List Int}
end
def zvG (w:World) (xs:List Int) (v:Value) (w':World):Prop:=∃ A' c',v=.slice A' xs.length c'/\RowI w' (From w.heap.size) A' xs/\xs.length<=c'/\Below w.heap.size w w'
theorem znb {P:Program} {f:FuncId} {args:Array Value} {w:World} {xs:List Int} (h:Calls P f args w (NewI w xs)):Calls P f args w fun e w'=>∃ v,e=.returned v/\zvG w xs v w' :=
 h.mono fun _ _ ⟨A,c,he,hn⟩=>⟨_,he,A,c,rfl,hn⟩
structure FS (W:World) (n0 fb N:Nat) (pv:Value):Prop where
 box:W.heap[fb]?=some (.cells #[pv] 106 (0,0))
 row:∃ xs,W.ownsRow n0 154 4 pv N xs
 ge:n0<=fb
 ne:pv.ownBlock≠some fb
section
variable {W W':World} {n0 fb N N':Nat} {pv pv':Value}
theorem FS.lt (h:FS W n0 fb N pv):fb<W.heap.size/\∀ b,pv.ownBlock=some b->n0<=b/\b<W.heap.size:=⟨zko h.box,let ⟨_,hr⟩:=h.row;hr.lt⟩
theorem FS.chg {C:Nat->Prop} (h:FS W n0 fb N pv) (hc:Chg C W W') (hC:∀ b,b=fb\/pv.ownBlock=some b->¬ C b):FS W' n0 fb N pv:=by
 refine⟨hc.keep h.box (hC _ (.inl rfl)),?_,h.ge,h.ne⟩;obtain⟨xs,e1,h2⟩:=h.row;refine⟨xs,e1,?_⟩;rcases h2 with h2|⟨g,cap,cur,rfl,hb,hg,h3⟩
 ·exact .inl h2
 ·exact .inr ⟨g,cap,cur,rfl,hb,hc.keep hg (hC _ (.inr rfl)),h3⟩
theorem FS.later (h:FS W n0 fb N pv) (hb:Below W.heap.size W W'):FS W' n0 fb N pv:=h.chg (C:=fun _=>False) (Chg.of_below hb) (fun _ _ h=>h)
theorem FS.put (h:FS W n0 fb N pv) (ho:∃ xs,W'.ownsRow n0 154 4 pv' N' xs) (hg:W.grownBy W' pv.ownBlock) (ak:∀ b,pv'.ownBlock=some b->pv.ownBlock=some b\/W.heap.size<=b) :
  FS (W'.setCell ⟨fb,0,none⟩ pv') n0 fb N' pv':=by
 have hp':W'.heap[fb]?=some (.cells #[pv] 106 (0,0)):=(hg.block _ (zko h.box) (fun e=>h.ne e.symm)).trans h.box;have nO:pv'.ownBlock≠some fb:=fun e=>by
  rcases ak _ e with e|e
  ·exact h.ne e
  ·have:=zko h.box;omega
 refine⟨by have:=heap_setCell_same W' fb 0 _ _ pv' hp';simpa using this,?_,h.ge,nO⟩;obtain⟨xs,e1,h2⟩:=ho;refine⟨xs,e1,?_⟩;rcases h2 with h2|⟨g,cap,cur,rfl,hb,hg',h3⟩
 ·exact .inl h2
 ·refine .inr ⟨g,cap,cur,rfl,hb,?_,h3⟩;rw[Below.heap_setCell _ _ _ _ (fun e=>nO (by subst e;rfl))];exact hg'
theorem FS.slice (h:FS W n0 fb N pv):∃ A c,pv=.slice A N c:=by
 obtain⟨xs,e1,h2⟩:=h.row;rcases h2 with⟨rfl,rfl⟩|⟨g,cap,cur,rfl,_⟩
 ·exact⟨_,_,rfl⟩
 ·exact⟨_,_,rfl⟩
end
def RepP (W:World) (n0 fb:Nat) (pv:Value) (N':Nat) (e:Ending) (W':World):Prop :=
 (∃ v,e=.returned v)/\∃ pv',FS W' n0 fb N' pv'/\(∀ b,pv'.ownBlock=some b->pv.ownBlock=some b\/W.heap.size<=b)/\Chg (fun b=>b=fb\/pv.ownBlock=some b) W W'
def one1 (e:Int):Nat:=if e=0 then 0 else 1
theorem zuk:(Tryz.prog.info? 154).map (fun i=>(i.zero,i.size,i.bytes))=some (some (.agg #[.int .i64 0,.slice none 0 0,.int .i64 0,.string ⟨#[]⟩]),4,56):=by kernel_rfl
theorem zu4 (p:Int) (A:Option Addr) (l c:Nat) (e:Int) (s:ByteArray) (w:World):(Instr.build 154 #[(0,.int .i64 p),(1,.slice A l c),(2,.int .i64 e),(3,.string s)]).run Tryz.prog w=.ok (.agg #[.int .i64 p,.slice A l c,.int .i64 e,.string s]) w:=by kernel_rfl
theorem zuy (a0 a1 a2 a3:Value) (w:World):(Instr.buildSlice 106 1 #[(0,.agg #[a0,a1,a2,a3])]).run Tryz.prog w=.ok (.slice (some ⟨w.heap.size,0,none⟩) 1 1) (w.alloc (.cells #[a0,a1,a2,a3] 154)):=by kernel_rfl
theorem zmh (n0 fb N:Nat) (pv:Value) (pr er:Int) (q:List Int) (A:Option Addr) (c:Nat) (s:ByteArray) (S:Nat->Prop) (W:World) (hfs:FS W n0 fb N pv) (hq:RowI W S A q) (mq:q.length<=100000) (hN:N<=1000000) :
  Calls Tryz.prog 92 #[.int .i64 pr,.slice A q.length c,.string s,.int .i64 er,.pointer (some ⟨fb,0,none⟩)] W (RepP W n0 fb pv (N+one1 er)):=by
 obtain⟨i0,hi0,hz0,hz1,hz2⟩:=info_parts zuk;obtain⟨Ap,cp,rfl⟩:=hfs.slice;have sw:=zh hfs;have HQ:=zh hq;have hc0:W.cell? ⟨fb,0,none⟩=some (.slice Ap N cp):=zc hfs.box rfl;have hbf:=zu4;have hbs:=zuy;have hge:=hfs.ge;have hlf:=hfs.lt.1;clear hfs hq;by_cases he:er=0
 ·subst he;clear hc0;go_enter Tryz.func92,Tryz.ntmps92;go_wp2_with fail;go_end0;exact⟨⟨_,rfl⟩,_,sw.out,fun b hb=>.inl hb,Chg.refl _ _⟩
 ·have e1:(er==0)=false:=by simpa using he
  have e2:(er != 0)=true:=by simpa using he
  have HONE:=zh (show one1 er=1 by simp[one1,he]);rw[HONE.out];clear he;go_enter Tryz.func92,Tryz.ntmps92;go_upto_region 1 with fail;have hSS:(fun _:World=>True) W.drew/\(fun w':World=>w'.cell? ⟨fb,0,none⟩=some (.slice Ap N cp)) W.drew:=⟨trivial,hc0⟩
  refine wp_region_noPanic ?_;refine zke (fun _:World=>True) (fun w':World=>w'.cell? ⟨fb,0,none⟩=some (.slice Ap N cp)) 8 (by kernel_rfl) ?_;refine zkO (i:=0) (v:=?_) rfl (by kernel_rfl) (by kernel_rfl) (by kernel_rfl) (by decide) rfl (by kernel_rfl) (by kernel_rfl) (fun _ _ _ h=>h) (Or.inl ⟨by rfl,?_⟩) hSS ?_;rotate_left 1
  ·(intro w hSw;(try dsimp only at hSw);(try simp only[zA,zB,zC]);go_simp;(try with_reducible rfl))
  (try simp only[zQ]);refine zT 1 hSS ?_;(try simp only[zQ]);refine zT 2 hSS ?_;(try simp only[zQ]);refine zT 4 hSS ?_;(try simp only[zQ]);refine zT 5 hSS ?_;(try simp only[zQ]);refine zo 3 fun K hK=>?_;refine zql (by rfl) (.func 49) (.tmp 13) _ (by rfl) 49 _ zml (by rfl) _ (by rfl) _ (znb (zqZ q A c S _ (HQ.out.later (Below.refl _ _).drew) (by unfold LI;omega))) ?_;rintro v2 w2 ⟨A2,c2,rfl,_,_,aj⟩;have b2:=zka (Below.refl W.heap.size W).drew aj;have eT:=sw.out.later b2;have g2:w2.cell? ⟨fb,0,none⟩=some (.slice Ap N cp):=zc eT.box rfl;have aA:(fun _:World=>True) w2/\(fun w':World=>w'.cell? ⟨fb,0,none⟩=some (.slice Ap N cp)) w2:=⟨trivial,g2⟩
  refine hK.out _ _ aA ?_;clear hK K hSS;(try simp only[zQ]);refine zT 6 aA ?_;(try simp only[zQ]);refine zo 7 fun K hK=>?_;(try simp only[zA,zB,zC]);go_simp;refine hK.out _ _ ⟨trivial,zkj g2 _⟩ ?_;clear hK K aA;(try simp only[zQ]);obtain⟨xs,hrow⟩:=eT.row;have hl2:=eT.lt;refine zp 8 fun K hK=>?_;refine zky (by rfl) (.tmp 11) (.tmp 18) 106 (by rfl) n0 154 i0 _ 4 56 Tryz.underlying106 hi0 hz0 hz1 hz2 rfl (by decide) (.slice Ap N cp) N xs (by rfl) (hrow.alloc _) ⟨w2.heap.size,0,none⟩ 1 1 [.int .i64 pr,.slice A2 q.length c2,.int .i64 er,.string s] (by rfl) rfl (zlw w2 _ _) (by intro u hu;simp at hu;rcases hu with rfl|rfl|rfl|rfl<;>rfl) (by unfold maxLen;omega) (by omega) (by simp;omega) ?_;intro v' w' h2 h3 h5
  have hput:=eT.put (W':=w') (pv':=v') (N':=N+1) ⟨_,h2⟩ ⟨h3.os,h3.tape,h3.output,Nat.le_trans (by simp) h3.size,fun b hb hne=>(h3.block b (by simp;omega) hne).trans (Below.heap_alloc w2 _ b hb)⟩ (fun b hb=>by rcases h5 with h5|h5;exact .inl (h5▸hb);exact .inr (by rw[h5] at hb;injection hb with hb;simp at hb;omega));have kV:∀ b,v'.ownBlock=some b->(Value.slice Ap N cp).ownBlock=some b\/W.heap.size<=b:=fun b hb=>by
   have:=b2.size;rcases h5 with h5|h5
   ·exact .inl (h5▸hb)
   ·exact .inr (by rw[h5] at hb;injection hb with hb;simp at hb;omega)
  have hch:Chg (fun b=>b=fb\/(Value.slice Ap N cp).ownBlock=some b) W (w'.setCell ⟨fb,0,none⟩ v'):=(((Chg.of_below b2).alloc _).trans2 (Chg.row h3) (fun b _ h=>.inr h)).setCell (.inl (.inl rfl)) _;have hbx:=(h3.block _ (by have:=zko eT.box;simp;omega) (fun e=>eT.ne e.symm)).trans (zkr eT.box _);have hy0:w'.cell? ⟨fb,0,none⟩=some (.slice Ap N cp):=zc hbx rfl;have hy1:w'.frozen? ⟨fb,0,none⟩=false:=zf hbx;obtain⟨g8,aI,rfl⟩:=ownsRow_succ h2;have HP:=zh hput;have HO:=zh kV;have aJ:=zh hch;clear hput kV hch hbx h2 h3 h5 hrow eT;refine hK.out _ _ trivial ?_;clear hK K;(try simp only[zQ]);refine zp 9 fun K hK=>?_;(try simp only[zA,zB,zC]);go_simp;refine hK.out _ _ trivial ?_;clear hK K;(try simp only[zQ]);refine zd ?_;refine NoPanic.normal ?_;go_wp2_with fail;go_end0;exact⟨⟨_,rfl⟩,_,HP.out,HO.out,aJ.out⟩
structure RepC (f:FuncId) (cap:Array Value) (Rd:World->Prop) (n0 fb:Nat):Prop where
 fn:∃ fn,IsFn Tryz.prog f fn
 keep:∀ W W' pv N,Rd W->FS W n0 fb N pv->Chg (fun b=>b=fb\/pv.ownBlock=some b) W W'->Rd W'
 call:∀ (N:Nat) (pv:Value) (er:Int) (q:List Int) (A:Option Addr) (c:Nat) (s:ByteArray) (S:Nat->Prop) (W:World),Rd W->FS W n0 fb N pv->RowI W S A q->q.length<=100000->N<=1000000 ->
  Calls Tryz.prog f (#[.slice A q.length c,.string s,.int .i64 er]++cap) W (RepP W n0 fb pv (N+one1 er))
theorem FS.other {W:World} {n0 fb N:Nat} {pv:Value} {b:Nat} {cs:Array Value} {E:TypeId} (h:FS W n0 fb N pv) (hb:W.heap[b]?=some (.cells cs E (0,0))) (h1:E≠106) (h2:E≠154):¬ (b=fb\/pv.ownBlock=some b):=by
 rintro(rfl|ho)
 ·have:=h.box;rw[hb] at this;injection this with this;injection this with _ e;exact h1 e
 ·obtain⟨xs,e1,h2'⟩:=h.row;rcases h2' with⟨rfl,_⟩|⟨g,cap,cur,rfl,_,hg,_⟩
  ·simp[Value.ownBlock] at ho
  ·simp[Value.ownBlock] at ho;subst ho;rw[hb] at hg;injection hg with hg;injection hg with _ e;exact h2 e
theorem zuZ:IsFn Tryz.prog 96 Tryz.f96:=⟨Tryz.func96,by kernel_rfl,by kernel_rfl⟩
theorem zuY:IsFn Tryz.prog 97 Tryz.f97:=⟨Tryz.func97,by kernel_rfl,by kernel_rfl⟩
theorem zqf (n0 fb rb ib:Nat) (k:Int):RepC 96 #[.pointer (some ⟨rb,0,none⟩),.pointer (some ⟨ib,0,none⟩)]
  (fun W=>W.heap[rb]?=some (.cells #[.func (.func 92) #[] #[.pointer (some ⟨fb,0,none⟩)]] 155 (0,0))/\W.heap[ib]?=some (.cells #[.int .i64 k] 3 (0,0))) n0 fb where
 fn:=⟨_,zuZ⟩
 keep W W' pv N h hfs hc:=⟨hc.keep h.1 (hfs.other h.1 (by decide) (by decide)),hc.keep h.2 (hfs.other h.2 (by decide) (by decide))⟩
 call N pv er q A c s S W h hfs hq mq hN:=by
  have x0:W.cell? ⟨rb,0,none⟩=some (.func (.func 92) #[] #[.pointer (some ⟨fb,0,none⟩)]):=zc h.1 rfl;have x1:W.cell? ⟨ib,0,none⟩=some (.int .i64 k):=zc h.2 rfl;have HC:=zh (zmh n0 fb N pv k er q A c s S W hfs hq mq hN);clear h hfs hq
  show Calls Tryz.prog 96 #[.slice A q.length c,.string s,.int .i64 er,.pointer (some ⟨rb,0,none⟩),.pointer (some ⟨ib,0,none⟩)] W _
  go_enter Tryz.func96,Tryz.ntmps96;go_wp2_with fail;refine HC.out.mono ?_;rintro e W' ⟨⟨v,rfl⟩,hp⟩;have HP:=zh hp;clear hp;go_wp2_with fail;go_end0;exact⟨⟨_,rfl⟩,HP.out⟩
theorem ztA (n0 fb rb pb:Nat) (A1:Option Addr) (l1 c1:Nat) (A2:Option Addr) (l2 c2:Nat) (k n:Int) (sn:ByteArray) (A3:Option Addr) (l3 c3:Nat):RepC 97 #[.pointer (some ⟨rb,0,none⟩),.pointer (some ⟨pb,0,none⟩)]
  (fun W=>W.heap[rb]?=some (.cells #[.func (.func 92) #[] #[.pointer (some ⟨fb,0,none⟩)]] 155 (0,0))/\W.heap[pb]?=some (.cells #[.slice A1 l1 c1,.slice A2 l2 c2,.int .u8 k,.int .i64 n,.string sn,.slice A3 l3 c3] 35 (0,0))) n0 fb where
 fn:=⟨_,zuY⟩
 keep W W' pv N h hfs hc:=⟨hc.keep h.1 (hfs.other h.1 (by decide) (by decide)),hc.keep h.2 (hfs.other h.2 (by decide) (by decide))⟩
 call N pv er q A c s S W h hfs hq mq hN:=by
  have x0:W.cell? ⟨rb,0,none⟩=some (.func (.func 92) #[] #[.pointer (some ⟨fb,0,none⟩)]):=zc h.1 rfl;have x1:W.cell? ⟨pb,1,none⟩=some (.slice A2 l2 c2):=zc h.2 rfl;have HC:=zh (zmh n0 fb N pv l2 er q A c s S W hfs hq mq hN);clear h hfs hq
  show Calls Tryz.prog 97 #[.slice A q.length c,.string s,.int .i64 er,.pointer (some ⟨rb,0,none⟩),.pointer (some ⟨pb,0,none⟩)] W _
  go_enter Tryz.func97,Tryz.ntmps97;go_wp2_with fail;refine HC.out.mono ?_;rintro e W' ⟨⟨v,rfl⟩,hp⟩;have HP:=zh hp;clear hp;go_wp2_with fail;go_end0;exact⟨⟨_,rfl⟩,HP.out⟩
end Go.Proofs.YtckhofdinldhpaaGreat
