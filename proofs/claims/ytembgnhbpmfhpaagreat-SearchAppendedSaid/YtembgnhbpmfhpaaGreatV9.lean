/-
  Texts of the proof, put together without their remarks: It, Lim, Val, Scp, Ik, Im, Iz, Ia, ScA, ClW, ScC, Wp, ScR.
-/
import Derived.Test.YtembgnhbpmfhpaaGreatV8
import Derived.Tactics
import Derived.Tactics2
import Derived.Defers
import Derived.ArgAppend
set_option linter.unusedSimpArgs false
set_option linter.unusedVariables false
set_option maxHeartbeats 8000000
set_option maxRecDepth 100000
namespace Go.Proofs.YtembgnhbpmfhpaaGreat
open Tryz
section
open Go Go.RowKit
def lsR(prs:List PR)(F:Int)(g:Nat)(back:Bool)(t:T)(r:RS):Out :=
 (zkK (zkt prs F g back) (blkL back (kid t 0)) r).bind fun r=>(zkB F r).bind fun r=>zkj r (zkG r.S t.s 0)
def lsO(prs:List PR)(F:Int)(g:Nat)(back:Bool)(t:T)(r:RS):Out :=
 (zkB F r).bind fun r=>(zkj r (zk4 r.S ⟨t.s,3,0⟩ 0)).bind (lsR prs F g back t)
theorem zyq{G:List PR->T->Prop}{g:Nat}(hS:IStC G g){C:RC}(hC:C.Ok){W:World}{r:RS}(h:RI C W r)(t:T)(v:Value)(back:Bool)(hv:NV C.w Any t v)(hk0:t.k=55)(hk:t.ks.length=1)(hG1:∀u∈(kid t 0).ks,G C.p.prs u)
  (aG:lsO C.p.prs C.F g back t r ≠ .gas) :
  Calls prog 137 #[.pointer (some ⟨C.rb,0,none⟩),v,.bool back] W (RunP C W (lsO C.p.prs C.F g back t r)):=by
 have HV:=zh hv;have H:=zh h;have HS:=zh hS;have nH:=zh hk;obtain⟨A,c,rfl,-,hlk,hlc,hrow⟩:=hv.open_;have af:=zh hrow;have hb0:=zkb (zs W) (.cells #[.int .u8 t.k,.int .i64 t.n,.string t.s,.slice A t.ks.length c] 41);obtain⟨di,h1⟩:=h.plus hC hb0;have k0:=heap_alloc_new W (.cells #[.int .u8 t.k,.int .i64 t.n,.string t.s,.slice A t.ks.length c] 41);obtain⟨x0,x1,x2,x3⟩:=box4 k0;have bT:=zh (Kpt.of_below (n0:=C.n0) (kb:=C.kb) hb0);obtain⟨w3,hw3⟩:=zX (W.alloc (.cells #[.int .u8 t.k,.int .i64 t.n,.string t.s,.slice A t.ks.length c] 41));rw[hw3]at di h1 k0 x0 x1 x2 x3 bT;have l0:=zko k0;have K0:=zh k0;obtain⟨hi,hhi⟩:=zX (w3.heap.size);rw[hhi]at di h1 l0;have lU:=zh di;have iT:=zh (zl1 di h1);obtain⟨o,ho⟩:=zX (lsO C.p.prs C.F g back t r);have bP:=zh ho;have HO:=zh (show(zkB C.F r).bind (fun r=>(zkj r (zk4 r.S ⟨t.s,3,0⟩ 0)).bind (lsR C.p.prs C.F g back t))=o from ho)
 rw[ho]at aG ⊢;have dA:=zh aG;rw[hk0]at hw3;have hw3':=hw3;clear hv hb0 di h1 k0 h hk ho aG hrow hS hlk;have HKK:=zh hk0;rw[hk0]at x0;rw[hk0];clear hk0;go_enter func137,ntmps137;go_wp2_with fail;refine iT.out.mono ?_;rintro e w4 ⟨hk4,hb4,fq⟩;have dM:=zh (bT.out.trans (Kpt.less (C:=C) hk4));have aF:=zh (show Below C.w.heap.size C.w w4 from hb4);have bD:match zkB C.F r with
  | .gas=>True
  | .err x=>e=zlK x
  | .ok r=>(∃u,e=.returned u)/\RI (C.plus W.heap.size hi) w4 r:=fq
 have dU:=zh hk4;clear x0 x1 x2 x3 iT hk4 hb4 fq hw3 hw3'
 cases hy:zkB C.F r with
 | gas=>exact absurd hy (zkv _ _).1
 | err x =>
  rw[hy]at bD;subst bD;refine⟨rfl,dM.out,aF.out,?_⟩
  try rw[bP.out]
  rw[<-HO.out,hy];rfl
 | ok r1 =>
  rw[hy]at bD;obtain⟨⟨u3,rfl⟩,hr1⟩:=bD;have HR4:=zh hr1;have jc:=zh (show(zkj r1 (zk4 r1.S ⟨t.s,3,0⟩ 0)).bind (lsR C.p.prs C.F g back t)=o by rw[<-HO.out,hy];rfl);have bU:=zh (show FB r.n r1.S/\r1.n=r.n+1 by obtain⟨rfl,-⟩:=zkU hy;exact⟨H.out.fb,rfl⟩);have j0:=dU.out.blk (.inr (.inr ⟨zl,l0⟩)) K0.out;have hSS:zW (fun w':World=>zv w' C.rb 6 (.pointer (some ⟨C.sb,0,none⟩))/\zv w' W.heap.size 2 (.string t.s)) zU w4.drew:=⟨⟨hr1.cells.1,zc j0 rfl⟩,trivial⟩
  clear hr1 hy j0;go_upto_region 14 with fail;refine zG hSS 9 ?_;refine zT 0 hSS ?_;refine zT 1 hSS ?_;refine zT 2 hSS ?_;refine zT 3 hSS ?_;refine zT 4 hSS ?_;refine zT 5 hSS ?_;refine zT 6 hSS ?_;refine zT 7 hSS ?_;obtain⟨R,hR⟩:=zX (zk4 r1.S ⟨t.s,3,0⟩ 0);have HRR:=zh hR;have iE:=bU.out.1.cur;have wW:=H.out.n;have hbd:Below w4.heap.size w4 w4.drew:=zr.drew;have had:Calls prog 181 [.pointer (some ⟨C.sb,0,none⟩),.agg #[.string t.s,.int .u8 3,.int .i64 0],.int .i64 0].toArray w4.drew fun e w'=>∃v,e=.returned v/\(v=.int .i64 R.1/\RI (C.plus W.heap.size hi) w' { r1 with S:=R.2 }/\Kpt C.n0 (C.plus W.heap.size hi).kb w4 w') :=
   ((HR4.out.later hbd).ks.open_ ⟨t.s,3,0⟩ (by obtain⟨_,_,_,hf,-⟩:=HV.out.open_;exact⟨hf.2.2,⟨by simp only;omega,by simp only;omega⟩,⟨by simp only;omega,by simp only;omega⟩⟩) 0 zero_I64 (by omega)).mono fun e w' ⟨h1,h2,h3⟩=>by
    have hs:=RI.store (C:=C.plus W.heap.size hi) (HR4.out.later hbd) (hR▸h2) h3 (by rw[bU.out.2,<-hR];exact bU.out.1.open_ _ _);exact⟨_,h1,by rw[hR],hs.1,(Kpt.of_below hbd).trans hs.2⟩
  refine zo 8 fun K hK=>?_;refine zlz (by rfl) (.func 181) [.tmp 53,.tmp 56,.const (.int .i64 0)] _ (by rfl) 181 _ zuE (by rfl) _ (by rfl) _ had ?_;rintro v6 w6 ⟨rfl,dO,bS⟩;have fH:=zh (dU.out.trans bS);have j0:=fH.out.blk (.inr (.inr ⟨zl,l0⟩)) K0.out;have gL:=zh dO;have av:(fun w':World=>zv w' C.rb 6 (.pointer (some ⟨C.sb,0,none⟩))/\zv w' W.heap.size 2 (.string t.s)) w6:=⟨dO.cells.1,zc j0 rfl⟩
  refine hK.out _ _ ⟨av,trivial⟩ ?_;have mW:=zh av;have aU:=zh dO.below;clear hK K had dO bS j0 av hSS;(try simp only[zQ]);have dS:=zh (bT.out.trans (Kpt.less (C:=C) fH.out));rw[hR]at jc;have had:=zlm ⟨C.rb,0,none⟩ R.1 w6;refine zp 9 fun K hK=>?_;refine zlc (by rfl) (.func 180) [.tmp 49,.tmp 57] _ (by rfl) 180 _ zmm (by rfl) _ (by rfl) (fun v w'=>w'=w6/\R.1=0) (had.mono ?_) ?_
  ·rintro e y1 ⟨rfl,hv1⟩;rcases hv1 with⟨h0,u0,rfl⟩|⟨h0,rfl⟩
   ·exact .inl ⟨_,rfl,rfl,h0⟩
   ·refine .inr ⟨_,rfl,?_⟩;refine⟨rfl,dS.out,aU.out,?_⟩
    try rw[bP.out]
    rw[<-jc.out,show zkj r1 R=.err R.1 by unfold zkj;rw[if_pos h0]];rfl
  rintro v7 w7 ⟨rfl,h0⟩;have qo:=zh (show lsR C.p.prs C.F g back t { r1 with S:=R.2 }=o by rw[<-jc.out,show zkj r1 R=.ok { r1 with S:=R.2 } by unfold zkj;rw[if_neg (by simpa using h0)]];rfl);refine hK.out _ _ mW.out ?_;clear hK K had h0;(try simp only[zQ]);refine zd ?_;obtain⟨r2,hr2⟩:=zX (({ r1 with S:=R.2 }:RS));rw[hr2]at gL qo;have hI:0<t.ks.length:=by have:=nH.out;omega
  have hI1:(0:Int)<(t.ks.length:Int):=by omega
  obtain⟨a,u,Au,cu,rfl,-,hu,⟨p0,p1,p2,p3⟩,hnu⟩:=af.out.nd hI;have gG:kid t 0=u:=by unfold kid;rw[List.getD_eq_getElem?_getD,List.getElem?_eq_getElem hI];exact hu.out
  have uL:=zh (show ∀x∈u.ks,G C.p.prs x by rw[<-gG];exact hG1);have kT:=zh (show(runO C.p.prs C.F g back u r2).bind (fun r=>(zkB C.F r).bind fun r=>zkj r (zkG r.S t.s 0))=o by rw[<-qo.out,<-gG];rfl);have hgu:runO C.p.prs C.F g back u r2 ≠ .gas:=fun e=>dA.out (by rw[<-kT.out,e];rfl);have aC:=zh (zlq HS.out lU.out gL.out u _ back hnu uL.out hgu);have ha:a.add (0*4)=a:=by unfold Addr.add;simp
  rw[ha]at p0 p1 p2 p3;have q0:=zb aU.out p0;have q1:=zb aU.out p1;have q2:=zb aU.out p2;have q3:=zb aU.out p3;have j0:=fH.out.blk (.inr (.inr ⟨zl,l0⟩)) K0.out;have q4:=zc (i:=3) j0 rfl;clear gG hnu hu p0 p1 p2 p3 hgu ha j0 iE wW hG1;go_wp2_with fail;refine aC.out.mono ?_;rintro e w8 ⟨jU,dh,qL⟩;have nJ:=zh (fH.out.trans jU);have vZ:=zh (bT.out.trans (Kpt.less (C:=C) nJ.out));have eY:=zh (show Below C.w.heap.size C.w w8 from dh);have cz:match runO C.p.prs C.F g back u r2 with
   | .gas=>True
   | .err x=>e=zlK x
   | .ok r=>(∃u,e=.returned u)/\RI (C.plus W.heap.size hi) w8 r:=qL
  clear q0 q1 q2 q3 q4 jU dh qL aC
  cases hx:runO C.p.prs C.F g back u r2 with
  | gas=>exact absurd (by rw[<-kT.out,hx];rfl) dA.out
  | err x =>
   rw[hx]at cz;subst cz;refine⟨rfl,vZ.out,eY.out,?_⟩
   try rw[bP.out]
   rw[<-kT.out,hx];rfl
  | ok r3 =>
   rw[hx]at cz;obtain⟨⟨u9,rfl⟩,hr3⟩:=cz;have HST:=zh (zl1 lU.out hr3);have jX:=zh (show((zkB C.F r3).bind fun r=>zkj r (zkG r.S t.s 0))=o by rw[<-kT.out,hx];rfl);have ig:=zh hr3;clear hx hr3;go_wp2_with fail;refine HST.out.mono ?_;rintro e w9 ⟨aI,aZ,dP⟩;have iR:=zh (nJ.out.trans aI);have iq:=zh (bT.out.trans (Kpt.less (C:=C) iR.out));have aH:=zh (show Below C.w.heap.size C.w w9 from aZ);have gy:match zkB C.F r3 with
    | .gas=>True
    | .err x=>e=zlK x
    | .ok r=>(∃u,e=.returned u)/\RI (C.plus W.heap.size hi) w9 r:=dP
   clear aI aZ dP HST
   cases hy:zkB C.F r3 with
   | gas=>exact absurd (by rw[<-jX.out,hy];rfl) dA.out
   | err x =>
    rw[hy]at gy;subst gy;refine⟨rfl,iq.out,aH.out,?_⟩
    try rw[bP.out]
    rw[<-jX.out,hy];rfl
   | ok r4 =>
    rw[hy]at gy;obtain⟨⟨u9,rfl⟩,hr4⟩:=gy;have bJ:=zh hr4;have iU:=zh (show FB r3.n r4.S/\r4.n=r3.n+1 by obtain⟨rfl,-⟩:=zkU hy;exact⟨ig.out.fb,rfl⟩);obtain⟨Rc,lH⟩:=zX (zkG r4.S t.s 0);have iN:=zh (show zkj r4 Rc=o by rw[<-jX.out,hy,<-lH];rfl);have j0:=iR.out.blk (.inr (.inr ⟨zl,l0⟩)) K0.out;have hSS:zW (fun w':World=>zv w' C.rb 6 (.pointer (some ⟨C.sb,0,none⟩))/\zv w' W.heap.size 2 (.string t.s)) zU w9.drew:=⟨⟨hr4.cells.1,zc j0 rfl⟩,trivial⟩
    clear hr4 hy j0;go_upto_region 17 with fail;refine zG hSS 8 ?_;refine zT 0 hSS ?_;refine zT 1 hSS ?_;refine zT 2 hSS ?_;refine zT 3 hSS ?_;refine zT 4 hSS ?_;refine zT 5 hSS ?_;refine zT 6 hSS ?_;have tF:Below w9.heap.size w9 w9.drew:=zr.drew;have had:Calls prog 182 [.pointer (some ⟨C.sb,0,none⟩),.string t.s,.int .i64 0].toArray w9.drew fun e w'=>∃v,e=.returned v/\(v=.int .i64 Rc.1/\RI (C.plus W.heap.size hi) w' { r4 with S:=Rc.2 }/\Kpt C.n0 (C.plus W.heap.size hi).kb w9 w') :=
     ((bJ.out.later tF).ks.close t.s 0).mono fun e w' ⟨h1,h2,h3⟩=>by
      have hs:=RI.store (C:=C.plus W.heap.size hi) (bJ.out.later tF) (lH▸h2) h3 (by rw[iU.out.2,<-lH];exact iU.out.1.close_ _ _);exact⟨_,h1,by rw[lH],hs.1,(Kpt.of_below tF).trans hs.2⟩
    refine zo 7 fun K hK=>?_;refine zlz (by rfl) (.func 182) [.tmp 72,.tmp 74,.const (.int .i64 0)] _ (by rfl) 182 _ zsn (by rfl) _ (by rfl) _ had ?_;rintro v11 aQ ⟨rfl,gu,iC⟩;have fT:=zh (iR.out.trans iC);have j0:=fT.out.blk (.inr (.inr ⟨zl,l0⟩)) K0.out;have kR:=zh gu;have av:(fun w':World=>zv w' C.rb 6 (.pointer (some ⟨C.sb,0,none⟩))/\zv w' W.heap.size 2 (.string t.s)) aQ:=⟨gu.cells.1,zc j0 rfl⟩
    refine hK.out _ _ ⟨av,trivial⟩ ?_;have mW:=zh av;have bN:=zh gu.below;clear hK K had gu iC j0 av hSS;(try simp only[zQ]);have dF:=zh (bT.out.trans (Kpt.less (C:=C) fT.out));have had:=zlm ⟨C.rb,0,none⟩ Rc.1 aQ;refine zp 8 fun K hK=>?_;refine zlc (by rfl) (.func 180) [.tmp 68,.tmp 75] _ (by rfl) 180 _ zmm (by rfl) _ (by rfl) (fun v w'=>w'=aQ/\Rc.1=0) (had.mono ?_) ?_
    ·rintro e y1 ⟨rfl,hv1⟩;rcases hv1 with⟨h0,u0,rfl⟩|⟨h0,rfl⟩
     ·exact .inl ⟨_,rfl,rfl,h0⟩
     ·refine .inr ⟨_,rfl,?_⟩;refine⟨rfl,dF.out,bN.out,?_⟩
      try rw[bP.out]
      rw[<-iN.out,show zkj r4 Rc=.err Rc.1 by unfold zkj;rw[if_pos h0]]
    rintro v12 iW ⟨rfl,h0⟩;have gQ:=zh (show o=.ok { r4 with S:=Rc.2 } by rw[<-iN.out];unfold zkj;rw[if_neg (by simpa using h0)]);refine hK.out _ _ mW.out ?_;clear hK K had h0;(try simp only[zQ]);refine zd ?_;have mX:=zh kR.out.less;go_wp2_with fail;go_end0;refine⟨dF.out,bN.out,?_⟩
    try rw[bP.out]
    rw[gQ.out];exact⟨⟨_,rfl⟩,mX.out⟩
end
section
open Go.RowKit
mutual
/-- ast.limited: what is left of the count,or none. -/
def lim:T->Nat->Nat->Option Nat
 | .nd _ _ _ ks,d,l=>if d=0\/l=0 then none else lims ks (d-1) (l-1)
def lims:List T->Nat->Nat->Option Nat
 | [],_,l=>some l
 | t::ts,d,l=>match lim t d l with
  | none=>none
  | some l'=>lims ts d l'
end
theorem zoq(ts us:List T)(d:Nat):∀l,lims (ts++us) d l=(lims ts d l).bind fun r=>lims us d r:=by
 induction ts with
 | nil=>intro l;simp[lims]
 | cons t ts ih =>
  intro l;simp only[List.cons_append,lims]
  cases lim t d l with
  | none=>rfl
  | some r=>exact ih r
theorem zwF(t:T)(d l:Nat):lims [t] d l=lim t d l:=by
 simp only[lims]
 cases lim t d l<;>rfl
theorem zum{ks:List T}{d l r j:Nat}(hj:j<ks.length)(h:lims (ks.take j) d l=some r):lims (ks.take (j+1)) d l=lim ks[j] d r:=by
 rw[List.take_succ_eq_append_getElem hj,zoq,h];exact zwF _ _ _
theorem zun{ks:List T}{d l j:Nat}(h:lims (ks.take j) d l=none):lims ks d l=none:=by
 rw[<-List.take_append_drop j ks,zoq,h];rfl
theorem zz2(t:T):∀d l r,lim t d l=some r->r<=l:=by
 induction t using T.ind with
 | _ k n s ks ih =>
 intro d l r h;rw[lim]at h
 split at h
 ·cases h
 ·have key:∀(us:List T),(∀t∈us,∀d l r,lim t d l=some r->r<=l)->∀l r d,lims us d l=some r->r<=l:=by
   intro us
   induction us with
   | nil=>intro _ l r d h;simp[lims]at h;omega
   | cons t us ih2 =>
    intro hu l r d h;simp only[lims]at h
    cases h1:lim t d l with
    | none=>rw[h1]at h;cases h
    | some r1 =>
     rw[h1]at h;have:=hu t (by simp) d l r1 h1;have:=ih2 (fun t ht=>hu t (by simp[ht])) r1 r d h;omega
  have:=key ks ih _ _ _ h;omega
def LimE(w:World)(b:Nat)(o:Option Nat)(e:Ending)(w':World):Prop :=
 e=.returned (.bool o.isSome)/\∃l':Nat,w'.heap[b]?=some (.cells #[.int .i64 (l':Int)] 3 (0,0))/\(∀r,o=some r->l'=r)/\w.grownBy w' (some b)
theorem zm2{a b c:World}{row:Option Nat}(h1:a.grownBy b row)(h2:b.grownBy c row):a.grownBy c row :=
 ⟨h2.os.trans h1.os,h2.tape.trans h1.tape,h2.output.trans h1.output,Nat.le_trans h1.size h2.size,fun i hi hne=>(h2.block i (Nat.lt_of_lt_of_le hi h1.size) hne).trans (h1.block i hi hne)⟩
theorem zml{w:World}(o:Obj)(row:Option Nat):w.grownBy (w.alloc o) row :=
 let h:=(zs w).alloc zl o
 ⟨h.os,h.tape,h.output,h.size,fun b hb _=>h.block b hb⟩
theorem zlP.grown{w w':World}{S:Nat->Prop}{A:Option Addr}{ts:List T}{b:Nat}(h:zlP w S A ts)(hg:w.grownBy w' (some b))(hb:¬ S b):zlP w' S A ts :=
 h.keep (fun _ h _=>h) fun i hi hlt=>hg.block i hlt fun e=>by injection e with e;subst e;exact hb hi
theorem zrk(t:T):∀(d l:Nat) (S:Nat->Prop) (v:Value) (w:World) (b:Nat),NV w S t v->¬ S b->d<=80->l<=2000->w.heap[b]?=some (.cells #[.int .i64 (l:Int)] 3 (0,0)) ->
  Calls prog 108 #[v,.int .i64 (d:Int),.pointer (some ⟨b,0,none⟩)] w (LimE w b (lim t d l)):=by
 induction t using T.ind with
 | _ k n s ks ih =>
 intro d l S v w b hv hSb hd hl hbx;obtain⟨A,c,rfl,hf,hlk,hlc,hrow⟩:=hv.open_;simp only[T.k_nd,T.n_nd,T.s_nd,T.ks_nd]at *
 have aB:=zkJ hlk;have IH:=zh ih;have af:=zh hrow;have fO:=zh hSb;have aX:=zh hbx;have hbl:=zko hbx;have c0:=zku (zc (i:=0) (u:=.int .i64 (l:Int)) hbx rfl);have f0:∀o:Obj,(w.alloc o).frozen? ⟨b,0,none⟩=false:=fun o=>by
  have:(w.alloc o).heap[b]?=some (.cells #[.int .i64 (l:Int)] 3 (0,0)):=(Below.heap_alloc w o b hbl).trans hbx;exact zf this
 clear hv ih hrow hSb hf hlk hbx;have hne:¬ b=w.heap.size:=by omega
 have hne':¬ w.heap.size=b:=by omega
 by_cases hd0:d=0
 ·subst hd0;have HX:=zh (show lim (.nd k n s ks) 0 l=none by rw[lim];simp);go_enter func108,ntmps108;go_wp2_with fail;go_ret;rw[HX.out];exact⟨rfl,l,(Below.heap_alloc w _ b hbl).trans aX.out,(fun r h=>by cases h),zml _ _⟩
 by_cases hl0:l=0
 ·subst hl0;have HX:=zh (show lim (.nd k n s ks) d 0=none by rw[lim];simp);have fd:((d:Int)==0)=false:=by simpa using hd0
  go_enter func108,ntmps108;go_wp2_with fail;go_ret;rw[HX.out];exact⟨rfl,0,(Below.heap_alloc w _ b hbl).trans aX.out,(fun r h=>by cases h),zml _ _⟩
 obtain⟨d',rfl⟩:∃d',d=d'+1:=⟨d-1,by omega⟩
 obtain⟨l',rfl⟩:∃l',l=l'+1:=⟨l-1,by omega⟩
 have HX:=zh (show lim (.nd k n s ks) (d'+1) (l'+1)=lims ks d' l' by rw[lim,if_neg (by omega)];simp);rw[show((d'+1:Nat):Int)=(d':Int)+1 from rfl];have fd:((d':Int)+1==0)=false:=by simp;omega
 have fl:((l':Int)+1==0)=false:=by simp;omega
 clear hd0 hl0;have hb1:(w.setCell ⟨b,0,none⟩ (.int .i64 (l':Int))).heap[b]?=some (.cells #[.int .i64 (l':Int)] 3 (0,0)):=by
  have h1:=heap_setCell_same w b 0 _ 3 (.int .i64 (l':Int)) aX.out;simpa using h1
 have hz1:(w.setCell ⟨b,0,none⟩ (.int .i64 (l':Int))).heap.size=w.heap.size:=by simp[World.setCell]
 obtain⟨W0,hW0⟩:=zX ((w.setCell ⟨b,0,none⟩ (.int .i64 (l':Int))).alloc (.cells #[.int .u8 k,.int .i64 n,.string s,.slice A ks.length c] 41));have H0:W0.heap[b]?=some (.cells #[.int .i64 (l':Int)] 3 (0,0)):=by
  rw[<-hW0,Below.heap_alloc _ _ b (by rw[hz1];exact hbl)];exact hb1
 have A0:W0.heap[w.heap.size]?=some (.cells #[.int .u8 k,.int .i64 n,.string s,.slice A ks.length c] 41 (0,0)):=by
  rw[<-hW0,<-hz1];exact heap_alloc_new _ _
 have G0:w.grownBy W0 (some b):=by
  rw[<-hW0];refine zm2 (zwt (znc w (some b)) (p:=⟨b,0,none⟩) rfl _) (zml _ _)
 have HH:=zh (And.intro H0 (And.intro A0 G0));have HW0:=zh hW0;clear H0 G0 A0 hb1 hz1 hW0;go_enter func108,ntmps108;go_wp2_with fail;rw[HW0.out];clear c0 f0
 go_loopw [25] (fun i wr=>∃(j lc:Nat),j<=ks.length/\i=.int .i64 j/\lc<=2000/\Hid (lims (ks.take j) d' l'=some lc)/\wr.heap[b]?=some (.cells #[.int .i64 (lc:Int)] 3 (0,0))/\wr.heap[w.heap.size]?=some (.cells #[.int .u8 k,.int .i64 n,.string s,.slice A ks.length c] 41 (0,0))/\w.grownBy wr (some b)) (fun i _=>ks.length-(intOf i).toNat)
 case atStart=>exact⟨0,l',Nat.zero_le _,rfl,by omega,zh (by simp[lims]),HH.out.1,HH.out.2.1,HH.out.2.2⟩
 case round =>
  obtain⟨j,lc,hj,rfl,pq,rz,hbx,hax,hg⟩:=hrel;clear HH HW0;by_cases hlt:j<ks.length
  ·obtain⟨a,t,A1,c1,rfl,_,Ht,⟨q0,q1,q2,q3⟩,hn⟩:=(af.out.grown hg fO.out).nd hlt;have hI:=IH.out ks[j] (List.getElem_mem hlt);rw[Ht.out]at hI;have pO:=zko hbx;have hal:∀o:Obj,(wr.alloc o).heap[b]?=some (.cells #[.int .i64 (lc:Int)] 3 (0,0)):=fun o=>(Below.heap_alloc wr o b pO).trans hbx;have HI1:=zh (hI d' lc S _ (wr.alloc (.cells #[.int .u8 t.k,.int .i64 t.n,.string t.s,.slice A1 t.ks.length c1] 41)) b (hn.later (zr.alloc zl _)) fO.out (by omega) pq (hal _));have HT:=zh (show lims (ks.take (j+1)) d' l'=lim t d' lc by rw[zum hlt rz.out,Ht.out]);have HG:=zh (zm2 hg (zml (.cells #[.int .u8 t.k,.int .i64 t.n,.string t.s,.slice A1 t.ks.length c1] 41) _));have HAX:=zh (show ∀o:Obj,(wr.alloc o).heap[w.heap.size]?=some (.cells #[.int .u8 k,.int .i64 n,.string s,.slice (some a) ks.length c] 41 (0,0))from fun o=>(Below.heap_alloc wr o _ (zko hax)).trans hax)
   clear hI hn hbx hax hal;go_wp2_with fail;refine HI1.out.mono ?_;rintro e w1 ⟨rfl,l1,hb1,hl1,hg1⟩;have zk:=zh (zm2 HG.out hg1);have HA1:=zh ((hg1.block _ (zko (HAX.out _)) (fun e=>hne' (by injection e))).trans (HAX.out _));have HB1:=zh hb1;clear hb1 hg1
   cases ho:lim t d' lc with
   | none =>
    have bC:=zh (show lims ks d' l'=none from zun (j:=j+1) (by rw[HT.out,ho]));go_wp2_with fail;go_ret;rw[HX.out,bC.out];exact⟨rfl,l1,HB1.out,(fun r h=>by cases h),zk.out⟩
   | some r =>
    have hr1:=hl1 r ho;subst hr1;have hle:l1<=2000:=by have:=zz2 t d' lc l1 ho;omega
    have HT2:=zh (show lims (ks.take (j+1)) d' l'=some l1 by rw[HT.out,ho]);clear hl1 ho;go_wp2_with fail
    go_roundw
    case rel=>exact⟨j+1,l1,by omega,by go_num,hle,HT2,HB1.out,HA1.out,zk.out⟩
    case measure=>simp[intOf];omega
  ·obtain rfl:j=ks.length:=by omega
   have HL2:=zh (show lims ks d' l'=some lc by have:=rz.out;rw[List.take_of_length_le (by omega)]at this;exact this);go_wp2_with fail;go_ret;rw[HX.out,HL2.out];exact⟨rfl,lc,hbx,(fun r h=>by cases h;rfl),hg⟩
def zln(t:T):Bool:=(lim t 80 2000).isSome&&isB t
theorem zpd(t:T)(v:Value)(w:World)(hv:NV w Any t v):Calls prog 68 #[v] w fun e w'=>e=.returned (.bool (zln t))/\Below w.heap.size w w':=by
 have HV:=zh hv;have HX:=zh (show zln t=((lim t 80 2000).isSome&&isB t)from rfl);obtain⟨A,c,rfl,hf,hlk,hlc,hrow⟩:=hv.open_;clear hf hlk hrow hv hlc;generalize t.k=k,t.n=n,t.s=s,t.ks.length=l at *
 have yQ:=zh (show NV w (fun b=>b<w.heap.size) t (nv k n s A l c)from HV.out.keep (fun _ _ h=>h) fun _ _ _=>rfl);have hb2:∀o o',Below w.heap.size w ((w.alloc o).alloc o'):=fun o o'=>(zr.alloc zl _).alloc (by simp) _;have HB2:=zh hb2;have aX:=zh (show ∀o:Obj,((w.alloc o).alloc (.cells #[.int .i64 2000] 3)).heap[w.heap.size+1]?=some (.cells #[.int .i64 ((2000:Nat):Int)] 3 (0,0))from fun o=>by
  have:=heap_alloc_new (w.alloc o) (.cells #[.int .i64 2000] 3);simpa using this)
 clear hb2;go_enter func68,ntmps68;go_wp2_with fail;refine(zrk t 80 2000 (fun b=>b<w.heap.size) _ _ (w.heap.size+1) (yQ.out.later (HB2.out _ _)) (fun h=>by have h':w.heap.size+1<w.heap.size:=h;omega) (by omega) (by omega) (aX.out _)).mono ?_;rintro e w1 ⟨rfl,l1,hb1,_,hg1⟩;have q1:Below w.heap.size w w1:=by
  refine(HB2.out (.cells #[.int .u8 k,.int .i64 n,.string s,.slice A l c] 41) (.cells #[.int .i64 2000] 3)).grown hg1 (by simp;omega) ?_;intro g e;injection e with e;omega
 have hc:∀i,w1.cell? ⟨w.heap.size,i,none⟩=((w.alloc (.cells #[.int .u8 k,.int .i64 n,.string s,.slice A l c] 41)).alloc (.cells #[.int .i64 2000] 3)).cell? ⟨w.heap.size,i,none⟩:=fun i =>
  World.cell?_of_block (a:=⟨w.heap.size,i,none⟩) (hg1.block _ (by simp;omega) (fun e=>by simp at e))
 have x0:w1.cell? ⟨w.heap.size,0,none⟩=some (.int .u8 k):=(hc 0).trans (by simp);have x1:w1.cell? ⟨w.heap.size,1,none⟩=some (.int .i64 n):=(hc 1).trans (by simp);have x2:w1.cell? ⟨w.heap.size,2,none⟩=some (.string s):=(hc 2).trans (by simp);have x3:w1.cell? ⟨w.heap.size,3,none⟩=some (.slice A l c):=(hc 3).trans (by simp);have fF:=HX.out;clear hc hg1 hb1
 cases ho:(lim t 80 2000).isSome
 ·rw[ho]at fF;go_wp2_with fail;go_ret;exact⟨by rw[fF];rfl,q1⟩
 ·rw[ho]at fF;have bC:=zh fF;clear fF;go_wp2_with fail;refine(zrB t _ _ (HV.out.later q1)).mono ?_;rintro e w2 ⟨rfl,au⟩;go_wp2_with fail;go_ret;exact⟨by rw[bC.out];simp,q1.trans (au.mono q1.size)⟩
def zmt(v:VD):Bool:=zmq v.s&&(if v.k=1\/v.k=3 then v.n==0 else if v.k=2 then decide (1<=v.n/\v.n<=16)else false)
theorem zxm{vs:List VD}{f:VD->Bool}{j:Nat}(hj:j<vs.length)(h:(vs.take j).all f=true):(vs.take (j+1)).all f=f vs[j]:=by
 rw[List.take_succ_eq_append_getElem hj,List.all_append,h];simp
theorem zxn{vs:List VD}{f:VD->Bool}{j:Nat}(hj:j<vs.length)(h:f vs[j]=false):vs.all f=false:=by
 simp only[List.all_eq_false];exact⟨vs[j],List.getElem_mem hj,by simp[h]⟩
theorem znR(vs:List VD)(A:Option Addr)(c:Nat)(S:Nat->Prop)(w:World)(hrow:RowV w S A vs)(hl:vs.length<=LV)(_hlc:vs.length<=c) :
  Calls prog 66 #[.slice A vs.length c] w fun e w'=>e=.returned (.bool (vs.all zmt))/\Below w.heap.size w w':=by
 have hl':=zlk hl;have af:=zh hrow;clear hrow hl;go_enter func66,ntmps66;go_wp2_with fail
 go_loopw [7] (fun i wr=>∃j:Nat,j<=vs.length/\i=.int .i64 j/\Below w.heap.size w wr/\Hid ((vs.take j).all zmt=true)) (fun i _=>vs.length-(intOf i).toNat)
 case atStart=>exact⟨0,Nat.zero_le _,rfl,zr,zh (by simp)⟩
 case round =>
  obtain⟨j,hj,rfl,hb,HA⟩:=hrel;by_cases hlt:j<vs.length
  ·obtain⟨a,v,rfl,_,Hv,⟨q0,q1,q2⟩,hf⟩:=(af.out.later hb).nd hlt;have HT:=zh (show(vs.take (j+1)).all zmt=zmt v by rw[zxm hlt HA.out,Hv.out]);have HN:=zh (show zmt v=false->vs.all zmt=false from fun h=>zxn hlt (by rw[Hv.out];exact h));have HD:=zh (show zmt v=(zmq v.s&&(if v.k=1\/v.k=3 then v.n==0 else if v.k=2 then decide (1<=v.n/\v.n<=16)else false))from rfl);obtain⟨s,hs⟩:=zX (v.s);obtain⟨k,hk⟩:=zX (v.k);obtain⟨n,hn⟩:=zX (v.n);have ed:=HD.out;rw[hs,hk,hn]at ed;rw[hs]at q0;rw[hk]at q1;rw[hn]at q2;clear HD hf hs hk hn;have HD:=zh ed;clear ed;go_wp2_with fail;refine(zp1 s _).mono ?_;rintro e w1 ⟨rfl,ae⟩;have q1':Below w.heap.size w w1:=(hb.alloc hb.size _).trans (ae.mono (by have:=hb.size;simp;omega));have x1:w1.cell? ⟨wr.heap.size,1,none⟩=some (.int .u8 k):=zb ae (by simp);have x2:w1.cell? ⟨wr.heap.size,2,none⟩=some (.int .i64 n):=zb ae (by simp)
   have ed:=HD.out;clear ae
   cases hnm:zmq s
   ·rw[hnm]at ed;have HR:=zh (HN.out (by rw[ed];rfl));clear ed;go_wp2_with fail;go_ret;exact⟨by rw[HR.out];rfl,q1'⟩
   rw[hnm,Bool.true_and]at ed;by_cases lL:k=1\/k=3
   ·rw[if_pos lL]at ed;by_cases hn0:n=0
    ·subst hn0;have HG:=zh (show(vs.take (j+1)).all zmt=true by rw[HT.out,ed];rfl);clear ed;rcases lL with rfl|rfl
     ·go_wp2_with fail
      go_roundw
      case rel=>exact⟨j+1,by omega,by go_num,q1',HG⟩
      case measure=>simp[intOf];omega
     ·go_wp2_with fail
      go_roundw
      case rel=>exact⟨j+1,by omega,by go_num,q1',HG⟩
      case measure=>simp[intOf];omega
    ·have fn:(n != 0)=true:=by simpa using hn0
     have HR:=zh (HN.out (by rw[ed];simpa using hn0));clear ed;rcases lL with rfl|rfl
     ·go_wp2_with fail;go_ret;exact⟨by rw[HR.out];rfl,q1'⟩
     ·go_wp2_with fail;go_ret;exact⟨by rw[HR.out];rfl,q1'⟩
   ·rw[if_neg lL]at ed;have f1:(k==1)=false:=by simp;omega
    have f3:(k==3)=false:=by simp;omega
    by_cases h2:k=2
    ·subst h2;rw[if_pos rfl]at ed;by_cases hl1:n<1
     ·have HR:=zh (HN.out (by rw[ed];simp;omega));clear ed;go_wp2_with fail;go_ret;exact⟨by rw[HR.out];rfl,q1'⟩
     ·by_cases hg16:16<n
      ·have HR:=zh (HN.out (by rw[ed];simp;omega));have sN:1<=n:=by omega
       clear ed hl1;go_wp2_with fail;go_ret;exact⟨by rw[HR.out];rfl,q1'⟩
      ·have HG:=zh (show(vs.take (j+1)).all zmt=true by rw[HT.out,ed];simp;omega);have sN:1<=n:=by omega
       have hg16':n<=16:=by omega
       clear ed hl1 hg16;go_wp2_with fail
       go_roundw
       case rel=>exact⟨j+1,by omega,by go_num,q1',HG⟩
       case measure=>simp[intOf];omega
    ·rw[if_neg h2]at ed;have f2:(k==2)=false:=by simpa using h2
     have HR:=zh (HN.out ed);clear ed;go_wp2_with fail;go_ret;exact⟨by rw[HR.out];rfl,q1'⟩
  ·obtain rfl:j=vs.length:=by omega
   have HR:=zh (show vs.all zmt=true by have:=HA.out;rw[List.take_of_length_le (by omega)]at this;exact this);go_wp2_with fail;go_ret;exact⟨by rw[HR.out];rfl,hb⟩
def zoM(r:PR):Bool:=zmq r.s&&decide (r.ps.length<=8)&&r.ps.all zmt&&zln r.b
def zkL(p:PG):Bool:=decide (p.vs.length<=32)&&decide (p.prs.length<=64)&&p.vs.all zmt&&p.prs.all zoM&&zln p.m
theorem zt5{vs:List PR}{f:PR->Bool}{j:Nat}(hj:j<vs.length)(h:(vs.take j).all f=true):(vs.take (j+1)).all f=f vs[j]:=by
 rw[List.take_succ_eq_append_getElem hj,List.all_append,h];simp
theorem zt6{vs:List PR}{f:PR->Bool}{j:Nat}(hj:j<vs.length)(h:f vs[j]=false):vs.all f=false:=by
 simp only[List.all_eq_false];exact⟨vs[j],List.getElem_mem hj,by simp[h]⟩
theorem znr(p:PG)(S:Nat->Prop)(v:Value)(w:World)(hv:PV w S p v):Calls prog 25 #[v] w fun e w'=>e=.returned (.bool (zkL p))/\Below w.heap.size w w':=by
 obtain⟨A1,c1,A2,c2,A3,c3,rfl,hr⟩:=hv;have HR:=zh hr;have hv1:=zlk hr.lv;have hv2:=zlk hr.lp;have HX:=zh (show zkL p=(decide (p.vs.length<=32)&&decide (p.prs.length<=64)&&p.vs.all zmt&&p.prs.all zoM&&zln p.m)from rfl);have pq:=hr.lpc;obtain⟨L1,hL1⟩:=zX (p.vs.length);obtain⟨L2,hL2⟩:=zX (p.prs.length);obtain⟨k,hk⟩:=zX (p.m.k);obtain⟨n,hn⟩:=zX (p.m.n);obtain⟨s,hs⟩:=zX (p.m.s);obtain⟨l3,hl3⟩:=zX (p.m.ks.length);have iP:=zh hL1;have HL2:=zh hL2;have hm:=hr.main;rw[hk,hn,hs,hl3]at hm;have HM:=zh hm;have hx:=HX.out;rw[hL1,hL2]at hx;rw[hL1]at hv1;rw[hL2]at hv2 pq;rw[hL1,hL2,hk,hn,hs,hl3];clear hr hm HX hL1 hL2 hk hn hs hl3;have HX:=zh hx;clear hx;have hb0:∀o,Below w.heap.size w (w.alloc o):=fun o=>zr.alloc zl _;have HB0:=zh hb0;clear hb0
 have uP:=zh (show ∀w',Below w.heap.size w w'->Calls prog 66 #[.slice A1 L1 c1] w' fun e w''=>e=.returned (.bool (p.vs.all zmt))/\Below w'.heap.size w' w'' from fun w' h=>by
  have:=znR p.vs A1 c1 S w' (HR.out.vars.later h) HR.out.lv HR.out.lvc;rw[iP.out]at this;exact this)
 by_cases h32:32<L1
 ·have HF:=zh (show zkL p=false by rw[HX.out];simp;intro h;omega);have h32':(32:Int)<(L1:Int):=by omega
  go_enter func25,ntmps25;go_wp2_with fail;go_ret;exact⟨by rw[HF.out];rfl,HB0.out _⟩
 by_cases h64:64<L2
 ·have HF:=zh (show zkL p=false by rw[HX.out];simp;intro _ h;omega);have h32':(L1:Int)<=32:=by omega
  have h64':(64:Int)<(L2:Int):=by omega
  clear h32;go_enter func25,ntmps25;go_wp2_with fail;go_ret;exact⟨by rw[HF.out];rfl,HB0.out _⟩
 have h32':(L1:Int)<=32:=by omega
 have h64':(L2:Int)<=64:=by omega
 have hx:=HX.out;have e1:L1<=32:=by omega
 have e2:L2<=64:=by omega
 rw[decide_eq_true e1,decide_eq_true e2]at hx;simp only[Bool.true_and]at hx;clear HX h32 h64 e1 e2;have HX:=zh hx;clear hx;go_enter func25,ntmps25;go_wp2_with fail;refine(uP.out _ (HB0.out _)).mono ?_;rintro e w1 ⟨rfl,ae⟩;have q1:Below w.heap.size w w1:=(HB0.out _).trans (ae.mono (by simp));have hbx:w1.heap[w.heap.size]?=some (.cells #[.slice A1 L1 c1,.slice A2 L2 c2,.int .u8 k,.int .i64 n,.string s,.slice A3 l3 c3] 43 (0,0)):=(ae.block _ (by simp)).trans (heap_alloc_new w _);have x1:w1.cell? ⟨w.heap.size,1,none⟩=some (.slice A2 L2 c2):=zc hbx rfl;have hx:=HX.out;clear ae uP
 cases hd:p.vs.all zmt
 ·rw[hd]at hx;have HF:=zh (show zkL p=false by rw[hx];rfl);clear hx;go_wp2_with fail;go_ret;exact⟨by rw[HF.out];rfl,q1⟩
 rw[hd,Bool.true_and]at hx;have bC:=zh hx;have aX:=zh hbx;clear hx HX hd hbx;go_wp2_with fail
 go_loopw [24] (fun i wr=>∃j:Nat,j<=L2/\i=.int .i64 j/\Below w1.heap.size w1 wr/\Hid ((p.prs.take j).all zoM=true)) (fun i _=>L2-(intOf i).toNat)
 case atStart=>exact⟨0,Nat.zero_le _,rfl,zr,zh (by simp)⟩
 case round =>
  obtain⟨j,hj,rfl,hb,HA⟩:=hrel;have hq:Below w.heap.size w wr:=q1.trans (hb.mono q1.size);by_cases hlt:j<L2
  ·have hlt':j<p.prs.length:=by rw[HL2.out];exact hlt
   obtain⟨a,r,B1,d1,B2,d2,rfl,_,Hr,⟨z0,z1,z2,z3,z4,z5⟩,hrr⟩:=(HR.out.procs.later hq).nd hlt';have HRR:=zh hrr;have HT:=zh (show(p.prs.take (j+1)).all zoM=zoM r by rw[zt5 hlt' HA.out,Hr.out]);have HN:=zh (show zoM r=false->zkL p=false from fun h=>by rw[bC.out,zt6 hlt' (by rw[Hr.out];exact h)];rfl);have xK:=zh (show zoM r=(zmq r.s&&decide (r.ps.length<=8)&&r.ps.all zmt&&zln r.b)from rfl);have hd1:=zlk hrr.lp;clear hrr;have uP:=zh (show ∀w',Below wr.heap.size wr w'->Calls prog 66 #[.slice B1 r.ps.length d1] w' fun e w''=>e=.returned (.bool (r.ps.all zmt))/\Below w'.heap.size w' w'' from fun w' h=>znR r.ps B1 d1 S w' (HRR.out.row.later h) HRR.out.lp HRR.out.lc);have gV:=zh (show ∀w',Below wr.heap.size wr w'->NV w' Any r.b (nv r.b.k r.b.n r.b.s B2 r.b.ks.length d2)from fun w' h=>(HRR.out.body.later h).any);obtain⟨rs,hrs⟩:=zX (r.s)
   obtain⟨rl,hrl⟩:=zX (r.ps.length);obtain⟨bk,hbk⟩:=zX (r.b.k);obtain⟨bn,hbn⟩:=zX (r.b.n);obtain⟨bs,hbs⟩:=zX (r.b.s);obtain⟨bl,hbl⟩:=zX (r.b.ks.length);have hpb:=xK.out;have Bc:=uP.out;have hbd:=gV.out;rw[hrs]at z0 hpb;rw[hrl]at z1 hpb Bc hd1;rw[hbk]at z2 hbd;rw[hbn]at z3 hbd;rw[hbs]at z4 hbd;rw[hbl]at z5 hbd;clear xK uP gV HRR hrs hrl hbk hbn hbs hbl;have xK:=zh hpb;have uP:=zh Bc;have gV:=zh hbd;clear hpb Bc hbd;go_wp2_with fail;refine(zp1 rs _).mono ?_;rintro e w2 ⟨rfl,au⟩;have b2:Below wr.heap.size wr w2:=zAB au;have hbx:w2.heap[wr.heap.size]?=some (.cells #[.string rs,.slice B1 rl d1,.int .u8 bk,.int .i64 bn,.string bs,.slice B2 bl d2] 75 (0,0)):=(au.block _ (by simp)).trans (heap_alloc_new wr _);have u1:w2.cell? ⟨wr.heap.size,1,none⟩=some (.slice B1 rl d1):=zc hbx rfl;have hpb:=xK.out;clear au
   cases hnm:zmq rs
   ·rw[hnm]at hpb;have HF:=zh (HN.out (by rw[hpb];rfl));clear hpb;go_wp2_with fail;go_ret;exact⟨by rw[HF.out];rfl,hq.trans (b2.mono hq.size)⟩
   rw[hnm,Bool.true_and]at hpb;by_cases h8:8<rl
   ·have HF:=zh (HN.out (by rw[hpb];simp;intro h;omega));have h8':(8:Int)<(rl:Int):=by omega
    clear hpb;go_wp2_with fail;go_ret;exact⟨by rw[HF.out];rfl,hq.trans (b2.mono hq.size)⟩
   rw[decide_eq_true (show rl<=8 by omega),Bool.true_and]at hpb;have h8':(rl:Int)<=8:=by omega
   have oD:=zh hpb;have HBX2:=zh hbx;clear hpb xK h8 hbx;go_wp2_with fail;refine(uP.out _ b2).mono ?_;rintro e w3 ⟨rfl,bW⟩;have b3:=b2.trans (bW.mono b2.size);have hbx:w3.heap[wr.heap.size]?=some (.cells #[.string rs,.slice B1 rl d1,.int .u8 bk,.int .i64 bn,.string bs,.slice B2 bl d2] 75 (0,0)):=(bW.block _ (zko HBX2.out)).trans HBX2.out;have u2:w3.cell? ⟨wr.heap.size,2,none⟩=some (.int .u8 bk):=zc hbx rfl;have u3:w3.cell? ⟨wr.heap.size,3,none⟩=some (.int .i64 bn):=zc hbx rfl;have u4:w3.cell? ⟨wr.heap.size,4,none⟩=some (.string bs):=zc hbx rfl;have u5:w3.cell? ⟨wr.heap.size,5,none⟩=some (.slice B2 bl d2):=zc hbx rfl;have hpb:=oD.out;clear bW u1 hbx
   cases hdd:r.ps.all zmt
   ·rw[hdd]at hpb;have HF:=zh (HN.out (by rw[hpb];rfl));clear hpb;go_wp2_with fail;go_ret;exact⟨by rw[HF.out];rfl,hq.trans (b3.mono hq.size)⟩
   rw[hdd,Bool.true_and]at hpb;have HPD:=zh hpb;clear hpb oD hdd;go_wp2_with fail;refine(zpd r.b _ _ (gV.out _ b3)).mono ?_;rintro e w4 ⟨rfl,xw⟩;have b4:=b3.trans (xw.mono b3.size);have hpb:=HPD.out;clear xw u2 u3 u4 u5
   cases hbb:zln r.b
   ·rw[hbb]at hpb;have HF:=zh (HN.out hpb);clear hpb;go_wp2_with fail;go_ret;exact⟨by rw[HF.out];rfl,hq.trans (b4.mono hq.size)⟩
   ·rw[hbb]at hpb;have HG:=zh (show(p.prs.take (j+1)).all zoM=true by rw[HT.out];exact hpb);have HQ4:=zh (hb.trans (b4.mono hb.size));clear hpb;go_wp2_with fail
    go_roundw
    case rel=>exact⟨j+1,by omega,by go_num,HQ4.out,HG⟩
    case measure=>simp[intOf];omega
  ·obtain rfl:j=L2:=by omega
   have HF:=zh (show zkL p=zln p.m by rw[bC.out];have:=HA.out;rw[List.take_of_length_le (by rw[HL2.out];omega)]at this;rw[this];rfl);have hbx:wr.heap[w.heap.size]?=some (.cells #[.slice A1 L1 c1,.slice A2 j c2,.int .u8 k,.int .i64 n,.string s,.slice A3 l3 c3] 43 (0,0)):=(hb.block _ (zko aX.out)).trans aX.out;have y2:wr.cell? ⟨w.heap.size,2,none⟩=some (.int .u8 k):=zc hbx rfl;have y3:wr.cell? ⟨w.heap.size,3,none⟩=some (.int .i64 n):=zc hbx rfl;have y4:wr.cell? ⟨w.heap.size,4,none⟩=some (.string s):=zc hbx rfl;have y5:wr.cell? ⟨w.heap.size,5,none⟩=some (.slice A3 l3 c3):=zc hbx rfl;go_wp2_with fail;refine(zpd p.m _ _ (HM.out.later hq).any).mono ?_;rintro e w2 ⟨rfl,au⟩;go_wp2_with fail;go_ret;exact⟨by rw[HF.out];rfl,hq.trans (au.mono hq.size)⟩
def zmC(vs:List VD)(s:ByteArray):Int:=if (zlB vs s).isSome then 22 else 0
def useE(vs:List VD)(s:ByteArray)(k:Int):Int:=match zlB vs s with
 | none=>6
 | some v=>if v.k=k then 0 else 7
theorem zox(vs:List VD)(A:Option Addr)(c:Nat)(s:ByteArray)(S:Nat->Prop)(w:World)(hrow:RowV w S A vs)(hl:vs.length<=LV) :
  Calls prog 71 #[.slice A vs.length c,.string s] w fun e w'=>e=.returned (.int .i64 (zmC vs s))/\Below w.heap.size w w':=by
 have af:=zh hrow;have HL:=zh hl;obtain⟨E,hE⟩:=zX (zmC vs s);rw[hE];have HE:=zh hE;clear hrow hl hE;go_enter func71,ntmps71;go_wp2_with fail;refine(zoa vs A c s S _ af.out HL.out).mono ?_;rintro e w1 ⟨rfl,ae⟩
 cases hf:zlB vs s with
 | none =>
  have HN:=zh (show E=0 by rw[<-HE.out];simp[zmC,hf]);have HB:=zh (show Below w.heap.size w (w1.alloc (.cells #[.string ⟨#[]⟩,.int .u8 0,.int .i64 0] 57))from ae.alloc ae.size _);clear hf ae;go_wp2_with fail;go_ret;exact⟨by rw[HN.out];rfl,HB.out⟩
 | some v =>
  have HN:=zh (show E=22 by rw[<-HE.out];simp[zmC,hf]);have HB:=zh (show Below w.heap.size w (w1.alloc (.cells #[.string v.s,.int .u8 v.k,.int .i64 v.n] 57))from ae.alloc ae.size _);clear hf ae;go_wp2_with fail;go_ret;exact⟨by rw[HN.out];rfl,HB.out⟩
theorem znz(vs:List VD)(A:Option Addr)(c:Nat)(s:ByteArray)(k:Int)(S:Nat->Prop)(w:World)(hrow:RowV w S A vs)(hl:vs.length<=LV) :
  Calls prog 149 #[.slice A vs.length c,.string s,.int .u8 k] w fun e w'=>e=.returned (.int .i64 (useE vs s k))/\Below w.heap.size w w':=by
 have af:=zh hrow;have HL:=zh hl;obtain⟨E,hE⟩:=zX (useE vs s k);rw[hE];have HE:=zh hE;clear hrow hl hE;go_enter func149,ntmps149;go_wp2_with fail;refine(zoa vs A c s S _ af.out HL.out).mono ?_;rintro e w1 ⟨rfl,ae⟩
 cases hf:zlB vs s with
 | none =>
  have HN:=zh (show E=6 by rw[<-HE.out];simp[useE,hf]);have HB:=zh (show Below w.heap.size w (w1.alloc (.cells #[.string ⟨#[]⟩,.int .u8 0,.int .i64 0] 57))from ae.alloc ae.size _);clear hf ae;go_wp2_with fail;go_ret;exact⟨by rw[HN.out];rfl,HB.out⟩
 | some v =>
  obtain⟨vm,vk,vl⟩:=v;have HB2:=zh (show Below w.heap.size w (w1.alloc (.cells #[.string vm,.int .u8 vk,.int .i64 vl] 57))from ae.alloc ae.size _);have HN:=zh (show E=if vk=k then 0 else 7 by rw[<-HE.out];simp[useE,hf]);clear hf ae;by_cases hk:vk=k
  ·have e1:(vk==k)=true:=by simpa using hk
   have e2:(vk != k)=false:=by simpa using hk
   have aK:=zh (show E=0 by rw[HN.out,if_pos hk]);clear hk;go_wp2_with fail;go_ret;exact⟨by rw[aK.out];rfl,HB2.out⟩
  ·have e1:(vk==k)=false:=by simpa using hk
   have e2:(vk != k)=true:=by simpa using hk
   have aK:=zh (show E=7 by rw[HN.out,if_neg hk]);clear hk;go_wp2_with fail;go_ret;exact⟨by rw[aK.out];rfl,HB2.out⟩
def idxP(ps:List PR)(s:ByteArray):Option Nat:=ps.findIdx? fun r=>r.s.toList==s.toList
def zlL(ps:List PR)(s:ByteArray):Int:=match idxP ps s with
 | some i=>i
 | none => -1
theorem zvu(rs:ByteArray)(u1 u2 u3 u4 u5:Value)(s:ByteArray)(nb:Nat)(w:World)(hc:w.cell? ⟨nb,0,none⟩=some (.string s)) :
  Calls prog 112 #[.agg #[.string rs,u1,u2,u3,u4,u5],.pointer (some ⟨nb,0,none⟩)] w fun e w'=>e=.returned (.bool (rs.toList==s.toList))/\Below w.heap.size w w':=by
 have hc':=zku hc;go_enter func112,ntmps112;go_wp2_with fail;go_ret;exact⟨rfl,zr.alloc zl _⟩
theorem zoQ(ps:List PR)(A:Option Addr)(c:Nat)(s:ByteArray)(nb:Nat)(S:Nat->Prop)(w:World)(hrow:RowP w S A ps)(hl:ps.length<=LV)(hc:w.cell? ⟨nb,0,none⟩=some (.string s)) :
  Calls prog 111 #[.slice A ps.length c,.func (.func 112) #[] #[.pointer (some ⟨nb,0,none⟩)]] w fun e w'=>e=.returned (.int .i64 (zlL ps s))/\Below w.heap.size w w':=by
 have hl':=zlk hl;have af:=zh hrow;have HC:=zh hc;obtain⟨R,hR⟩:=zX (zlL ps s);rw[hR];have HR:=zh hR;clear hrow hl hc hR;go_enter func111,ntmps111;go_wp2_with fail
 go_loopw [8] (fun i wr=>∃j:Nat,j<=ps.length/\i=.int .i64 j/\Below w.heap.size w wr/\Hid (∀q (h:q<ps.length),q<j->(ps[q].s.toList==s.toList)=false)) (fun i _=>ps.length-(intOf i).toNat)
 case atStart=>exact⟨0,Nat.zero_le _,rfl,zr,zh fun q _ h=>by omega⟩
 case round =>
  obtain⟨j,hj,rfl,hbl,HJ⟩:=hrel;by_cases hlt:j<ps.length
  ·obtain⟨a,r,B1,f1,B2,f2,rfl,_,Hr,⟨q0,q1,q2,q3,q4,q5⟩,-⟩:=(af.out.later hbl).nd hlt;obtain⟨b,hb⟩:=zX ((r.s.toList==s.toList));have HB:=zh hb;clear hb;go_wp2_with fail;refine(zvu r.s _ _ _ _ _ s nb _ (zb hbl HC.out)).mono ?_;rintro e w1 ⟨rfl,ae⟩;rw[HB.out];have ag:=zh (zka hbl ae);clear ae q0 q1 q2 q3 q4 q5
   cases b
   ·have HJ2:=zh (show ∀q (h:q<ps.length),q<j+1->(ps[q].s.toList==s.toList)=false from fun q h hq=>by
     by_cases e:q<j
     ·exact HJ.out q h e
     ·obtain rfl:q=j:=by omega
      rw[Hr.out];exact HB.out)
    go_wp2_with fail
    go_roundw
    case rel=>exact⟨j+1,by omega,by go_num,ag.out,HJ2⟩
    case measure=>simp[intOf];omega
   ·have HN:=zh (show R=j by
     rw[<-HR.out];have:idxP ps s=some j:=List.findIdx?_eq_some_iff_getElem.2 ⟨hlt,by rw[Hr.out];exact HB.out,fun q hq=>by rw[HJ.out q (by omega) hq];simp⟩;simp[zlL,this])
    go_wp2_with fail;go_ret;exact⟨by rw[HN.out];rfl,ag.out⟩
  ·have HN:=zh (show R = -1 by
    rw[<-HR.out];have:idxP ps s=none:=List.findIdx?_eq_none_iff.2 fun r hr=>by
     obtain⟨q,hq,rfl⟩:=List.getElem_of_mem hr;exact HJ.out q hq (by omega)
    simp[zlL,this])
   have ag:=zh hbl;clear hbl;go_wp2_with fail;go_ret;exact⟨by rw[HN.out];rfl,ag.out⟩
theorem zns(p:PG)(S:Nat->Prop)(v:Value)(s:ByteArray)(w:World)(hv:PV w S p v):Calls prog 72 #[v,.string s] w fun e w'=>e=.returned (.int .i64 (zlL p.prs s))/\Below w.heap.size w w':=by
 obtain⟨A1,c1,A2,c2,A3,c3,rfl,hr⟩:=hv;have HR:=zh hr;obtain⟨L1,hL1⟩:=zX (p.vs.length);rw[hL1];clear hr hL1;go_enter func72,ntmps72;go_wp2_with fail;refine(zoQ p.prs A2 c2 s (w.heap.size+1) S _ (HR.out.procs.later (zkb (zkb zr _) _)) HR.out.lp (by simp)).mono ?_;rintro e w1 ⟨rfl,ae⟩;have HB:=zh (zka (zkb (zkb (zs w) _) _) ae);clear ae;go_wp2_with fail;go_ret;exact⟨rfl,HB.out⟩
end
section
open Go Go.RowKit
theorem zpD:∀(prs:List PR) (s:ByteArray) (i:Nat),prcI prs s=some i->zlL prs s=(i:Int)/\i<prs.length
 | [],_,_,h=>by simp[prcI]at h
 | q::qs,s,i,h=>by
  unfold prcI at h;unfold zlL idxP;rw[List.findIdx?_cons]
  split at h
  ·rename_i h0;injection h with h;subst h;rw[if_pos h0];exact⟨rfl,by simp⟩
  ·rename_i h0;rw[if_neg h0];obtain⟨j,hj,rfl⟩:=Option.map_eq_some_iff.1 h;have h5:=zpD qs s j hj;unfold zlL idxP at h5
   cases hf:List.findIdx? (fun r=>r.s.toList==s.toList) qs with
   | none =>
    rw[hf]at h5;have h6:(-1:Int)=(j:Int):=h5.1;omega
   | some m =>
    rw[hf]at h5;have h6:(m:Int)=(j:Int):=h5.1;exact⟨by show((m+1:Nat):Int)=((j+1:Nat):Int);omega,by have:=h5.2;simp;omega⟩
def strA(l:List ByteArray):Array Value:=(l.map Value.string).toArray
theorem zzR:(prog.info? 9).map (fun i=>(i.zero,i.size,i.bytes))=some (some (.string ⟨#[]⟩),1,16):=by kernel_rfl
theorem zwC(n:Nat):madeCells (Value.string ⟨#[]⟩).cells (n*1)=strA (List.replicate n ⟨#[]⟩):=by
 unfold strA;apply Array.ext';apply List.ext_getElem
 ·rw[Array.length_toList,size_madeCells];simp
 ·intro i h1 h2;have e:i % 1=0:=by omega
  simp[madeCells,Value.cells,e]
theorem zKr(n:Nat)(hn:n<=17592186044416)(w:World):(Instr.makeSlice 227 (.int .i64 (n:Int)) (.int .i64 (n:Int))).run prog w=.ok (.slice (some ⟨w.heap.size,0,none⟩) n n) (w.alloc (.cells (strA (List.replicate n ⟨#[]⟩)) 9)):=by
 have h:=zzR;obtain⟨i,hi,hz⟩:=Option.map_eq_some_iff.1 h;injection hz with h1 h2;injection h2 with h2 h3;have:=zlu (P:=prog) 227 9 i (.string ⟨#[]⟩) underlying227 hi h1 .i64 .i64 n n zl (by rw[h3];omega) (by omega) w;rw[h2,zwC]at this;exact this
def argL(ks:List T)(j:Nat):List ByteArray:=(ks.take j).map (·.s)++List.replicate (ks.length-j) ⟨#[]⟩
theorem zx9(ks:List T):argL ks 0=List.replicate ks.length ⟨#[]⟩:=by simp[argL]
theorem zxk(ks:List T):argL ks ks.length=ks.map (·.s):=by simp[argL]
theorem zxj(ks:List T){j:Nat}(hj:j<=ks.length):(argL ks j).length=ks.length:=by simp[argL];omega
theorem zxi(ks:List T){j:Nat}(hj:j<ks.length):(strA (argL ks j)).setIfInBounds j (.string ks[j].s)=strA (argL ks (j+1)):=by
 unfold strA;rw[List.setIfInBounds_toArray,<-List.map_set];congr 2;unfold argL;refine List.ext_getElem (by simp;omega) fun i h1 h2=>?_;rw[List.getElem_set];simp only[List.length_append,List.length_map,List.length_take,List.length_replicate,List.length_set]at h1 h2;by_cases e:j=i
 ·subst e;rw[if_pos rfl,List.getElem_append_left (by simp;omega)];simp
 ·rw[if_neg e];by_cases hi:i<j
  ·rw[List.getElem_append_left (by simp;omega),List.getElem_append_left (by simp;omega)];simp
  ·rw[List.getElem_append_right (by simp;omega),List.getElem_append_right (by simp;omega)];simp
theorem zv8{W:World}{b:Nat}{E:TypeId}{l:List ByteArray}(h:W.heap[b]?=some (.cells (strA l) E (0,0))):RowS W (some ⟨b,0,none⟩) l:=fun i hi=>by
 have ha:(⟨b,0,none⟩:Addr).add i=⟨b,i,none⟩:=by rw[Addr.add_lit,Nat.zero_add]
 refine⟨⟨b,0,none⟩,rfl,?_⟩;rw[ha];simp only[World.cell?,h];simp[strA,hi]
theorem RI.count{C:RC}(hC:C.Ok){W:World}{r:RS}(h:RI C W r){i:Nat}(hi:i<r.ent.length)(hn:r.ent.getD i 0+1<=r.n) :
  ∃g c,C.ev=.slice (some ⟨g,0,none⟩) r.ent.length c/\W.cell? ⟨g,i,none⟩=some (.int .i64 (r.ent.getD i 0:Nat))/\W.frozen? ⟨g,i,none⟩=false /\
   RI C (W.setCell ⟨g,i,none⟩ (.int .i64 ((r.ent.getD i 0+1:Nat):Int))) { r with ent:=r.ent.set i (r.ent.getD i 0+1) }/\Kpt C.n0 C.kb W (W.setCell ⟨g,i,none⟩ (.int .i64 ((r.ent.getD i 0+1:Nat):Int))):=by
 obtain⟨e1,h2⟩:=h.ent;rcases h2 with h2|⟨g,cap,cur,hev,hb,hg,hcap,hlen,hsz,iE⟩
 ·have hn0:r.ent.length=0:=h2.2;omega
 ·have hcz:cur[i]?=some (.int .i64 (r.ent.getD i 0:Nat)):=by
   have h3:(zkg (r.ent.map Int.ofNat))[i]?=some (.int .i64 (r.ent.getD i 0:Nat)):=by simp[zkg,hi]
   rw[<-iE,List.getElem?_take]at h3
   split at h3
   ·simpa using h3
   ·cases h3
  have hci:i<cur.size:=by
   rcases Nat.lt_or_ge i cur.size with h|h
   ·exact h
   ·rw[Array.getElem?_eq_none h]at hcz;cases hcz
  have hrb:g≠C.rb:=fun e=>hC.ev.1 (by rw[hev,<-e];rfl);have hkb:¬ C.kb g:=hC.ev.2 g (by rw[hev];rfl);have hch:Chg (fun b=>b=g) W (W.setCell ⟨g,i,none⟩ (.int .i64 ((r.ent.getD i 0+1:Nat):Int))):=(Chg.refl (fun b=>b=g) W).setCell (p:=⟨g,i,none⟩) (.inl rfl) _;have hnn:=h.ks.hn;refine⟨g,cap,hev,zc hg hcz,zf hg,⟨h.ks.chg hch fun b _ e=>⟨by omega,.inr (.inr (.inr (by rw[hev,e];rfl)))⟩,?_,?_,by simp[h.el],?_,h.n,h.fb⟩,Kpt.chg hch fun b e=>⟨by omega,by rw[e];exact hkb⟩⟩
  ·rw[Below.heap_setCell _ _ _ _ (fun e=>hrb (by simpa using e.symm))];exact h.box
  ·have hs:=heap_setCell_same W g i _ _ (.int .i64 ((r.ent.getD i 0+1:Nat):Int)) hg;refine⟨by simp[zkg],.inr ⟨g,cap,_,by rw[hev];simp,hb,hs,by simpa using hcap,by simpa using hlen,by simpa using hsz,?_⟩⟩;have e2:((cur.setIfInBounds i (.int .i64 ((r.ent.getD i 0+1:Nat):Int))).toList.take ((r.ent.set i (r.ent.getD i 0+1)).length*1))=(cur.toList.take (r.ent.length*1)).set i (.int .i64 ((r.ent.getD i 0+1:Nat):Int)):=by
    rw[Array.toList_setIfInBounds,List.length_set,List.take_set]
   rw[e2,iE];simp[zkg,List.map_set]
  ·intro c hc;rcases List.mem_or_eq_of_mem_set hc with hc|rfl
   ·exact h.en c hc
   ·exact hn
theorem zwX:IsFn prog 203 f203:=⟨func203,by kernel_rfl,by kernel_rfl⟩
def caR(prs:List PR)(F:Int)(g:Nat)(back:Bool)(i:Nat)(b:T)(r:RS):Out :=
 (zkK (zkt prs F g back) (blkL back b) { r with ent:=r.ent.set i (r.ent.getD i 0+1) }).bind fun r=>(zkB F r).bind fun r=>zkj r (zk2 r.S)
def caO(prs:List PR)(F:Int)(g:Nat)(back:Bool)(i:Nat)(q:PR)(ss:List ByteArray)(r:RS):Out :=
 (zkB F r).bind fun r=>(zkj r (zk1 r.S q.ps ss)).bind (caR prs F g back i q.b)
theorem zn7{G:List PR->T->Prop}{g:Nat}(hS:IStC G g){C:RC}(hC:C.Ok){W:World}{r:RS}(h:RI C W r)(t:T)(v:Value)(back:Bool)(hv:NV C.w Any t v)(i:Nat)(hi:prcI C.p.prs t.s=some i)(q:PR)(hq:C.p.prs[i]?=some q)(hG1:∀u∈q.b.ks,G C.p.prs u)
  (aG:caO C.p.prs C.F g back i q (t.ks.map (·.s)) r ≠ .gas) :
  Calls prog 183 #[.pointer (some ⟨C.rb,0,none⟩),v,.bool back] W (RunP C W (caO C.p.prs C.F g back i q (t.ks.map (·.s)) r)):=by
 have HV:=zh hv;have H:=zh h;have HS:=zh hS;have HC:=zh hC;obtain⟨hpi,hil⟩:=zpD _ _ _ hi;obtain⟨A,c,rfl,-,hlk,hlc,hrow⟩:=hv.open_;have af:=zh hrow;have hb0:=zkb (zs W) (.cells #[.int .u8 t.k,.int .i64 t.n,.string t.s,.slice A t.ks.length c] 41);have k0:=heap_alloc_new W (.cells #[.int .u8 t.k,.int .i64 t.n,.string t.s,.slice A t.ks.length c] 41);obtain⟨x0,x1,x2,x3⟩:=box4 k0;have j3:=zh h.below;obtain⟨w1,hw1⟩:=zX (W.alloc (.cells #[.int .u8 t.k,.int .i64 t.n,.string t.s,.slice A t.ks.length c] 41));have hz1:w1.heap.size=W.heap.size+1:=by rw[<-hw1];simp
 rw[hw1]at hb0 k0 x0 x1 x2 x3;have hmk:=zKr t.ks.length (by unfold LK at hlk;omega);have hb1:=zkb hb0 (.cells (strA (List.replicate t.ks.length ⟨#[]⟩)) 9);have k1:=heap_alloc_new w1 (.cells (strA (List.replicate t.ks.length ⟨#[]⟩)) 9);have j0:=zke k0 (.cells (strA (List.replicate t.ks.length ⟨#[]⟩)) 9);rw[hz1]at k1;rw[<-zx9]at hmk;have hz2:(w1.alloc (.cells (strA (argL t.ks 0)) 9)).heap.size=W.heap.size+2:=by simp[hz1]
 rw[<-zx9]at hb1 k1 j0;have HB1:=zh hb1;have K1:=zh k1;have J0:=zh j0;obtain⟨o,ho⟩:=zX (caO C.p.prs C.F g back i q (t.ks.map (·.s)) r);have bP:=zh ho;have HO:=zh (show(zkB C.F r).bind (fun r=>(zkj r (zk1 r.S q.ps (t.ks.map (·.s)))).bind (caR C.p.prs C.F g back i q.b))=o from ho);rw[ho]at aG ⊢;have dA:=zh aG;have HPI:=zh hpi;have wo:=zh hil;have HQ:=zh hq;have hlk2:t.ks.length<=17592186044416:=by unfold LK at hlk;omega
 have HZ2:=zh hz2;clear hv hb0 k0 h ho aG hrow hS hC hlk hpi hil hq hi hb1 k1 j0 hz2;go_enter func183,ntmps183;go_wp2_with fail;clear x0 x1 x2 x3 hw1 hmk;have jP:=zh (fun j (hj:j<t.ks.length)=>zxi t.ks hj);have HAN:=zh (fun j (hj:j<=t.ks.length)=>zxj t.ks hj)
 go_loopw [18] (fun x wr=>∃j:Nat,j<=t.ks.length/\x=.int .i64 j/\Hid (Below W.heap.size W wr)/\Hid (wr.heap[W.heap.size]?=some (.cells #[.int .u8 t.k,.int .i64 t.n,.string t.s,.slice A t.ks.length c] 41 (0,0)))/\Hid (wr.heap[W.heap.size+1]?=some (.cells (strA (argL t.ks j)) 9 (0,0)))) (fun x _=>t.ks.length-(intOf x).toNat)
 case atStart=>exact⟨0,Nat.zero_le _,rfl,HB1,J0,K1⟩
 case round =>
  obtain⟨j,hj,rfl,ag,HJ,HK⟩:=hrel;clear HB1 J0 K1;by_cases hlt:j<t.ks.length
  ·obtain⟨a,u,Au,cu,rfl,-,Hu,⟨p0,p1,p2,p3⟩,-⟩:=af.out.nd hlt;have hbb:=zka j3.out ag.out;have q0:=zb hbb p0;have q1:=zb hbb p1;have q2:=zb hbb p2;have q3:=zb hbb p3;have hj1:(j:Int)<(t.ks.length:Int):=by omega
   have hj0:(0:Int)<=(j:Int):=by omega
   have kz:=zke HK.out (.cells #[.int .u8 u.k,.int .i64 u.n,.string u.s,.slice Au u.ks.length cu] 41);have jz:=zke HJ.out (.cells #[.int .u8 u.k,.int .i64 u.n,.string u.s,.slice Au u.ks.length cu] 41);have hbz:=zkb ag.out (.cells #[.int .u8 u.k,.int .i64 u.n,.string u.s,.slice Au u.ks.length cu] 41);have zc:∃y,(strA (argL t.ks j))[j]?=some y:=⟨_,Array.getElem?_eq_getElem (by simp[strA,HAN.out j hj];exact hlt)⟩
   obtain⟨y,hy⟩:=zc;have zy:=zc kz hy;have zf:(wr.alloc (.cells #[.int .u8 u.k,.int .i64 u.n,.string u.s,.slice Au u.ks.length cu] 41)).frozen? ⟨W.heap.size+1,j,none⟩=false:=zf kz;have zt:=zh hbz;have HKZ:=zh kz;have HJZ:=zh jz;have hwlt:W.heap.size+1<wr.heap.size:=zko HK.out;clear hbb p0 p1 p2 p3 kz jz hbz hy;go_wp2_with fail
   go_roundw
   case rel =>
    have hch:=(Chg.refl (fun b=>b=W.heap.size+1) wr).setCell (p:=⟨W.heap.size+1,j,none⟩) (.inl rfl) (.string u.s);refine⟨j+1,by omega,by go_num,zh (zkb (ag.out.trans (hch.below ag.out.size fun b e=>by omega)) _),zh (zke (hch.keep HJ.out (by omega)) _),zh ?_⟩;have:=heap_setCell_same _ (W.heap.size+1) j _ _ (.string u.s) HK.out;refine zke ?_ _;rw[this,<-jP.out j hlt,Hu.out]
   case measure=>simp[intOf];omega
  ·obtain rfl:j=t.ks.length:=by omega
   rw[zxk]at HK;have hj1:¬ (t.ks.length:Int)<(t.ks.length:Int):=by omega
   have hrn:=H.out.n;have hel:=H.out.el;obtain⟨pa,q1,B1,d1,B2,d2,hA2,-,Hq1,⟨p0,p1,p2,p3,p4,p5⟩,hpr⟩:=HC.out.pg.procs.nd wo.out;obtain rfl:q=q1:=by
    have e:=HQ.out;rw[List.getElem?_eq_getElem wo.out,Hq1.out]at e;injection e with e;exact e.symm
   have HPRR:=zh hpr;have hbb:=zka j3.out ag.out;have dC:=zh hbb;have il:=zh (fun w' (hb:Below wr.heap.size wr w')=>zns C.p Any (pv C.A1 C.p.vs.length C.c1 C.A2 C.p.prs.length C.c2 C.p.m.k C.p.m.n C.p.m.s C.A3 C.p.m.ks.length C.c3) t.s w' ⟨_,_,_,_,_,_,rfl,HC.out.pg.later (zka dC.out hb)⟩);rw[HPI.out]at il;have HXB:=zh (zkc H.out.box ag.out);rw[hA2]at il;have aP:Hid (wr.cell? ⟨C.rb,0,none⟩=some (.slice C.A1 C.p.vs.length C.c1)/\wr.cell? ⟨C.rb,1,none⟩=some (.slice (some pa) C.p.prs.length C.c2)/\wr.cell? ⟨C.rb,2,none⟩=some (.int .u8 C.p.m.k)/\wr.cell? ⟨C.rb,3,none⟩=some (.int .i64 C.p.m.n)/\wr.cell? ⟨C.rb,4,none⟩=some (.string C.p.m.s)/\wr.cell? ⟨C.rb,5,none⟩=some (.slice C.A3 C.p.m.ks.length C.c3)) :=
    zh ⟨zc HXB.out rfl,by rw[<-hA2];exact zc HXB.out rfl,zc HXB.out rfl,zc HXB.out rfl,zc HXB.out rfl,zc HXB.out rfl⟩
   have uJ:=zh (show(i:Int)<(C.p.prs.length:Int) by have:=wo.out;omega);obtain⟨rb,hrb⟩:=zX (C.rb);obtain⟨z1,hz1⟩:=zX (C.A1);obtain⟨z2,hz2⟩:=zX (C.p.vs.length);obtain⟨z3,hz3⟩:=zX (C.c1);obtain⟨z5,oO⟩:=zX (C.p.prs.length);obtain⟨z6,dW⟩:=zX (C.c2);obtain⟨z7,gX⟩:=zX (C.p.m.k);obtain⟨z8,zP⟩:=zX (C.p.m.n);obtain⟨z9,yw⟩:=zX (C.p.m.s);obtain⟨z10,rU⟩:=zX (C.A3);obtain⟨z11,rT⟩:=zX (C.p.m.ks.length);obtain⟨z12,rR⟩:=zX (C.c3);rw[hz1,hz2,hz3,oO,dW,gX,zP,yw,rU,rT,rR]at il;rw[hrb,hz1,hz2,hz3,oO,dW,gX,zP,yw,rU,rT,rR]at aP;have az:=zh (show ∀w',Below wr.heap.size wr w'->(fun w':World=>zv w' rb 0 (.slice z1 z2 z3)/\zv w' rb 1 (.slice (some pa) z5 z6)/\zv w' rb 2 (.int .u8 z7)/\zv w' rb 3 (.int .i64 z8)/\zv w' rb 4 (.string z9)/\zv w' rb 5 (.slice z10 z11 z12)/\zv w' W.heap.size 2 (.string t.s)) w' from fun w' hb=>by
    obtain⟨y0,y1,y2,y3,y4,y5⟩:=aP.out;exact⟨zb hb y0,zb hb y1,zb hb y2,zb hb y3,zb hb y4,zb hb y5,zb hb (zc HJ.out rfl)⟩)
   have ik:=zh (az.out _ zr.drew);have oD:=zh (show C.w.cell? (pa.add (i*6))=_/\_/\_/\_/\_/\_ from⟨p0,p1,p2,p3,p4,p5⟩);clear p0 p1 p2 p3 p4 p5 hpr hbb hz1 hz2 hz3 dW gX zP yw rU rT rR hel hrn hj1;have pW:=zh oO;rw[oO]at uJ;clear oO;have dz:=zh hrb;clear hrb hA2;rw[dz.out];have hj1:¬ (t.ks.length:Int)<(t.ks.length:Int):=by omega
   go_upto_region 7 with fail
   go_region_held3 (fun w':World=>zv w' rb 0 (.slice z1 z2 z3)/\zv w' rb 1 (.slice (some pa) z5 z6)/\zv w' rb 2 (.int .u8 z7)/\zv w' rb 3 (.int .i64 z8)/\zv w' rb 4 (.string z9)/\zv w' rb 5 (.slice z10 z11 z12)/\zv w' W.heap.size 2 (.string t.s))
    (first|with_reducible exact dL.out|with_reducible exact ik.out)
    (first
     | (go_at_call 72;refine(il.out _ zr.drew).mono ?_;rintro e y1 ⟨rfl,dZ⟩;have b1:=zka (zs wr).drew dZ;have dL:=zh (az.out _ b1))
     | fail)
   have hb1:=zka dC.out b1;have p0:=zb hb1 oD.out.1;have p1:=zb hb1 oD.out.2.1;have p2:=zb hb1 oD.out.2.2.1;have p3:=zb hb1 oD.out.2.2.2.1;have p4:=zb hb1 oD.out.2.2.2.2.1;have p5:=zb hb1 oD.out.2.2.2.2.2;obtain⟨-,e1,-⟩:=dL.out;have hi1:=uJ.out;have hi0:(0:Int)<=(i:Int):=by omega
   have fK:=zkb (zka ag.out b1) (.cells #[.string q.s,.slice B1 q.ps.length d1,.int .u8 q.b.k,.int .i64 q.b.n,.string q.b.s,.slice B2 q.b.ks.length d2] 75);have k0:=zke (zkc HJ.out b1) (.cells #[.string q.s,.slice B1 q.ps.length d1,.int .u8 q.b.k,.int .i64 q.b.n,.string q.b.s,.slice B2 q.b.ks.length d2] 75);have k1:=zke (zkc HK.out b1) (.cells #[.string q.s,.slice B1 q.ps.length d1,.int .u8 q.b.k,.int .i64 q.b.n,.string q.b.s,.slice B2 q.b.ks.length d2] 75);have k2:=heap_alloc_new y1 (.cells #[.string q.s,.slice B1 q.ps.length d1,.int .u8 q.b.k,.int .i64 q.b.n,.string q.b.s,.slice B2 q.b.ks.length d2] 75);obtain⟨pb,hpb⟩:=zX (y1.heap.size);have hpl:W.heap.size<=pb:=by rw[<-hpb];exact(zka ag.out b1).size
   obtain⟨w5,iA⟩:=zX (y1.alloc (.cells #[.string q.s,.slice B1 q.ps.length d1,.int .u8 q.b.k,.int .i64 q.b.n,.string q.b.s,.slice B2 q.b.ks.length d2] 75));rw[iA]at fK k0 k1;rw[hpb,iA]at k2;have bT:=zh (Kpt.of_below (n0:=C.n0) (kb:=C.kb) fK);obtain⟨yM,h5⟩:=H.out.plus HC.out fK;have l0:=zko k0;have l1:=zko k1;have l2:=zko k2;obtain⟨hi,hhi⟩:=zX (w5.heap.size);rw[hhi]at yM h5 l0 l1 l2;have dB:=zh yM;have K0:=zh k0;have K1:=zh k1;have K2:=zh k2;have HST:=zh (zl1 yM h5);rw[show(C.plus W.heap.size hi).rb=rb from dz.out]at HST;have xJ:=zh hpl;obtain⟨ss,hss⟩:=zX (t.ks.map (·.s));have qY:=zh (show ss.length=t.ks.length by rw[<-hss];simp);rw[hss]at HO K1;clear hb1 b1 dZ dL az ik fK k0 k1 k2 yM h5 oD hpl aP il jP HAN HK HJ hss;go_upto_region 9 with fail;clear p0 p1 p2 p3 p4 p5 e1 iA hpb;go_wp2_with fail;refine HST.out.mono ?_;rintro e w6 ⟨bS,hb6,kC⟩
   have dS:=zh (bT.out.trans (Kpt.less (C:=C) bS));have aU:=zh (show Below C.w.heap.size C.w w6 from hb6);have cK:match zkB C.F r with
    | .gas=>True
    | .err x=>e=zlK x
    | .ok r=>(∃u,e=.returned u)/\RI (C.plus W.heap.size hi) w6 r:=kC
   have uI:=zh bS;clear HST bS hb6 kC
   cases hy:zkB C.F r with
   | gas=>exact absurd (by rw[<-HO.out,hy];rfl) dA.out
   | err x =>
    rw[hy]at cK;subst cK;refine⟨rfl,dS.out,aU.out,?_⟩
    try rw[bP.out]
    rw[<-HO.out,hy];rfl
   | ok r1 =>
    rw[hy]at cK;obtain⟨⟨u3,rfl⟩,hr1⟩:=cK;have gL:=zh hr1;have qo:=zh (show(zkj r1 (zk1 r1.S q.ps ss)).bind (caR C.p.prs C.F g back i q.b)=o by rw[<-HO.out,hy];rfl);have bU:=zh (show FB r.n r1.S/\r1.n=r.n+1/\r1.ent=r.ent by obtain⟨rfl,-⟩:=zkU hy;exact⟨H.out.fb,rfl,rfl⟩);have j2:=uI.out.blk (.inr (.inr ⟨xJ.out,l2⟩)) K2.out;have hSS:zW (fun w':World=>zv w' rb 6 (.pointer (some ⟨C.sb,0,none⟩))/\zv w' pb 1 (.slice B1 q.ps.length d1)) zU w6.drew:=⟨⟨by rw[<-dz.out];exact hr1.cells.1,zc j2 rfl⟩,trivial⟩
    clear hr1 hy j2;go_upto_region 10 with fail;refine zG hSS 9 ?_;refine zT 0 hSS ?_;refine zT 1 hSS ?_;refine zT 2 hSS ?_;refine zT 3 hSS ?_;refine zT 4 hSS ?_;refine zT 5 hSS ?_;refine zT 6 hSS ?_;refine zT 7 hSS ?_;obtain⟨R,hR⟩:=zX (zk1 r1.S q.ps ss);have HRR:=zh hR;have hbd:Below w6.heap.size w6 w6.drew:=zr.drew;have hpq:q.ps.length<=1000:=HC.out.ps q (List.mem_of_getElem? HQ.out);have hen:=(gL.out.later hbd).ks.enter q.ps ss B1 (some ⟨W.heap.size+1,0,none⟩) d1 t.ks.length (HPRR.out.row.later (zka aU.out hbd)) ((zv8 (uI.out.blk (.inr (.inr ⟨Nat.le_succ _,l1⟩)) K1.out)).later hbd) (by omega) (by rw[qY.out];exact hlk2);rw[qY.out]at hen
    have had:Calls prog 203 [.pointer (some ⟨C.sb,0,none⟩),.slice B1 q.ps.length d1,.slice (some ⟨W.heap.size+1,0,none⟩) t.ks.length t.ks.length].toArray w6.drew fun e w'=>∃v,e=.returned v/\(v=.int .i64 R.1/\RI (C.plus W.heap.size hi) w' { r1 with S:=R.2 }/\Kpt C.n0 (C.plus W.heap.size hi).kb w6 w') :=
     hen.mono fun e w' ⟨h1,h2,h3⟩=>by
      have hs:=RI.store (C:=C.plus W.heap.size hi) (gL.out.later hbd) (hR▸h2) h3 (by rw[bU.out.2.1,<-hR];exact bU.out.1.enter _ _ hpq);exact⟨_,h1,by rw[hR],hs.1,(Kpt.of_below hbd).trans hs.2⟩
    refine zo 8 fun K hK=>?_;refine zlz (by rfl) (.func 203) [.tmp 50,.tmp 52,.tmp 53] _ (by rfl) 203 _ zwX (by rfl) _ (by rfl) _ had ?_;rintro v7 w7 ⟨rfl,nW,pE⟩;have nI:=zh (uI.out.trans pE);have j2:=nI.out.blk (.inr (.inr ⟨xJ.out,l2⟩)) K2.out;have oC:=zh nW;have tO:(fun w':World=>zv w' rb 6 (.pointer (some ⟨C.sb,0,none⟩))/\zv w' pb 1 (.slice B1 q.ps.length d1)) w7:=⟨by rw[<-dz.out];exact nW.cells.1,zc j2 rfl⟩
    refine hK.out _ _ ⟨tO,trivial⟩ ?_;have HS7:=zh tO;have Cz:=zh nW.below;clear hK K had nW pE j2 tO hSS hen;(try simp only[zQ]);have rA:=zh (bT.out.trans (Kpt.less (C:=C) nI.out));rw[hR]at qo;have had:=zlm ⟨rb,0,none⟩ R.1 w7;refine zp 9 fun K hK=>?_;refine zlc (by rfl) (.func 180) [.tmp 46,.tmp 54] _ (by rfl) 180 _ zmm (by rfl) _ (by rfl) (fun v w'=>w'=w7/\R.1=0) (had.mono ?_) ?_
    ·rintro e y1 ⟨rfl,hv1⟩;rcases hv1 with⟨h0,u0,rfl⟩|⟨h0,rfl⟩
     ·exact .inl ⟨_,rfl,rfl,h0⟩
     ·refine .inr ⟨_,rfl,?_⟩;refine⟨rfl,rA.out,Cz.out,?_⟩
      try rw[bP.out]
      rw[<-qo.out,show zkj r1 R=.err R.1 by unfold zkj;rw[if_pos h0]];rfl
    rintro v8 w8 ⟨rfl,h0⟩;have kT:=zh (show caR C.p.prs C.F g back i q.b { r1 with S:=R.2 }=o by rw[<-qo.out,show zkj r1 R=.ok { r1 with S:=R.2 } by unfold zkj;rw[if_neg (by simpa using h0)]];rfl);refine hK.out _ _ HS7.out ?_;clear hK K had h0;(try simp only[zQ]);refine zd ?_;obtain⟨r2,hr2⟩:=zX (({ r1 with S:=R.2 }:RS));rw[hr2]at oC kT;have he2:r2.ent.length=C.p.prs.length:=oC.out.el;have hi2:i<r2.ent.length:=by rw[he2];exact wo.out
    have hn2:r2.ent.getD i 0+1<=r2.n:=by
     rw[<-hr2];simp only;rw[bU.out.2.2,bU.out.2.1,List.getD_eq_getElem?_getD,List.getElem?_eq_getElem (by rw[H.out.el];exact wo.out)];have:=H.out.en _ (List.getElem_mem (l:=r.ent) (n:=i) (by rw[H.out.el];exact wo.out));simp only[Option.getD_some];omega
    obtain⟨eg,ec,hev,hcz,hcf,hrc,hkc⟩:=oC.out.count dB.out hi2 hn2;have hev':C.ev=.slice (some ⟨eg,0,none⟩) r2.ent.length ec:=hev;obtain⟨-,-,-,e9,-⟩:=oC.out.cells;have e9':w8.cell? ⟨rb,9,none⟩=some (.slice (some ⟨eg,0,none⟩) z5 ec):=by
     rw[<-dz.out,<-pW.out,<-he2,<-hev'];exact e9
    have hnn:=oC.out.n;have zR:IntKind.i64.wrap ((r2.ent.getD i 0:Nat)+1:Int)=((r2.ent.getD i 0+1:Nat):Int):=by rw[IntWalk.i64_in _ (by omega)];omega
    have jX:=zh (show(runO C.p.prs C.F g back q.b { r2 with ent:=r2.ent.set i (r2.ent.getD i 0+1) }).bind (fun r=>(zkB C.F r).bind fun r=>zkj r (zk2 r.S))=o from kT.out);obtain⟨e0,he0⟩:=zX (r2.ent.getD i 0);rw[he0]at hcz hrc hkc zR jX;obtain⟨w9,bX⟩:=zX (w8.setCell ⟨eg,i,none⟩ (.int .i64 ((e0+1:Nat):Int)));rw[bX]at hrc hkc;obtain⟨r3,hr3⟩:=zX (({ r2 with ent:=r2.ent.set i (e0+1) }:RS));rw[hr3]at hrc jX;have bJ:=zh hrc;have uH:=zh (nI.out.trans hkc);have iq:=zh (bT.out.trans (Kpt.less (C:=C) uH.out));have aH:=zh (show Below C.w.heap.size C.w w9 from hrc.below);have j2:=uH.out.blk (.inr (.inr ⟨xJ.out,l2⟩)) K2.out;have hgu:runO C.p.prs C.F g back q.b r3 ≠ .gas:=fun e=>dA.out (by rw[<-jX.out,e];rfl);have aC:=zh (zlq HS.out dB.out bJ.out q.b _ back HPRR.out.body hG1 hgu);rw[show(C.plus W.heap.size hi).rb=rb from dz.out]at aC;have HJ2:=zh j2
    have hi1:=uJ.out;have hi0:(0:Int)<=(i:Int):=by omega
    rw[show((e0+1:Nat):Int)=(e0:Int)+1 by omega]at zR bX;clear hr2 he2 hi2 hn2 hev hev' e9 hnn he0 hr3 hrc hkc j2 hgu hG1 kT HS7 hbd hpq hR;go_upto_region 12 with fail;clear bX hcz hcf e9' zR;have q2:w9.cell? ⟨pb,2,none⟩=some (.int .u8 q.b.k):=zc HJ2.out rfl;have q3:w9.cell? ⟨pb,3,none⟩=some (.int .i64 q.b.n):=zc HJ2.out rfl;have q4:w9.cell? ⟨pb,4,none⟩=some (.string q.b.s):=zc HJ2.out rfl;have q5:w9.cell? ⟨pb,5,none⟩=some (.slice B2 q.b.ks.length d2):=zc HJ2.out rfl;go_wp2_with fail;refine aC.out.mono ?_;rintro e aT ⟨hk10,hb10,ho10⟩;have HK510:=zh (uH.out.trans hk10);have HK10:=zh (bT.out.trans (Kpt.less (C:=C) HK510.out));have dI:=zh (show Below C.w.heap.size C.w aT from hb10);have jT:match runO C.p.prs C.F g back q.b r3 with
     | .gas=>True
     | .err x=>e=zlK x
     | .ok r=>(∃u,e=.returned u)/\RI (C.plus W.heap.size hi) aT r:=ho10
    clear q2 q3 q4 q5 hk10 hb10 ho10 aC
    cases hx:runO C.p.prs C.F g back q.b r3 with
    | gas=>exact absurd (by rw[<-jX.out,hx];rfl) dA.out
    | err x =>
     rw[hx]at jT;subst jT;refine⟨rfl,HK10.out,dI.out,?_⟩
     try rw[bP.out]
     rw[<-jX.out,hx];rfl
    | ok r4 =>
     rw[hx]at jT;obtain⟨⟨u9,rfl⟩,hr4⟩:=jT;have HST:=zh (zl1 dB.out hr4);rw[show(C.plus W.heap.size hi).rb=rb from dz.out]at HST;have fP:=zh (show((zkB C.F r4).bind fun r=>zkj r (zk2 r.S))=o by rw[<-jX.out,hx];rfl);have qg:=zh hr4;clear hx hr4;go_wp2_with fail;refine HST.out.mono ?_;rintro e aQ ⟨iC,pU,o8⟩;have HK511:=zh (HK510.out.trans iC);have dF:=zh (bT.out.trans (Kpt.less (C:=C) HK511.out));have bN:=zh (show Below C.w.heap.size C.w aQ from pU);have jS:match zkB C.F r4 with
      | .gas=>True
      | .err x=>e=zlK x
      | .ok r=>(∃u,e=.returned u)/\RI (C.plus W.heap.size hi) aQ r:=o8
     clear iC pU o8 HST
     cases hy:zkB C.F r4 with
     | gas=>exact absurd (by rw[<-fP.out,hy];rfl) dA.out
     | err x =>
      rw[hy]at jS;subst jS;refine⟨rfl,dF.out,bN.out,?_⟩
      try rw[bP.out]
      rw[<-fP.out,hy];rfl
     | ok r5 =>
      rw[hy]at jS;obtain⟨⟨u9,rfl⟩,ko⟩:=jS;have kR:=zh ko;have iU:=zh (show FB r4.n r5.S/\r5.n=r4.n+1 by obtain⟨rfl,-⟩:=zkU hy;exact⟨qg.out.fb,rfl⟩);obtain⟨Rc,lH⟩:=zX (zk2 r5.S);have iN:=zh (show zkj r5 Rc=o by rw[<-fP.out,hy,<-lH];rfl);have y6:aQ.cell? ⟨rb,6,none⟩=some (.pointer (some ⟨C.sb,0,none⟩)):=by rw[<-dz.out];exact ko.cells.1
      clear ko hy;go_wp2_with fail;refine(kR.out.ks.leave).mono ?_;rintro e iW ⟨rfl,h2,h3⟩;have hs:=RI.store (C:=C.plus W.heap.size hi) kR.out h2 h3 (by rw[iU.out.2];exact iU.out.1.leave);rw[lH]at hs ⊢;have mX:=zh hs.1;have HK512:=zh (HK511.out.trans hs.2);have gW:=zh hs.1.below;have jI:=zh (bT.out.trans (Kpt.less (C:=C) HK512.out));clear hs h2 h3 y6;go_wp2_with fail;refine(zlm ⟨rb,0,none⟩ Rc.1 iW).mono ?_;rintro e y1 ⟨rfl,hv1⟩;rcases hv1 with⟨h0,u0,rfl⟩|⟨h0,rfl⟩
      ·have gQ:=zh (show o=.ok { r5 with S:=Rc.2 } by rw[<-iN.out];unfold zkj;rw[if_neg (by simpa using h0)]);have uB:=zh mX.out.less;clear h0;go_wp2_with fail;go_end0;refine⟨jI.out,gW.out,?_⟩
       try rw[bP.out]
       rw[gQ.out];exact⟨⟨_,rfl⟩,uB.out⟩
      ·refine⟨rfl,jI.out,gW.out,?_⟩
       try rw[bP.out]
       rw[<-iN.out,show zkj r5 Rc=.err Rc.1 by unfold zkj;rw[if_pos h0]]
theorem zq6{G:List PR->T->Prop}{g:Nat}(hS:IStC G g){C:RC}(hC:C.Ok){W:World}{r:RS}(h:RI C W r)(t:T)(v:Value)(back:Bool)(hv:NV C.w Any t v)(hk0:t.k=50)(i:Nat)(hi:prcI C.p.prs t.s=some i)(q:PR)(hq:C.p.prs[i]?=some q)(hG1:∀u∈q.b.ks,G C.p.prs u)
  (o:Out)(ho:caO C.p.prs C.F g back i q (t.ks.map (·.s)) r=o)(hog:o ≠ .gas) :
  Calls prog 137 #[.pointer (some ⟨C.rb,0,none⟩),v,.bool back] W (RunP C W o):=by
 have aG:=hog
 cases back
 ·skip
  obtain⟨k,n,s,ks⟩:=t;obtain rfl:k=50:=hk0;obtain⟨A,c,rfl,-,hlk,hlc,-⟩:=hv.open_;have hb0:=zkb (zs W) (.cells #[.int .u8 50,.int .i64 n,.string s,.slice A ks.length c] 41);obtain⟨x0,x1,x2,x3⟩:=box4 (heap_alloc_new W (.cells #[.int .u8 50,.int .i64 n,.string s,.slice A ks.length c] 41));have aD:=zh (Kpt.of_below (n0:=C.n0) (kb:=C.kb) hb0);have aW:=zh (show Calls prog 183 #[.pointer (some ⟨C.rb,0,none⟩),.agg #[.int .u8 50,.int .i64 n,.string s,.slice A ks.length c],.bool false] (W.alloc (.cells #[.int .u8 50,.int .i64 n,.string s,.slice A ks.length c] 41)) (RunP C _ o)from ho▸(zn7 hS hC (h.later hb0) _ _ false hv i hi q hq hG1 (ho▸hog)));clear hv hb0 h aG hG1 ho hi hq;go_enter func137,ntmps137;go_wp2_with fail;refine aW.out.mono ?_;rintro e w1 ⟨hk1,hb1,ho1⟩
  cases o with
  | gas=>exact absurd rfl hog
  | err x =>
   subst ho1;exact⟨rfl,aD.out.trans hk1,hb1,rfl⟩
  | ok r1 =>
   obtain⟨⟨u,rfl⟩,hr1⟩:=ho1;have HR:=zh hr1;have aA:=zh (aD.out.trans hk1);have HB1:=zh hb1;clear x0 x1 x2 x3 hr1 hk1 hb1;go_wp2_with fail;go_end0;exact⟨aA.out,HB1.out,⟨_,rfl⟩,HR.out⟩
 ·skip
  obtain⟨k,n,s,ks⟩:=t;obtain rfl:k=50:=hk0;obtain⟨A,c,rfl,-,hlk,hlc,-⟩:=hv.open_;have hb0:=zkb (zs W) (.cells #[.int .u8 50,.int .i64 n,.string s,.slice A ks.length c] 41);obtain⟨x0,x1,x2,x3⟩:=box4 (heap_alloc_new W (.cells #[.int .u8 50,.int .i64 n,.string s,.slice A ks.length c] 41));have aD:=zh (Kpt.of_below (n0:=C.n0) (kb:=C.kb) hb0);have aW:=zh (show Calls prog 183 #[.pointer (some ⟨C.rb,0,none⟩),.agg #[.int .u8 50,.int .i64 n,.string s,.slice A ks.length c],.bool true] (W.alloc (.cells #[.int .u8 50,.int .i64 n,.string s,.slice A ks.length c] 41)) (RunP C _ o)from ho▸(zn7 hS hC (h.later hb0) _ _ true hv i hi q hq hG1 (ho▸hog)));clear hv hb0 h aG hG1 ho hi hq;go_enter func137,ntmps137;go_wp2_with fail;refine aW.out.mono ?_;rintro e w1 ⟨hk1,hb1,ho1⟩
  cases o with
  | gas=>exact absurd rfl hog
  | err x =>
   subst ho1;exact⟨rfl,aD.out.trans hk1,hb1,rfl⟩
  | ok r1 =>
   obtain⟨⟨u,rfl⟩,hr1⟩:=ho1;have HR:=zh hr1;have aA:=zh (aD.out.trans hk1);have HB1:=zh hb1;clear x0 x1 x2 x3 hr1 hk1 hb1;go_wp2_with fail;go_end0;exact⟨aA.out,HB1.out,⟨_,rfl⟩,HR.out⟩
theorem zq5{G:List PR->T->Prop}{g:Nat}(hS:IStC G g){C:RC}(hC:C.Ok){W:World}{r:RS}(h:RI C W r)(t:T)(v:Value)(back:Bool)(hv:NV C.w Any t v)(hk0:t.k=51)(i:Nat)(hi:prcI C.p.prs t.s=some i)(q:PR)(hq:C.p.prs[i]?=some q)(hG1:∀u∈q.b.ks,G C.p.prs u)
  (o:Out)(ho:caO C.p.prs C.F g (!back) i q (t.ks.map (·.s)) r=o)(hog:o ≠ .gas) :
  Calls prog 137 #[.pointer (some ⟨C.rb,0,none⟩),v,.bool back] W (RunP C W o):=by
 have aG:=hog
 cases back
 ·skip
  change caO C.p.prs C.F g true i q (t.ks.map (·.s)) r=o at ho;obtain⟨k,n,s,ks⟩:=t;obtain rfl:k=51:=hk0;obtain⟨A,c,rfl,-,hlk,hlc,-⟩:=hv.open_;have hb0:=zkb (zs W) (.cells #[.int .u8 51,.int .i64 n,.string s,.slice A ks.length c] 41);obtain⟨x0,x1,x2,x3⟩:=box4 (heap_alloc_new W (.cells #[.int .u8 51,.int .i64 n,.string s,.slice A ks.length c] 41));have aD:=zh (Kpt.of_below (n0:=C.n0) (kb:=C.kb) hb0);have aW:=zh (show Calls prog 183 #[.pointer (some ⟨C.rb,0,none⟩),.agg #[.int .u8 51,.int .i64 n,.string s,.slice A ks.length c],.bool true] (W.alloc (.cells #[.int .u8 51,.int .i64 n,.string s,.slice A ks.length c] 41)) (RunP C _ o)from ho▸(zn7 hS hC (h.later hb0) _ _ true hv i hi q hq hG1 (ho▸hog)));clear hv hb0 h aG hG1 ho hi hq;go_enter func137,ntmps137;go_wp2_with fail;refine aW.out.mono ?_;rintro e w1 ⟨hk1,hb1,ho1⟩
  cases o with
  | gas=>exact absurd rfl hog
  | err x =>
   subst ho1;exact⟨rfl,aD.out.trans hk1,hb1,rfl⟩
  | ok r1 =>
   obtain⟨⟨u,rfl⟩,hr1⟩:=ho1;have HR:=zh hr1;have aA:=zh (aD.out.trans hk1);have HB1:=zh hb1;clear x0 x1 x2 x3 hr1 hk1 hb1;go_wp2_with fail;go_end0;exact⟨aA.out,HB1.out,⟨_,rfl⟩,HR.out⟩
 ·skip
  change caO C.p.prs C.F g false i q (t.ks.map (·.s)) r=o at ho;obtain⟨k,n,s,ks⟩:=t;obtain rfl:k=51:=hk0;obtain⟨A,c,rfl,-,hlk,hlc,-⟩:=hv.open_;have hb0:=zkb (zs W) (.cells #[.int .u8 51,.int .i64 n,.string s,.slice A ks.length c] 41);obtain⟨x0,x1,x2,x3⟩:=box4 (heap_alloc_new W (.cells #[.int .u8 51,.int .i64 n,.string s,.slice A ks.length c] 41));have aD:=zh (Kpt.of_below (n0:=C.n0) (kb:=C.kb) hb0);have aW:=zh (show Calls prog 183 #[.pointer (some ⟨C.rb,0,none⟩),.agg #[.int .u8 51,.int .i64 n,.string s,.slice A ks.length c],.bool false] (W.alloc (.cells #[.int .u8 51,.int .i64 n,.string s,.slice A ks.length c] 41)) (RunP C _ o)from ho▸(zn7 hS hC (h.later hb0) _ _ false hv i hi q hq hG1 (ho▸hog)));clear hv hb0 h aG hG1 ho hi hq;go_enter func137,ntmps137;go_wp2_with fail;refine aW.out.mono ?_;rintro e w1 ⟨hk1,hb1,ho1⟩
  cases o with
  | gas=>exact absurd rfl hog
  | err x =>
   subst ho1;exact⟨rfl,aD.out.trans hk1,hb1,rfl⟩
  | ok r1 =>
   obtain⟨⟨u,rfl⟩,hr1⟩:=ho1;have HR:=zh hr1;have aA:=zh (aD.out.trans hk1);have HB1:=zh hb1;clear x0 x1 x2 x3 hr1 hk1 hb1;go_wp2_with fail;go_end0;exact⟨aA.out,HB1.out,⟨_,rfl⟩,HR.out⟩
structure GC(G:List PR->T->Prop):Prop where
 two:∀prs t,G prs t->(t.k=52\/t.k=53)->t.ks.length=4/\(∀u∈(kid t 1).ks,G prs u)/\∀u∈(kid t 2).ks,G prs u
 loc:∀prs t,G prs t->t.k=54->t.ks.length=3/\∀u∈(kid t 1).ks,G prs u
 stk:∀prs t,G prs t->t.k=55->t.ks.length=1/\∀u∈(kid t 0).ks,G prs u
 cal:∀prs t,G prs t->(t.k=50\/t.k=51)->∃i q,prcI prs t.s=some i/\prs[i]?=some q/\∀u∈q.b.ks,G prs u
theorem getD_some{prs:List PR}{i:Nat}{q:PR}(h:prs[i]?=some q):prs.getD i ⟨⟨#[]⟩,[],nil0⟩=q:=by
 rw[List.getD_eq_getElem?_getD,h];rfl
theorem zrR{G:List PR->T->Prop}(hG:GC G):∀g,IStC G g
 | 0=>fun C hC W r h t v back hv vK hg=>absurd rfl hg
 | g+1=>fun C hC W r h t v back hv vK hg=>by
  have hS:=zrR hG g;by_cases lJ:t.k=52
  ·obtain⟨h1,h2,h3⟩:=hG.two _ _ vK (.inl lJ);have e:zkt C.p.prs C.F (g+1) back t r=brO C.p.prs C.F g back t r:=by rw[zkt,if_pos lJ];rfl
   rw[e]at hg ⊢;exact zyr hS hC h t v back hv lJ h1 h2 h3 _ rfl hg
  by_cases mJ:t.k=53
  ·obtain⟨h1,h2,h3⟩:=hG.two _ _ vK (.inr mJ);have e:zkt C.p.prs C.F (g+1) back t r=lpO C.p.prs C.F g back t r:=by rw[zkt,if_neg lJ,if_pos mJ];rfl
   rw[e]at hg ⊢;exact ztM hS hC h t v back hv mJ h1 h2 h3 _ rfl hg
  by_cases eQ:t.k=54
  ·obtain⟨h1,h2⟩:=hG.loc _ _ vK eQ;have e:zkt C.p.prs C.F (g+1) back t r=loO C.p.prs C.F g back t r:=by rw[zkt,if_neg lJ,if_neg mJ,if_pos eQ];rfl
   rw[e]at hg ⊢;exact zsJ hS hC h t v back hv eQ h1 h2 _ rfl hg
  by_cases fw:t.k=55
  ·obtain⟨h1,h2⟩:=hG.stk _ _ vK fw;have e:zkt C.p.prs C.F (g+1) back t r=lsO C.p.prs C.F g back t r:=by rw[zkt,if_neg lJ,if_neg mJ,if_neg eQ,if_pos fw];rfl
   rw[e]at hg ⊢;exact zyq hS hC h t v back hv fw h1 h2 hg
  by_cases h5:t.k=50\/t.k=51
  ·obtain⟨i,q,hi,hq,hb⟩:=hG.cal _ _ vK h5;have e:zkt C.p.prs C.F (g+1) back t r=caO C.p.prs C.F g (back != decide (t.k=51)) i q (t.ks.map (·.s)) r:=by
    rw[zkt,if_neg lJ,if_neg mJ,if_neg eQ,if_neg fw,if_pos h5,hi];dsimp only;rw[getD_some hq];rfl
   rw[e]at hg ⊢;rcases h5 with h50|lK
   ·have e2:(back != decide (t.k=51))=back:=by rw[show decide (t.k=51)=false by simp[h50]];cases back<;>rfl
    rw[e2]at hg ⊢;exact zq6 hS hC h t v back hv h50 i hi q hq hb _ rfl hg
   ·have e2:(back != decide (t.k=51)) = !back:=by rw[show decide (t.k=51)=true by simp[lK]];cases back<;>rfl
    rw[e2]at hg ⊢;exact zq5 hS hC h t v back hv lK i hi q hq hb _ rfl hg
  ·have e:zkt C.p.prs C.F (g+1) back t r=basO C.F back t r:=by
    rw[zkt,if_neg lJ,if_neg mJ,if_neg eQ,if_neg fw,if_neg h5];rfl
   rw[e];exact zv9 hC h t v back hv ⟨lJ,mJ,eQ,fw,fun h=>h5 (.inl h),fun h=>h5 (.inr h)⟩
theorem zsj(jb:Nat)(w:World)(h:w.cell? ⟨jb,0,none⟩=some (.slice none 0 0)):Calls prog 134 #[.pointer (some ⟨jb,0,none⟩)] w fun e w'=>e=.returned (.int .i64 0)/\w'=w:=by
 go_enter func134,ntmps134;go_wp2_with fail;go_ret;exact⟨rfl,rfl⟩
theorem zKf:IsFn prog 134 f134:=⟨func134,by kernel_rfl,by kernel_rfl⟩
theorem zyf{P:Program}{c:Code}{Q Q':Exit->Act->World->Prop}{a:Act}{w:World}(h:c.wp P Q a w)(hQ:∀e a' w',Q e a' w'->Q' e a' w'):c.wp P Q' a w :=
 fun b k cs=>let ⟨e,a',w',q,r⟩:=h b k cs;⟨e,a',w',hQ _ _ _ q,r⟩
theorem zyF(C:World->Prop):∃Q:Exit->Act->World->Prop,(∀a' w',a'.defers=[]->C w'->Q .normal a' w')/\∀e a' w',Q e a' w'->e=.normal/\a'.defers=[]/\C w' :=
 ⟨fun e a' w'=>e=.normal/\a'.defers=[]/\C w',fun _ _ h1 h2=>⟨rfl,h1,h2⟩,fun _ _ _ h=>h⟩
theorem tAss(x:Int)(w:World):(Instr.typeAssert (.iface 198 (.agg #[.int .i64 x])) 20 198 true).run prog w=.ok (.tuple #[.agg #[.int .i64 x],.bool true]) w:=by kernel_rfl
theorem zxh(a b c:Value)(w:World) :
  CallsD prog 135 #[a,b,c] .returning w fun e u' w'=>e=.returned (.tuple #[])/\u'=.returning/\w'=w:=by
 refine callsD_of_wpS func135 rfl fun c₀ cs hu=>?_;apply wpS_seq;apply wpS_region;simp[wpOpsS,go_sem,recoverD,hu,ntmps135,Exit.thenS];apply wpS_seq;apply wpS_seq;apply wpS_region;simp[wpOpsS,go_sem,Exit.thenS];refine wpS_cond (t:=true) (by simp[Act.eval,Array.replicate]) ?_;simp only[if_true];refine wpS_of_wp (wp_ret ?_)
 cases c₀
 simp_all [bodyPostS,results,results135,Exit.thenS]
theorem zvi(a2 a5 a4 jb:Nat)(x y:Int)(w:World)(h2:w.cell? ⟨a2,0,none⟩=some (.pointer (some ⟨jb,0,none⟩)))(h5:w.cell? ⟨a5,0,none⟩=some (.int .i64 0))(hj:w.cell? ⟨jb,0,none⟩=some (.slice none 0 0))(h4:w.cell? ⟨a4,0,none⟩=some (.int .i64 y))(hf:w.frozen? ⟨a4,0,none⟩=false) :
  CallsD prog 135 #[.pointer (some ⟨a2,0,none⟩),.pointer (some ⟨a5,0,none⟩),.pointer (some ⟨a4,0,none⟩)] (.panicking [{ v:=.iface 198 (.agg #[.int .i64 x]),recovered:=false }]) w fun e u' w' =>
   e=.returned (.tuple #[])/\u'=.panicking [{ v:=.iface 198 (.agg #[.int .i64 x]),recovered:=true }]/\w'.cell? ⟨a4,0,none⟩=some (.int .i64 x)/\Chg (fun b=>b=a4) w w':=by
 refine callsD_of_wpS func135 rfl fun c₀ cs hu=>?_;apply wpS_seq;apply wpS_region;simp[wpOpsS,go_sem,recoverD,hu,ntmps135,Exit.thenS];apply wpS_seq;apply wpS_seq;apply wpS_region;simp[wpOpsS,go_sem,Exit.thenS];refine wpS_cond (t:=false) (by simp[Act.eval,Array.replicate]) ?_;simp only[Bool.false_eq_true,if_false];refine wpS_of_wp (wp_skip ?_);refine wpS_of_wp ?_;obtain⟨Q,vH,hQ2⟩:=zyF (fun w'=>w'.cell? ⟨a4,0,none⟩=some (.int .i64 x)/\Chg (fun b=>b=a4) w w');refine zyf (Q:=Q) ?_ ?_;rotate_left 1
 ·intro e a' w' hq;obtain⟨rfl,h1,h2⟩:=hQ2 _ _ _ hq
  cases c₀
  simp_all [bodyPostS,results,results135,Exit.thenS]
 have HQ:=zh vH;clear vH hQ2 hu;refine Eq.mp (congrArg (fun t=>Code.wp prog _ Q ⟨t,[]⟩ w) (?e:(#[.pointer (some ⟨a2,0,none⟩),.pointer (some ⟨a5,0,none⟩),.pointer (some ⟨a4,0,none⟩),.iface 198 (.agg #[.int .i64 x]),undef,undef,.iface 198 (.agg #[.int .i64 x]),.iface 198 (.agg #[.int .i64 x]),.bool false,undef,undef,undef,undef,undef,undef,undef,undef,undef,undef,undef,undef,undef,undef,undef,undef,undef]:Array Value)=_)) ?_
 case e=>kernel_rfl
 go_upto_region 2 with fail;have HS:=zh (show ∀w',Below w.heap.size w w'->(fun w':World=>zv w' a2 0 (.pointer (some ⟨jb,0,none⟩))/\zv w' a5 0 (.int .i64 0)) w' from fun w' hb=>⟨zb hb h2,zb hb h5⟩);have fQ:=zh (fun w' (hb:Below w.heap.size w w')=>zsj jb w' (zb hb hj));have hSS:zW (fun w':World=>zv w' a2 0 (.pointer (some ⟨jb,0,none⟩))/\zv w' a5 0 (.int .i64 0)) zU w.drew:=⟨HS.out _ zr.drew,trivial⟩
 refine wp_region_noPanic ?_;refine zG hSS 3 ?_;refine zT 0 hSS ?_;refine zT 2 hSS ?_;have had:Calls prog 134 [.pointer (some ⟨jb,0,none⟩)].toArray w.drew fun e w'=>∃v,e=.returned v/\(v=.int .i64 0/\w'=w.drew):=(fQ.out _ zr.drew).mono fun e w' ⟨h1,h2⟩=>⟨_,h1,rfl,h2⟩
 refine zo 1 fun K hK=>?_;refine zkf (by rfl) (.func 134) [.tmp 9] _ (by rfl) 134 _ zKf (by rfl) _ (by rfl) _ had ?_;rintro v1 w1 ⟨rfl,rfl⟩;refine hK.out _ _ hSS ?_;clear hK K had;(try simp only[zQ]);refine zp 3 fun K hK=>?_;(try simp only[zA,zB,zC]);go_simp;refine hK.out _ _ hSS.1 ?_;clear hK K;(try simp only[zQ]);refine zd ?_;refine NoPanic.normal ?_;clear hSS HS fQ;have ht:=fun w=>tAss x w;obtain⟨w1,hw1⟩:=zX (w.drew);have hb1:Below w.heap.size w w1:=hw1▸zr.drew;have g4:=zb hb1 h4;have gf:w1.frozen? ⟨a4,0,none⟩=false:=hw1▸hf;have hlt:a4<w1.heap.size:=World.block_lt_of_cell? w1 _ g4;have z4:=zku g4 (.cells #[.int .i64 x] 198);have HB1:=zh hb1;rw[hw1];clear h2 h5 hj h4 hf hw1 hb1;go_wp2_with fail;have hch:=(Chg.refl (fun b=>b=a4) w1).setCell (p:=⟨a4,0,none⟩) (.inl rfl) (.int .i64 x)
 exact HQ.out _ _ rfl ⟨zku (by simp[go_sem,g4]) _,(Chg.of_below HB1.out).trans (hch.alloc _)⟩
def AttP(W:World)(R:World->Prop)(X:Int->World->Prop)(e:Ending)(w':World):Prop :=
 (e=.returned (.int .i64 0)/\∃w1,R w1/\Chg (fun b=>W.heap.size<=b/\b<W.heap.size+3) w1 w')\/∃x,e=.returned (.int .i64 x)/\∃w1,X x w1/\Chg (fun b=>W.heap.size<=b/\b<W.heap.size+3) w1 w'
theorem zrG(jb:Nat)(f:FuncId)(fn:Func)(hf:IsFn prog f fn)(caps:Array Value)(W:World)(hj:W.heap[jb]?=some (.cells #[.slice none 0 0,.bool false] 152 (0,0)))(R:World->Prop)(X:Int->World->Prop)
  (hact:∀W1,Below W.heap.size W W1->W1.heap.size=W.heap.size+3->Calls prog f caps W1 fun e w'=>(∀b,(W.heap.size<=b\/b=jb)->b<W1.heap.size->w'.heap[b]?=W1.heap[b]?)/\(((∃u,e=.returned u)/\R w')\/∃x,e=zlK x/\X x w')) :
  Calls prog 99 #[.pointer (some ⟨jb,0,none⟩),.func (.func f) #[] caps] W (AttP W R X):=by
 have nZ:∀(fn:Fn) (first cap:Array Value) (w:World),(Instr.makeFunc fn first cap).run prog w=.ok (.func fn first cap) w:=fun _ _ _ _=>rfl;have hnf:∀w:World,(binOp BinOp.eql 1 (.func (.func f) #[] caps) .nilFunc).run prog w=.ok (.bool false) w:=fun _=>by kernel_rfl
 have HJ:=zh hj;have hjl:=zko hj;have HA:=zh hact;have hLE:=fun w' (hb:Below W.heap.size W w')=>zsj jb w' (zb hb (zc hj rfl));have fQ:=zh hLE;clear hj hact hLE
 go_enter_defers func99,ntmps99
 go_wp2_with fail;refine(fQ.out _ (zkb (zkb zr _) _)).mono ?_;rintro e w1 ⟨rfl,rfl⟩;go_wp2_with fail;rw[zkQ hf,Oper.upon_enter];have k0:=zke (zke (heap_alloc_new W (.cells #[.pointer (some ⟨jb,0,none⟩)] 149)) (.cells #[.int .i64 0] 48)) (.cells #[.int .i64 0] 3);have k1:=zke (heap_alloc_new (W.alloc (.cells #[.pointer (some ⟨jb,0,none⟩)] 149)) (.cells #[.int .i64 0] 48)) (.cells #[.int .i64 0] 3);have k2:=heap_alloc_new ((W.alloc (.cells #[.pointer (some ⟨jb,0,none⟩)] 149)).alloc (.cells #[.int .i64 0] 48)) (.cells #[.int .i64 0] 3);have kj:=zke (zke (zke HJ.out (.cells #[.pointer (some ⟨jb,0,none⟩)] 149)) (.cells #[.int .i64 0] 48)) (.cells #[.int .i64 0] 3);have hb3:=zkb (zkb (zkb (zs W) (.cells #[.pointer (some ⟨jb,0,none⟩)] 149)) (.cells #[.int .i64 0] 48)) (.cells #[.int .i64 0] 3);simp only[World.size_alloc]at k1 k2
 obtain⟨w3,hw3⟩:=zX (((W.alloc (.cells #[.pointer (some ⟨jb,0,none⟩)] 149)).alloc (.cells #[.int .i64 0] 48)).alloc (.cells #[.int .i64 0] 3));have hz3:w3.heap.size=W.heap.size+3:=by rw[<-hw3];simp
 rw[hw3]at k0 k1 k2 kj hb3 ⊢;clear hw3;refine(HA.out w3 hb3 hz3).mono ?_;rintro e w2 ⟨hk,h⟩;have q0:=(hk _ (.inl zl) (by omega)).trans k0;have q1:=(hk _ (.inl (Nat.le_succ _)) (by omega)).trans k1;have q2:=(hk _ (.inl (by omega)) (by omega)).trans k2;have qj:=(hk _ (.inr rfl) (by omega)).trans kj;clear k0 k1 k2 kj hk hb3;rcases h with⟨⟨u,rfl⟩,hR⟩|⟨x,rfl,hX⟩
 ·have c1:w2.cell? ⟨W.heap.size+1,0,none⟩=some (.int .i64 0):=zc q1 rfl;have f1:∀o,w2.frozen? ⟨W.heap.size+1,o,none⟩=false:=fun _=>zf q1;have HRR:=zh hR;clear q0 q2 qj fQ HA hR;go_wp2_with fail;refine leaves_cons (f:=135) (args := #[.pointer (some ⟨W.heap.size,0,none⟩),.pointer (some ⟨W.heap.size+1+1,0,none⟩),.pointer (some ⟨W.heap.size+1,0,none⟩)]) (by simp) (by simp[go_sem]) ?_;refine(zxh _ _ _ _).mono ?_;rintro e u' w'' ⟨rfl,rfl,rfl⟩;have hch:=(Chg.refl (fun b=>W.heap.size<=b/\b<W.heap.size+3) w2).setCell (p:=⟨W.heap.size+1,0,none⟩) (.inl ⟨Nat.le_succ _,by simp⟩) (.int .i64 0);have hc2:(w2.setCell ⟨W.heap.size+1,0,none⟩ (.int .i64 0)).cell? ⟨W.heap.size+1,0,none⟩=some (.int .i64 0):=by simp[go_sem,c1]
  have HP:AttP W R X (.returned (.int .i64 0)) (w2.setCell ⟨W.heap.size+1,0,none⟩ (.int .i64 0)):=.inl ⟨rfl,w2,HRR.out,hch⟩;simp[Leaves,settle,results,results99,go_sem,hc2,HP]
 ·have p0:w2.cell? ⟨W.heap.size,0,none⟩=some (.pointer (some ⟨jb,0,none⟩)):=zc q0 rfl;have p1:w2.cell? ⟨W.heap.size+1,0,none⟩=some (.int .i64 0):=zc q1 rfl;have p2:w2.cell? ⟨W.heap.size+1+1,0,none⟩=some (.int .i64 0):=zc q2 rfl;have pj:w2.cell? ⟨jb,0,none⟩=some (.slice none 0 0):=zc qj rfl;have f1:w2.frozen? ⟨W.heap.size+1,0,none⟩=false:=zf q1;refine leaves_cons (f:=135) (args := #[.pointer (some ⟨W.heap.size,0,none⟩),.pointer (some ⟨W.heap.size+1+1,0,none⟩),.pointer (some ⟨W.heap.size+1,0,none⟩)]) (by simp) (by simp[go_sem]) ?_;refine(zvi _ _ _ jb x 0 _ p0 p2 pj p1 f1).mono ?_;rintro e u' w'' ⟨rfl,rfl,hc2,hch⟩;have HP:AttP W R X (.returned (.int .i64 x)) w'':=.inr ⟨x,rfl,w2,hX,hch.mono fun b _ e=>by omega⟩;simp[Leaves,settle,results,results99,go_sem,hc2,HP]
end
section
open Go.RowKit
def zlr(ps:List PR)(k:Int)(s:ByteArray)(l:Nat)(vs:List VD):Int :=
 if k=2 then useE vs s 1 else if k=3 then useE vs s 2 else if k=4\/k=5\/k=44\/k=45 then useE vs s 3 else if k=54\/k=55 then zmC vs s
 else if k=50\/k=51 then(match idxP ps s with
  | none=>6
  | some i=>match ps[i]? with
   | none=>6
   | some r=>if l=r.ps.length then 0 else 7)
 else 0
theorem zuL(p:PG)(t:T)(vs:List VD)(A:Option Addr)(c:Nat)(S S' S'':Nat->Prop)(v1 v2:Value)(w:World)(hv1:PV w S p v1)(hv2:NV w S' t v2)(hrow:RowV w S'' A vs)(hl:vs.length<=LV) :
  Calls prog 113 #[v1,v2,.slice A vs.length c] w fun e w'=>e=.returned (.int .i64 (zlr p.prs t.k t.s t.ks.length vs))/\Below w.heap.size w w':=by
 have hvv:=hv1;obtain⟨A1,c1,A2,c2,A3,c3,rfl,hr⟩:=hv1;have il:=zh hr.procs;have hlp:=zlk hr.lp;obtain⟨L1,hL1⟩:=zX (p.vs.length);obtain⟨L2,hL2⟩:=zX (p.prs.length);obtain⟨k,hk⟩:=zX (p.m.k);obtain⟨n,hn⟩:=zX (p.m.n);obtain⟨s,hs⟩:=zX (p.m.s);obtain⟨l3,hl3⟩:=zX (p.m.ks.length);rw[hL1,hL2,hk,hn,hs,hl3];rw[hL1,hL2,hk,hn,hs,hl3]at hvv;rw[hL2]at hlp;have HL2:=zh hL2;have HV:=zh hvv;clear hr hvv hL1 hL2 hk hn hs hl3;obtain⟨B,tc,rfl,_,hlk,_,_⟩:=hv2.open_;have aB:=zkJ hlk;have af:=zh hrow;have HL:=zh hl;clear hrow hl hv2 hlk;generalize t.k=tk,t.n=tn,t.s=ts,t.ks.length=tl at *
 obtain⟨R,hR⟩:=zX (zlr p.prs tk ts tl vs);rw[hR];have HR:=zh hR;clear hR;have hb0:∀o o',Below w.heap.size w ((w.alloc o).alloc o'):=fun o o'=>(zr.alloc zl _).alloc (by simp) _;have HB0:=zh hb0;clear hb0;by_cases h2:tk=2
 ·subst h2;have HN:=zh (show R=useE vs ts 1 by rw[<-HR.out];simp[zlr]);go_enter func113,ntmps113;go_wp2_with fail;refine(znz vs A c ts 1 S'' _ (af.out.later (HB0.out _ _)) HL.out).mono ?_;rintro e w1 ⟨rfl,ae⟩;rw[<-HN.out];have HB:=zh (zka (HB0.out _ _) ae);clear ae;go_wp2_with fail;go_ret;exact⟨rfl,HB.out⟩
 have f2:(tk==2)=false:=by simpa using h2
 by_cases h3:tk=3
 ·subst h3;have HN:=zh (show R=useE vs ts 2 by rw[<-HR.out];simp[zlr]);go_enter func113,ntmps113;go_wp2_with fail;refine(znz vs A c ts 2 S'' _ (af.out.later (HB0.out _ _)) HL.out).mono ?_;rintro e w1 ⟨rfl,ae⟩;rw[<-HN.out];have HB:=zh (zka (HB0.out _ _) ae);clear ae;go_wp2_with fail;go_ret;exact⟨rfl,HB.out⟩
 have f3:(tk==3)=false:=by simpa using h3
 by_cases h4:tk=4
 ·subst h4;have HN:=zh (show R=useE vs ts 3 by rw[<-HR.out];simp[zlr]);go_enter func113,ntmps113;go_wp2_with fail;refine(znz vs A c ts 3 S'' _ (af.out.later (HB0.out _ _)) HL.out).mono ?_;rintro e w1 ⟨rfl,ae⟩;rw[<-HN.out];have HB:=zh (zka (HB0.out _ _) ae);clear ae;go_wp2_with fail;go_ret;exact⟨rfl,HB.out⟩
 have f4:(tk==4)=false:=by simpa using h4
 by_cases h5:tk=5
 ·subst h5;have HN:=zh (show R=useE vs ts 3 by rw[<-HR.out];simp[zlr]);go_enter func113,ntmps113;go_wp2_with fail;refine(znz vs A c ts 3 S'' _ (af.out.later (HB0.out _ _)) HL.out).mono ?_;rintro e w1 ⟨rfl,ae⟩;rw[<-HN.out];have HB:=zh (zka (HB0.out _ _) ae);clear ae;go_wp2_with fail;go_ret;exact⟨rfl,HB.out⟩
 have f5:(tk==5)=false:=by simpa using h5
 by_cases ug:tk=44
 ·subst ug;have HN:=zh (show R=useE vs ts 3 by rw[<-HR.out];simp[zlr]);go_enter func113,ntmps113;go_wp2_with fail;refine(znz vs A c ts 3 S'' _ (af.out.later (HB0.out _ _)) HL.out).mono ?_;rintro e w1 ⟨rfl,ae⟩;rw[<-HN.out];have HB:=zh (zka (HB0.out _ _) ae);clear ae;go_wp2_with fail;go_ret;exact⟨rfl,HB.out⟩
 have f44:(tk==44)=false:=by simpa using ug
 by_cases h45:tk=45
 ·subst h45;have HN:=zh (show R=useE vs ts 3 by rw[<-HR.out];simp[zlr]);go_enter func113,ntmps113;go_wp2_with fail;refine(znz vs A c ts 3 S'' _ (af.out.later (HB0.out _ _)) HL.out).mono ?_;rintro e w1 ⟨rfl,ae⟩;rw[<-HN.out];have HB:=zh (zka (HB0.out _ _) ae);clear ae;go_wp2_with fail;go_ret;exact⟨rfl,HB.out⟩
 have f45:(tk==45)=false:=by simpa using h45
 by_cases eQ:tk=54
 ·subst eQ;have HN:=zh (show R=zmC vs ts by rw[<-HR.out];simp[zlr]);go_enter func113,ntmps113;go_wp2_with fail;refine(zox vs A c ts S'' _ (af.out.later (HB0.out _ _)) HL.out).mono ?_;rintro e w1 ⟨rfl,ae⟩;rw[<-HN.out];have HB:=zh (zka (HB0.out _ _) ae);clear ae;go_wp2_with fail;go_ret;exact⟨rfl,HB.out⟩
 have f54:(tk==54)=false:=by simpa using eQ
 by_cases fw:tk=55
 ·subst fw;have HN:=zh (show R=zmC vs ts by rw[<-HR.out];simp[zlr]);go_enter func113,ntmps113;go_wp2_with fail;refine(zox vs A c ts S'' _ (af.out.later (HB0.out _ _)) HL.out).mono ?_;rintro e w1 ⟨rfl,ae⟩;rw[<-HN.out];have HB:=zh (zka (HB0.out _ _) ae);clear ae;go_wp2_with fail;go_ret;exact⟨rfl,HB.out⟩
 have f55:(tk==55)=false:=by simpa using fw
 by_cases h50:tk=50
 ·subst h50;have HN:=zh (show R=(match idxP p.prs ts with|none=>6|some i=>match p.prs[i]? with|none=>6|some r=>if tl=r.ps.length then 0 else 7) by rw[<-HR.out];simp[zlr]);go_enter func113,ntmps113;go_wp2_with fail;refine(zns p S _ ts _ (HV.out.later (HB0.out _ _))).mono ?_;rintro e w1 ⟨rfl,ae⟩;have hbl:=zka (HB0.out _ _) ae;have hP:=zkc (zke (heap_alloc_new w (.cells #[.slice A1 L1 c1,.slice A2 L2 c2,.int .u8 k,.int .i64 n,.string s,.slice A3 l3 c3] 43)) _) ae;have hN:=zkc (heap_alloc_new (w.alloc (.cells #[.slice A1 L1 c1,.slice A2 L2 c2,.int .u8 k,.int .i64 n,.string s,.slice A3 l3 c3] 43)) (.cells #[.int .u8 50,.int .i64 tn,.string ts,.slice B tl tc] 41)) ae;simp only[World.size_alloc]at hN
  cases hi:idxP p.prs ts with
  | none =>
   have e1:zlL p.prs ts = -1:=by simp[zlL,hi]
   rw[e1];have aK:=zh (show R=6 by rw[HN.out,hi]);have HB:=zh hbl;clear ae hi e1 hP hN hbl;go_wp2_with fail;go_ret;exact⟨by rw[aK.out];rfl,HB.out⟩
  | some i =>
   have e1:zlL p.prs ts=i:=by simp[zlL,hi]
   rw[e1];have hi2:i<p.prs.length:=(List.findIdx?_eq_some_iff_getElem.1 hi).1;have hiL:i<L2:=by rw[<-HL2.out];exact hi2
   obtain⟨a,r,P1,d1,P2,d2,rfl,_,Hr,⟨_,q1,_⟩,hpr⟩:=(il.out.later hbl).nd hi2;obtain⟨rl,hrl⟩:=zX (r.ps.length);have hlr:=zlk hpr.lp;rw[hrl]at q1 hlr;have aK:=zh (show R=if tl=rl then 0 else 7 by rw[HN.out,hi];simp only;rw[List.getElem?_eq_getElem hi2,Hr.out,<-hrl]);obtain⟨a0,a1,a2,a3,a4,a5⟩:=box6 hP;obtain⟨b0,b1,b2,b3⟩:=box4 hN;have HB:=zh hbl;clear ae hi e1 hP hN hbl hrl hpr;go_wp2_with fail
   go_region_held3 (fun w'=>(w'.cell? ⟨w.heap.size+1,3,none⟩=some (.slice B tl tc)/\w'.cell? ⟨w.heap.size,1,none⟩=some (.slice (some a) L2 c2)/\w'.cell? ⟨(a.add (i*6)).block,(a.add (i*6)).off+1,none⟩=some (.slice P1 rl d1))) (exact⟨b3,a1,q1⟩) (fail)
   by_cases hq:tl=rl
   ·have g1:(tl==rl)=true:=by simpa using hq
    have g2:(tl != rl)=false:=by simpa using hq
    have g3:((tl:Int)==(rl:Int))=true:=by simp;omega
    have g4:((tl:Int) != (rl:Int))=false:=by simp;omega
    have bR:=zh (show R=0 by rw[aK.out,if_pos hq]);clear hq;go_wp2_with fail;go_ret;exact⟨by rw[bR.out];rfl,HB.out.drew⟩
   ·have g1:(tl==rl)=false:=by simpa using hq
    have g2:(tl != rl)=true:=by simpa using hq
    have g3:((tl:Int)==(rl:Int))=false:=by simp;omega
    have g4:((tl:Int) != (rl:Int))=true:=by simp;omega
    have bR:=zh (show R=7 by rw[aK.out,if_neg hq]);clear hq;go_wp2_with fail;go_ret;exact⟨by rw[bR.out];rfl,HB.out.drew⟩
 have f50:(tk==50)=false:=by simpa using h50
 by_cases lK:tk=51
 ·subst lK;have HN:=zh (show R=(match idxP p.prs ts with|none=>6|some i=>match p.prs[i]? with|none=>6|some r=>if tl=r.ps.length then 0 else 7) by rw[<-HR.out];simp[zlr]);go_enter func113,ntmps113;go_wp2_with fail;refine(zns p S _ ts _ (HV.out.later (HB0.out _ _))).mono ?_;rintro e w1 ⟨rfl,ae⟩;have hbl:=zka (HB0.out _ _) ae;have hP:=zkc (zke (heap_alloc_new w (.cells #[.slice A1 L1 c1,.slice A2 L2 c2,.int .u8 k,.int .i64 n,.string s,.slice A3 l3 c3] 43)) _) ae;have hN:=zkc (heap_alloc_new (w.alloc (.cells #[.slice A1 L1 c1,.slice A2 L2 c2,.int .u8 k,.int .i64 n,.string s,.slice A3 l3 c3] 43)) (.cells #[.int .u8 51,.int .i64 tn,.string ts,.slice B tl tc] 41)) ae;simp only[World.size_alloc]at hN
  cases hi:idxP p.prs ts with
  | none =>
   have e1:zlL p.prs ts = -1:=by simp[zlL,hi]
   rw[e1];have aK:=zh (show R=6 by rw[HN.out,hi]);have HB:=zh hbl;clear ae hi e1 hP hN hbl;go_wp2_with fail;go_ret;exact⟨by rw[aK.out];rfl,HB.out⟩
  | some i =>
   have e1:zlL p.prs ts=i:=by simp[zlL,hi]
   rw[e1];have hi2:i<p.prs.length:=(List.findIdx?_eq_some_iff_getElem.1 hi).1;have hiL:i<L2:=by rw[<-HL2.out];exact hi2
   obtain⟨a,r,P1,d1,P2,d2,rfl,_,Hr,⟨_,q1,_⟩,hpr⟩:=(il.out.later hbl).nd hi2;obtain⟨rl,hrl⟩:=zX (r.ps.length);have hlr:=zlk hpr.lp;rw[hrl]at q1 hlr;have aK:=zh (show R=if tl=rl then 0 else 7 by rw[HN.out,hi];simp only;rw[List.getElem?_eq_getElem hi2,Hr.out,<-hrl]);obtain⟨a0,a1,a2,a3,a4,a5⟩:=box6 hP;obtain⟨b0,b1,b2,b3⟩:=box4 hN;have HB:=zh hbl;clear ae hi e1 hP hN hbl hrl hpr;go_wp2_with fail
   go_region_held3 (fun w'=>(w'.cell? ⟨w.heap.size+1,3,none⟩=some (.slice B tl tc)/\w'.cell? ⟨w.heap.size,1,none⟩=some (.slice (some a) L2 c2)/\w'.cell? ⟨(a.add (i*6)).block,(a.add (i*6)).off+1,none⟩=some (.slice P1 rl d1))) (exact⟨b3,a1,q1⟩) (fail)
   by_cases hq:tl=rl
   ·have g1:(tl==rl)=true:=by simpa using hq
    have g2:(tl != rl)=false:=by simpa using hq
    have g3:((tl:Int)==(rl:Int))=true:=by simp;omega
    have g4:((tl:Int) != (rl:Int))=false:=by simp;omega
    have bR:=zh (show R=0 by rw[aK.out,if_pos hq]);clear hq;go_wp2_with fail;go_ret;exact⟨by rw[bR.out];rfl,HB.out.drew⟩
   ·have g1:(tl==rl)=false:=by simpa using hq
    have g2:(tl != rl)=true:=by simpa using hq
    have g3:((tl:Int)==(rl:Int))=false:=by simp;omega
    have g4:((tl:Int) != (rl:Int))=true:=by simp;omega
    have bR:=zh (show R=7 by rw[aK.out,if_neg hq]);clear hq;go_wp2_with fail;go_ret;exact⟨by rw[bR.out];rfl,HB.out.drew⟩
 have f51:(tk==51)=false:=by simpa using lK
 have HN:=zh (show R=0 by rw[<-HR.out];simp[zlr,h2,h3,h4,h5,ug,h45,eQ,fw,h50,lK]);clear h2 h3 h4 h5 ug h45 eQ fw h50 lK;go_enter func113,ntmps113;go_wp2_with fail;go_ret;exact⟨by rw[HN.out];rfl,HB0.out _ _⟩
def argE(ps:List PR)(s:ByteArray)(l i:Nat)(m:ByteArray)(vs:List VD):Int:=match zlB vs m with
 | none=>6
 | some v=>match idxP ps s with
  | none=>0
  | some j=>match ps[j]? with
   | none=>0
   | some r=>if l=r.ps.length then(match r.ps[i]? with
    | none=>0
    | some q=>if v.k=q.k/\v.n=q.n then 0 else 7)else 0
theorem box3{w:World}{b:Nat}{E:TypeId}{u0 u1 u2:Value}(h:w.heap[b]?=some (.cells #[u0,u1,u2] E (0,0))):w.cell? ⟨b,0,none⟩=some u0/\w.cell? ⟨b,1,none⟩=some u1/\w.cell? ⟨b,2,none⟩=some u2 :=
 ⟨zc h rfl,zc h rfl,zc h rfl⟩
theorem znT(p:PG)(t:T)(i:Nat)(hi:i<t.ks.length)(vs:List VD)(A:Option Addr)(c:Nat)(S S' S'':Nat->Prop)(v1 v2:Value)(w:World)(hv1:PV w S p v1)(hv2:NV w S' t v2)(hrow:RowV w S'' A vs)(hl:vs.length<=LV) :
  Calls prog 115 #[v1,v2,.int .i64 i,.slice A vs.length c] w fun e w'=>e=.returned (.int .i64 (argE p.prs t.s t.ks.length i t.ks[i].s vs))/\Below w.heap.size w w':=by
 have hvv:=hv1;obtain⟨A1,c1,A2,c2,A3,c3,rfl,hr⟩:=hv1;have il:=zh hr.procs;have hlp:=zlk hr.lp;obtain⟨L1,hL1⟩:=zX (p.vs.length);obtain⟨L2,hL2⟩:=zX (p.prs.length);obtain⟨k,hk⟩:=zX (p.m.k);obtain⟨n,hn⟩:=zX (p.m.n);obtain⟨s,hs⟩:=zX (p.m.s);obtain⟨l3,hl3⟩:=zX (p.m.ks.length);rw[hL1,hL2,hk,hn,hs,hl3];rw[hL1,hL2,hk,hn,hs,hl3]at hvv;rw[hL2]at hlp;have HL2:=zh hL2;have HV:=zh hvv;clear hr hvv hL1 hL2 hk hn hs hl3;obtain⟨B,tc,rfl,_,hlk,_,jQ⟩:=hv2.open_;have aB:=zkJ hlk;have af:=zh hrow;have HL:=zh hl;obtain⟨b,u,B1,f1,rfl,_,Hu,⟨z0,z1,z2,z3⟩,-⟩:=jQ.nd hi;rw[Hu.out];clear hrow hl hv2 hlk jQ z0 z1 z3;obtain⟨us,dX⟩:=zX (u.s);rw[dX]at z2 ⊢;clear dX Hu;generalize t.k=tk,t.n=tn,t.s=ts,t.ks.length=tl at *
 obtain⟨R,hR⟩:=zX (argE p.prs ts tl i us vs);rw[hR];have HR:=zh hR;clear hR;have hb0:∀o o',Below w.heap.size w ((w.alloc o).alloc o'):=fun o o'=>(zr.alloc zl _).alloc (by simp) _;have HB0:=zh hb0;have z2':=fun o o'=>zku (zku z2 o) o';clear hb0 z2;go_enter func115,ntmps115;go_wp2_with fail;refine(zoa vs A c us S'' _ (af.out.later (HB0.out _ _)) HL.out).mono ?_;rintro e w1 ⟨rfl,ae⟩;have hbl:=zka (HB0.out _ _) ae;have hP:=zkc (zke (heap_alloc_new w (.cells #[.slice A1 L1 c1,.slice A2 L2 c2,.int .u8 k,.int .i64 n,.string s,.slice A3 l3 c3] 43)) _) ae;have hN:=zkc (heap_alloc_new (w.alloc (.cells #[.slice A1 L1 c1,.slice A2 L2 c2,.int .u8 k,.int .i64 n,.string s,.slice A3 l3 c3] 43)) (.cells #[.int .u8 tk,.int .i64 tn,.string ts,.slice (some b) tl tc] 41)) ae;simp only[World.size_alloc]at hN
 cases hf:zlB vs us with
 | none =>
  have HN:=zh (show R=6 by rw[<-HR.out];simp[argE,hf]);have HB:=zh (zkb hbl (.cells #[.string ⟨#[]⟩,.int .u8 0,.int .i64 0] 57));clear hf ae hP hN hbl z2';go_wp2_with fail;go_ret;exact⟨by rw[HN.out];rfl,HB.out⟩
 | some v =>
  obtain⟨vm,vk,vl⟩:=v;have hq2:=zkb hbl (.cells #[.string vm,.int .u8 vk,.int .i64 vl] 57);have hP2:=zke hP (.cells #[.string vm,.int .u8 vk,.int .i64 vl] 57);have Bi:=zke hN (.cells #[.string vm,.int .u8 vk,.int .i64 vl] 57);have hV2:=heap_alloc_new w1 (.cells #[.string vm,.int .u8 vk,.int .i64 vl] 57);have HR2:=zh (show R=(match idxP p.prs ts with
   | none=>0
   | some j=>match p.prs[j]? with
    | none=>0
    | some r=>if tl=r.ps.length then(match r.ps[i]? with
     | none=>0
     | some q=>if vk=q.k/\vl=q.n then 0 else 7)else 0) by rw[<-HR.out];simp[argE,hf])
  obtain⟨a0,a1,a2,a3,a4,a5⟩:=box6 hP2;obtain⟨b0,b1,b2,b3⟩:=box4 Bi;have lN:=zh hP2;have aK:=zh Bi;have yQ:=zh hV2;have BR:=zh hq2;clear hf ae hP hN hbl z2' hP2 Bi hV2 hq2 HR;go_wp2_with fail;refine(zns p S _ ts _ (HV.out.later BR.out)).mono ?_;rintro e w2 ⟨rfl,au⟩;have hbl:=zka BR.out au;have hP:=zkc lN.out au;have hN:=zkc aK.out au;have hV:=zkc yQ.out au;clear a0 a1 a2 a3 a4 a5 b0 b1 b2 b3 lN aK yQ BR au
  cases hi2:idxP p.prs ts with
  | none =>
   have e1:zlL p.prs ts = -1:=by simp[zlL,hi2]
   rw[e1];have bR:=zh (show R=0 by rw[HR2.out,hi2]);have HB:=zh hbl;clear hi2 e1 hP hN hV hbl;go_wp2_with fail;refine wp_region_noPanic ?_;refine zkl zU zU 20 (by kernel_rfl) ?_;have hSS:zW zU zU w2.drew:=⟨trivial,trivial⟩
   refine zT 0 hSS ?_;refine zT 1 hSS ?_;refine zT 2 hSS ?_;refine zkV (i:=3) (v:=undef) rfl (by kernel_rfl) (by kernel_rfl) (by kernel_rfl) (by decide) (fun _ _ _ h=>h) (Or.inr ⟨by rfl,rfl⟩) hSS ?_;(try simp only[zQ]);refine zkV (i:=4) (v:=undef) rfl (by kernel_rfl) (by kernel_rfl) (by kernel_rfl) (by decide) (fun _ _ _ h=>h) (Or.inr ⟨by rfl,rfl⟩) hSS ?_;(try simp only[zQ]);refine zkV (i:=5) (v:=undef) rfl (by kernel_rfl) (by kernel_rfl) (by kernel_rfl) (by decide) (fun _ _ _ h=>h) (Or.inr ⟨by rfl,rfl⟩) hSS ?_;(try simp only[zQ]);refine zkV (i:=6) (v:=undef) rfl (by kernel_rfl) (by kernel_rfl) (by kernel_rfl) (by decide) (fun _ _ _ h=>h) (Or.inr ⟨by rfl,rfl⟩) hSS ?_;(try simp only[zQ]);refine zkV (i:=7) (v:=undef) rfl (by kernel_rfl) (by kernel_rfl) (by kernel_rfl) (by decide) (fun _ _ _ h=>h) (Or.inr ⟨by rfl,rfl⟩) hSS ?_;(try simp only[zQ])
   refine zkV (i:=8) (v:=undef) rfl (by kernel_rfl) (by kernel_rfl) (by kernel_rfl) (by decide) (fun _ _ _ h=>h) (Or.inr ⟨by rfl,rfl⟩) hSS ?_;(try simp only[zQ]);refine zkV (i:=9) (v:=undef) rfl (by kernel_rfl) (by kernel_rfl) (by kernel_rfl) (by decide) (fun _ _ _ h=>h) (Or.inr ⟨by rfl,rfl⟩) hSS ?_;(try simp only[zQ]);refine zkV (i:=10) (v:=undef) rfl (by kernel_rfl) (by kernel_rfl) (by kernel_rfl) (by decide) (fun _ _ _ h=>h) (Or.inr ⟨by rfl,rfl⟩) hSS ?_;(try simp only[zQ]);refine zkV (i:=11) (v:=undef) rfl (by kernel_rfl) (by kernel_rfl) (by kernel_rfl) (by decide) (fun _ _ _ h=>h) (Or.inr ⟨by rfl,rfl⟩) hSS ?_;(try simp only[zQ]);refine zkV (i:=12) (v:=undef) rfl (by kernel_rfl) (by kernel_rfl) (by kernel_rfl) (by decide) (fun _ _ _ h=>h) (Or.inr ⟨by rfl,rfl⟩) hSS ?_;(try simp only[zQ])
   refine zkV (i:=13) (v:=undef) rfl (by kernel_rfl) (by kernel_rfl) (by kernel_rfl) (by decide) (fun _ _ _ h=>h) (Or.inr ⟨by rfl,rfl⟩) hSS ?_;(try simp only[zQ]);refine zT 14 hSS ?_;refine zd ?_;refine NoPanic.normal ?_;clear hSS;go_wp2_with fail;go_ret;exact⟨by rw[bR.out];rfl,HB.out.drew⟩
  | some j =>
   have e1:zlL p.prs ts=j:=by simp[zlL,hi2]
   rw[e1];have hj2:j<p.prs.length:=(List.findIdx?_eq_some_iff_getElem.1 hi2).1;have hjL:j<L2:=by rw[<-HL2.out];exact hj2
   obtain⟨a,r,P1,d1,P2,d2,rfl,_,Hr,⟨_,q1,_⟩,hpr⟩:=(il.out.later hbl).nd hj2;obtain⟨rl,hrl⟩:=zX (r.ps.length);have hlr:=zlk hpr.lp;have yY:=zh hpr.row;rw[hrl]at q1 hlr;have HR3:=zh (show R=if tl=rl then(match r.ps[i]? with
     | none=>0
     | some q=>if vk=q.k/\vl=q.n then 0 else 7)else 0 by rw[HR2.out,hi2];simp only;rw[List.getElem?_eq_getElem hj2,Hr.out,<-hrl])
   have gZ:=zh hrl;obtain⟨a0,a1,a2,a3,a4,a5⟩:=box6 hP;obtain⟨b0,b1,b2,b3⟩:=box4 hN;have eG:=zh hV;have HB:=zh hbl;have hj0:decide ((j:Int)<0)=false:=by simp
   clear hi2 e1 hP hN hbl hrl hpr hV;go_wp2_with fail
   go_region_held3 (fun w'=>(w'.cell? ⟨w.heap.size+1,3,none⟩=some (.slice (some b) tl tc)/\w'.cell? ⟨w.heap.size,1,none⟩=some (.slice (some a) L2 c2)/\w'.cell? ⟨(a.add (j*6)).block,(a.add (j*6)).off+1,none⟩=some (.slice P1 rl d1))) (exact⟨b3,a1,q1⟩) (fail)
   by_cases hq:tl=rl
   ·have g1:(tl==rl)=true:=by simpa using hq
    have g2:(tl != rl)=false:=by simpa using hq
    have g3:((tl:Int)==(rl:Int))=true:=by simp;omega
    have g4:((tl:Int) != (rl:Int))=false:=by simp;omega
    have hir:i<r.ps.length:=by rw[gZ.out];omega
    have hir':i<rl:=by omega
    obtain⟨e,q,rfl,_,Hq,⟨y0,y1,y2⟩,wY⟩:=(yY.out.later zr.drew).nd hir;have HR4:=zh (show R=if vk=q.k/\vl=q.n then 0 else 7 by rw[HR3.out,if_pos hq,List.getElem?_eq_getElem hir,Hq.out]);obtain⟨qm,qk,ql⟩:=q;simp only at y0 y1 y2 HR4;have hV3:=box3 eG.out;obtain⟨x0,x1,x2⟩:=hV3;have aH:=zh (zkb HB.out.drew (.cells #[.string qm,.int .u8 qk,.int .i64 ql] 57));have hlt9:=zko eG.out;clear hq Hq wY yY eG;by_cases hk1:vk=qk
    ·have k1:(vk==qk)=true:=by simpa using hk1
     have k2:(vk != qk)=false:=by simpa using hk1
     by_cases hk2:vl=ql
     ·have k3:(vl==ql)=true:=by simpa using hk2
      have k4:(vl != ql)=false:=by simpa using hk2
      have bR:=zh (show R=0 by rw[HR4.out,if_pos ⟨hk1,hk2⟩]);clear hk1 hk2;go_wp2_with fail;go_ret;exact⟨by rw[bR.out];rfl,aH.out⟩
     ·have k3:(vl==ql)=false:=by simpa using hk2
      have k4:(vl != ql)=true:=by simpa using hk2
      have bR:=zh (show R=7 by rw[HR4.out,if_neg (fun h=>hk2 h.2)]);clear hk1 hk2;go_wp2_with fail;go_ret;exact⟨by rw[bR.out];rfl,aH.out⟩
    ·have k1:(vk==qk)=false:=by simpa using hk1
     have k2:(vk != qk)=true:=by simpa using hk1
     have bR:=zh (show R=7 by rw[HR4.out,if_neg (fun h=>hk1 h.1)]);clear hk1;go_wp2_with fail;go_ret;exact⟨by rw[bR.out];rfl,aH.out⟩
   ·have g1:(tl==rl)=false:=by simpa using hq
    have g2:(tl != rl)=true:=by simpa using hq
    have g3:((tl:Int)==(rl:Int))=false:=by simp;omega
    have g4:((tl:Int) != (rl:Int))=true:=by simp;omega
    have bR:=zh (show R=0 by rw[HR3.out,if_neg hq]);clear hq;go_wp2_with fail;go_ret;exact⟨by rw[bR.out];rfl,HB.out.drew⟩
theorem RowV.news{w:World}{S:Nat->Prop}{a:Addr}:∀ {vs:List VD},RowV w S (some a) vs->∃news:List Value,news.length=vs.length*3/\(∀j u,news[j]?=some u->w.cell? (a.add j)=some u)/\(∀u∈news,u.oneCell'=true) /\
  ∀i (hi:i<vs.length),news[i*3]?=some (.string vs[i].s)/\news[i*3+1]?=some (.int .u8 vs[i].k)/\news[i*3+2]?=some (.int .i64 vs[i].n):=by
 intro vs
 induction vs generalizing a with
 | nil=>exact fun _=>⟨[],rfl,fun j u h=>by simp at h,fun u h=>by simp at h,fun i hi=>absurd hi (by simp)⟩
 | cons t us ih =>
  intro h;obtain⟨a',e,hS,hc,_⟩:=h 0 (by simp);injection e with e;subst e;obtain⟨news,hl,hcell,h1,hns⟩:=ih (a:=a.add 3) (fun i hi=>by
   obtain⟨a'',e,hS',hc,hf⟩:=h (i+1) (by simpa using hi);injection e with e;subst e;refine⟨_,rfl,by rw[zkz];exact hS',?_,by simpa using hf⟩;rw[zp0,show 3+i*3=(i+1)*3 by omega];simpa using hc)
  obtain⟨c0,c1,c2⟩:=hc;simp only[Nat.zero_mul]at c0 c1 c2;refine⟨.string t.s :: .int .u8 t.k :: .int .i64 t.n::news,by simp[hl];omega,fun j u hj=>?_,fun u hu=>?_,fun i hi=>?_⟩
  ·rcases j with _|_|_|j
   ·simp at hj;subst hj;exact c0
   ·simp at hj;subst hj;exact c1
   ·simp at hj;subst hj;exact c2
   ·have:=hcell j u (by simpa using hj);rw[zp0]at this;rw[show j+1+1+1=3+j by omega];exact this
  ·simp only[List.mem_cons]at hu;rcases hu with rfl|rfl|rfl|hu
   ·rfl
   ·rfl
   ·rfl
   ·exact h1 u hu
  ·rcases i with _|i
   ·exact⟨rfl,rfl,rfl⟩
   ·obtain⟨e0,e1,e2⟩:=hns i (by simpa using hi);refine⟨?_,?_,?_⟩
    ·rw[show(i+1)*3=i*3+1+1+1 by omega];simpa using e0
    ·rw[show(i+1)*3+1=i*3+1+1+1+1 by omega];simpa using e1
    ·rw[show(i+1)*3+2=i*3+2+1+1+1 by omega];simpa using e2
theorem zvP(A:Option Addr)(l c:Nat)(hlc:l<=c)(hl:l<=LI)(w:World):Calls prog 150 #[.slice A l c] w fun e w'=>e=.returned (.slice A l l)/\w=w':=by
 have hl':=zpt hl;have h1:(l:Int)<=(c:Int):=by omega
 clear hl;go_enter func150,ntmps150;go_wp2_with fail;go_ret;exact⟨rfl,rfl⟩
theorem zqW(A:Option Addr)(l c:Nat)(hlc:l<=c)(hl:l<=LV)(w:World):Calls prog 120 #[.slice A l c] w fun e w'=>e=.returned (.slice A l l)/\w=w':=by
 have hl':=zlk hl;have h1:(l:Int)<=(c:Int):=by omega
 clear hl;go_enter func120,ntmps120;go_wp2_with fail;go_ret;exact⟨rfl,rfl⟩
theorem zl9{P:Program}{w:World}{ops:Array Oper}{o:Oper}{a:Act}{K:Act->World->Prop}{Q:Exit->Act->World->Prop}{F:Prop}(hgd:o.guard=none)(s x:Operand)(t:TypeId)
  (hop:o.op=Op.call { callee:=Callee.builtin Builtin.append,args := #[s,x],argTypes := #[t,t] })(e:TypeId)(i:TypeInfo)(z:Value)(size bytes:Nat)(h1:P.underlying t=some (.slice e))(h2:P.info? e=some i)(h3:i.zero=some z)(h4:i.size=size)(h5:i.bytes=bytes)(h6:z.cells.size=size)(h7:0<size)
  (ao:Option Addr)(n cap:Nat)(olds:List Value)(hs:a.eval s=.slice ao n cap)(hnone:ao=none->n=0/\cap=0)(hlo:olds.length=n*size)(holds:∀b,ao=some b->∀j u,olds[j]?=some u->w.cell? (b.add j)=some u)
  (ad:Addr)(m c:Nat)(news:List Value)(hx:a.eval x=.slice (some ad) m c)(hn:news.length=m*size)(hc:∀j u,news[j]?=some u->w.cell? (ad.add j)=some u)(h1c:∀u∈news,u.oneCell'=true)
  (hfull:cap<n+m)(b1:n+m<=maxLen)(b2:(n+m)*bytes<=140737488355328)
  (hK:∀v' w',w'.ownsRow w.heap.size e size v' (n+m) (olds++news)->w.grownBy w' none->K (a.put o.dst v') w') :
  if Region.wanted o (yielded ops a.tmps)=true then Oper.wp P o a w K Q else F:=by
 have hw:Region.wanted o (yielded ops a.tmps)=true:=by simp[Region.wanted,hgd]
 rw[if_pos hw]
 cases ao with
 | some b =>
  obtain⟨v',w',hrun,r1,r2⟩:=run_append_arg_grows (P:=P) w t o.type e i z size bytes h1 h2 h3 h4 h5 h6 h7 b n cap olds hlo (holds b rfl) ad m c news hn hc hfull b1 b2;unfold Oper.wp;simp[execOp,hop,resolve,invoke,builtin,hs,hx,hrun,Result.andThen];exact hK v' w' r1 r2
 | none =>
  obtain⟨rfl,rfl⟩:=hnone rfl;obtain rfl:olds=[]:=List.eq_nil_of_length_eq_zero (by simpa using hlo);obtain⟨v',w',hrun,r1,r2,_⟩:=run_append_own (P:=P) w w.heap.size t o.type e i z size bytes h1 h2 h3 h4 h5 h6 h7 (.slice none 0 0) 0 [] (World.ownsRow_nil w _ e size) ad m c news hn hc h1c b1 b2 zl;unfold Oper.wp;simp[execOp,hop,resolve,invoke,builtin,hs,hx,hrun,Result.andThen];exact hK v' w' r1 r2
theorem zoI(q:List Int)(A:Option Addr)(c:Nat)(i:Int)(hi:I64 i)(S:Nat->Prop)(w:World)(hrow:RowI w S A q)(hlc:q.length<=c)(hl:q.length<=100000) :
  Calls prog 114 #[.slice A q.length c,.int .i64 i] w (NewI w (q++[i])):=by
 obtain⟨i0,hi0,hz0,hz1,hz2⟩:=info_parts zlU;have af:=zh hrow;have HI:=zh hi;have hbI:=zpV;have hm1:q.length+1<=maxLen:=by unfold maxLen;omega
 have hm2:(q.length+1)*8<=140737488355328:=by omega
 have hnone:A=none->q.length=0/\q.length=0:=fun h=>by
  subst h
  cases q with
  | nil=>simp
  | cons x xs=>obtain⟨_,h,_⟩:=hrow 0 (by simp);cases h
 have hold:∀b,A=some b->∀(j:Nat) u,(q.map fun x=>Value.int .i64 x)[j]?=some u->(w.alloc (.cells #[.int .i64 i] 3)).cell? (b.add j)=some u:=fun b hb j u hj=>by
  subst hb;exact zku (hrow.news.1 j u hj) _
 have hnew:∀(j:Nat) (u:Value),[Value.int .i64 i][j]?=some u->(w.alloc (.cells #[.int .i64 i] 3)).cell? ((⟨w.heap.size,0,none⟩:Addr).add j)=some u:=fun j u h=>by
  have:=zlI w 3 [Value.int .i64 i] j u h;simpa using this
 clear hrow hi;go_enter func114,ntmps114;go_wp2_with fail;refine(zvP A q.length c hlc (by unfold LI;omega) _).mono ?_;rintro e w' ⟨rfl,rfl⟩;go_wp2_with (at_builtin;refine wpList_append_grows (P:=prog) _ rfl (.tmp 6) (.tmp 8) 30 rfl 3 i0 _ 1 8 underlying30 hi0 hz0 hz1 hz2 rfl (by decide) A q.length q.length _ rfl hnone (by simp) hold ⟨w.heap.size,0,none⟩ 1 1 [.int .i64 i] rfl rfl hnew (by intro u hu;simp at hu;subst hu;rfl) (by omega) hm1 hm2 ?_;intro v' w' h2 h3)
 have h2':w'.ownsRow (w.heap.size+1) 3 1 v' (q++[i]).length ((q++[i]).map (fun x=>Value.int .i64 x)):=by
  have:=h2;simp only[World.size_alloc]at this;simpa using this
 have hbl:Below w.heap.size w w':=((zs w).alloc zl _).grown h3 (by simp) (fun g e=>by cases e);obtain⟨A',c',rfl,hcc,aV⟩:=zlF h2' (by
  intro x hx;simp only[List.mem_append,List.mem_singleton]at hx;rcases hx with hx|rfl
  ·exact af.out.fits x hx
  ·exact HI.out)
 have dE:=zh (aV.mono (S':=From w.heap.size) fun b hb=>by have:=(h2'.lt b hb).1;show w.heap.size<=b;omega);have HB:=zh hbl;have HC:=zh hcc;clear h2 h2' h3 hbl hold hnew aV hcc hnone;go_wp2_with fail;go_ret;exact⟨A',c',rfl,dE.out,HC.out,HB.out⟩
theorem zzm(s:ByteArray)(k:Int)(w:World):(Instr.build 57 #[(0,.string s),(1,.int .u8 k)]).run prog w=.ok (.agg #[.string s,.int .u8 k,.int .i64 0]) w:=by kernel_rfl
theorem zxd(a0 a1 a2:Value)(w:World):(Instr.buildSlice 22 1 #[(0,.agg #[a0,a1,a2])]).run prog w=.ok (.slice (some ⟨w.heap.size,0,none⟩) 1 1) (w.alloc (.cells #[a0,a1,a2] 57)):=by kernel_rfl
def zma(k:Int)(s:ByteArray)(i:Nat)(vs:List VD):List VD:=if k=54/\i=1 then vs++[⟨s,1,0⟩]else if k=55/\i=0 then vs++[⟨s,3,0⟩]else vs
def zxs(w:World)(S:Nat->Prop)(vs:List VD)(e:Ending)(w':World):Prop:=∃A' c',e=.returned (.slice A' vs.length c')/\RowV w' (fun b=>S b\/w.heap.size<=b) A' vs/\vs.length<=c'/\Below w.heap.size w w'
theorem zqs{w w':World}{base:Nat}{E:TypeId}{v:Value}{vs:List VD}{u:VD}{news:List Value}(hn:∀i (hi:i<vs.length),news[i*3]?=some (.string vs[i].s)/\news[i*3+1]?=some (.int .u8 vs[i].k)/\news[i*3+2]?=some (.int .i64 vs[i].n))
  (hl:news.length=vs.length*3)(hf:∀i (hi:i<vs.length),FldV vs[i])(hu:FldV u)(h:w'.ownsRow base E 3 v (vs.length+1) (news++[.string u.s,.int .u8 u.k,.int .i64 u.n])) :
  ∃A c,v=.slice A (vs++[u]).length c/\(vs++[u]).length<=c/\RowV w' (fun b=>base<=b) A (vs++[u]):=by
 rcases h.2 with⟨_,h0⟩|⟨g,cap,cur,rfl,hb,hg,hc,hm,hz,hx⟩
 ·omega
 ·refine⟨some ⟨g,0,none⟩,cap,by simp,by simpa using hc,fun i hi=>?_⟩;have ha:(⟨g,0,none⟩:Addr).add (i*3)=⟨g,i*3,none⟩:=by unfold Addr.add;split<;>simp_all
  have hcell:∀j x,(news++[Value.string u.s,.int .u8 u.k,.int .i64 u.n])[j]?=some x->w'.cell? ⟨g,j,none⟩=some x:=fun j x hj=>by
   have hlt:=(List.getElem?_eq_some_iff.1 hj).1;rw[h.cellAt j (by simp at hlt;omega)];exact hj
  refine⟨⟨g,0,none⟩,rfl,hb,?_,?_⟩
  ·rw[ha];by_cases e:i<vs.length
   ·obtain⟨e0,e1,e2⟩:=hn i e;rw[List.getElem_append_left e];exact⟨hcell (i*3) _ (by rw[List.getElem?_append_left (by omega)];exact e0),hcell (i*3+1) _ (by rw[List.getElem?_append_left (by omega)];exact e1),hcell (i*3+2) _ (by rw[List.getElem?_append_left (by omega)];exact e2)⟩
   ·have e':i=vs.length:=by simp at hi;omega
    subst e';simp only[List.getElem_append_right zl,Nat.sub_self,List.getElem_cons_zero];exact⟨hcell (vs.length*3) _ (by rw[List.getElem?_append_right (by omega)];simp[hl]),hcell (vs.length*3+1) _ (by rw[List.getElem?_append_right (by omega)];simp[hl]),hcell (vs.length*3+2) _ (by rw[List.getElem?_append_right (by omega)];simp[hl])⟩
  ·by_cases e:i<vs.length
   ·rw[List.getElem_append_left e];exact hf i e
   ·have e':i=vs.length:=by simp at hi;omega
    subst e';simpa using hu
theorem zux(t:T)(i:Nat)(hi64:i<=4000000000)(vs:List VD)(A:Option Addr)(c:Nat)(S S':Nat->Prop)(v:Value)(w:World)(hv:NV w S' t v)(hrow:RowV w S A vs)(hlc:vs.length<=c)(hl:vs.length<=100000) :
  Calls prog 84 #[v,.int .i64 i,.slice A vs.length c] w (zxs w S (zma t.k t.s i vs)):=by
 obtain⟨i0,hi0,hz0,hz1,hz2⟩:=info_parts zxK;obtain⟨B,tc,rfl,hft,-⟩:=hv.open_;have af:=zh hrow;have nE:=zh hlc;have lS:=zh hft;have hb2:=zzm;have hbs:=zxd;have hm1:vs.length+1<=maxLen:=by unfold maxLen;omega
 have hm2:(vs.length+1)*32<=140737488355328:=by omega
 have hlv:vs.length<=LV:=by unfold LV;omega
 obtain⟨news,hnl,hnc,hn1,nX⟩:∃news:List Value,news.length=vs.length*3/\(∀b,A=some b->∀(j:Nat) u,news[j]?=some u->w.cell? (b.add j)=some u)/\(A=none->vs.length=0/\vs.length=0)/\(∀i (hi:i<vs.length),news[i*3]?=some (.string vs[i].s)/\news[i*3+1]?=some (.int .u8 vs[i].k)/\news[i*3+2]?=some (.int .i64 vs[i].n)):=by
  cases A with
  | none =>
   have h0:vs=[]:=by
    cases vs with
    | nil=>rfl
    | cons x xs=>obtain⟨_,h,_⟩:=hrow 0 (by simp);cases h
   subst h0;exact⟨[],rfl,(fun b h=>by cases h),(fun _=>⟨rfl,rfl⟩),fun i hi=>absurd hi (by simp)⟩
  | some a =>
   obtain⟨news,h1,h2,_,h4⟩:=hrow.news;exact⟨news,h1,(fun b h=>by injection h with h;subst h;exact h2),(fun h=>by cases h),h4⟩
 have lQ:=zh nX;have Cs:=zh (show ∀i (hi:i<vs.length),FldV vs[i]from fun i hi=>(hrow i hi).choose_spec.2.2.2);clear hrow hlc hft hv nX;generalize t.k=tk,t.n=tn,t.s=ts,t.ks.length=tl at *
 obtain⟨V,hV⟩:=zX (zma tk ts i vs);rw[hV];have HV:=zh hV;clear hV;have key:∀(kd:Int) (hkd:kd=1\/kd=3) (W':World) (v':Value),(((w.alloc (.cells #[.int .u8 tk,.int .i64 tn,.string ts,.slice B tl tc] 41)).alloc (.cells #[.string ts,.int .u8 kd,.int .i64 0] 57)).drew).grownBy W' none ->
   W'.ownsRow ((w.alloc (.cells #[.int .u8 tk,.int .i64 tn,.string ts,.slice B tl tc] 41)).alloc (.cells #[.string ts,.int .u8 kd,.int .i64 0] 57)).drew.heap.size 57 3 v' (vs.length+1) (news++[.string ts,.int .u8 kd,.int .i64 0])->V=vs++[⟨ts,kd,0⟩]->zxs w S V (.returned v') W':=by
  intro kd hkd W' v' hg ho hVV;subst hVV;obtain⟨A',c',rfl,hcc,hrr⟩:=zqs (w:=w) (u:=⟨ts,kd,0⟩) lQ.out hnl Cs.out ⟨lS.out.2.2,(show(0:Int)<=kd/\kd<256 by rcases hkd with rfl|rfl<;>decide),(by decide:(-9223372036854775808:Int)<=0/\(0:Int)<=9223372036854775807)⟩ ho;refine⟨A',c',rfl,hrr.mono fun b hb=>.inr ?_,hcc,?_⟩
  ·simp at hb;omega
  ·exact((((zs w).alloc zl _).alloc (by simp) _).drew).grown hg (by simp;omega) (fun g e=>by cases e)
 have HKEY:=zh key;have hnc':∀o o' b,A=some b->∀(j:Nat) u,news[j]?=some u->((w.alloc o).alloc o').drew.cell? (b.add j)=some u:=fun o o' b hb j u hj=>zku (zku (hnc b hb j u hj) o) o';have hnw:∀(kd:Int) (j:Nat) (u:Value),[Value.string ts,.int .u8 kd,.int .i64 0][j]?=some u->((w.alloc (.cells #[.int .u8 tk,.int .i64 tn,.string ts,.slice B tl tc] 41)).alloc (.cells #[.string ts,.int .u8 kd,.int .i64 0] 57)).drew.cell? ((⟨w.heap.size+1,0,none⟩:Addr).add j)=some u:=fun kd j u h=>by
  have:=zlI (w.alloc (.cells #[.int .u8 tk,.int .i64 tn,.string ts,.slice B tl tc] 41)) 57 [Value.string ts,.int .u8 kd,.int .i64 0] j u h;simpa using this
 have HNC:=zh hnc';have vW:=zh hnw;clear key hnc hnc' hnw;by_cases eQ:tk=54/\i=1
 ·obtain⟨rfl,rfl⟩:=eQ;have xA:=zh (show V=vs++[⟨ts,1,0⟩] by rw[<-HV.out];simp[zma]);go_enter func84,ntmps84;go_wp2_with fail
  go_region_held3 (fun w'=>w'.cell? ⟨w.heap.size,2,none⟩=some (.string ts))
   (first|exact hk5|(simp;done))
   (first
    | (refine zl9 (by rfl) (.tmp 16) (.tmp 20) 22 (by rfl) 57 i0 _ 3 32 underlying22 hi0 hz0 hz1 hz2 rfl (by decide) A vs.length vs.length news (by rfl) hn1 hnl (HNC.out _ _) ⟨w.heap.size+1,0,none⟩ 1 1 [.string ts,.int .u8 1,.int .i64 0] (by rfl) rfl (vW.out 1) (by intro u hu;simp at hu;rcases hu with rfl|rfl|rfl<;>rfl) (by omega) hm1 hm2 ?_;intro v' w' h2 h3;have HF:=zh (HKEY.out 1 (.inl rfl) w' v' h3 h2 xA.out);have hk5:w'.cell? ⟨w.heap.size,2,none⟩=some (.string ts):=(World.cell?_of_block (a:=⟨w.heap.size,2,none⟩) (h3.block _ (by simp;omega) (by simp))).trans (by simp);clear h2 h3)
    | (go_at_call 120;refine(zqW A vs.length c nE.out hlv _).mono ?_;rintro e wq ⟨rfl,rfl⟩)
    | fail)
  all_goals
   clear hk5;go_wp2_with fail;go_ret;exact HF.out
 by_cases fw:tk=55/\i=0
 ·obtain⟨rfl,rfl⟩:=fw;have xA:=zh (show V=vs++[⟨ts,3,0⟩] by rw[<-HV.out];simp[zma]);go_enter func84,ntmps84;go_wp2_with fail
  go_region_held3 (fun w'=>w'.cell? ⟨w.heap.size,2,none⟩=some (.string ts))
   (first|exact hk5|(simp;done))
   (first
    | (refine zl9 (by rfl) (.tmp 31) (.tmp 35) 22 (by rfl) 57 i0 _ 3 32 underlying22 hi0 hz0 hz1 hz2 rfl (by decide) A vs.length vs.length news (by rfl) hn1 hnl (HNC.out _ _) ⟨w.heap.size+1,0,none⟩ 1 1 [.string ts,.int .u8 3,.int .i64 0] (by rfl) rfl (vW.out 3) (by intro u hu;simp at hu;rcases hu with rfl|rfl|rfl<;>rfl) (by omega) hm1 hm2 ?_;intro v' w' h2 h3;have HF:=zh (HKEY.out 3 (.inr rfl) w' v' h3 h2 xA.out);have hk5:w'.cell? ⟨w.heap.size,2,none⟩=some (.string ts):=(World.cell?_of_block (a:=⟨w.heap.size,2,none⟩) (h3.block _ (by simp;omega) (by simp))).trans (by simp);clear h2 h3)
    | (go_at_call 120;refine(zqW A vs.length c nE.out hlv _).mono ?_;rintro e wq ⟨rfl,rfl⟩)
    | fail)
  all_goals
   clear hk5;go_wp2_with fail;go_ret;exact HF.out
 have xA:=zh (show V=vs by rw[<-HV.out];unfold zma;rw[if_neg eQ,if_neg fw]);have HF:=zh (show ∀o,zxs w S V (.returned (.slice A vs.length c)) (w.alloc o)from fun o=>by
  rw[xA.out];exact⟨A,c,rfl,(af.out.later (zr.alloc zl _)).mono fun b hb=>.inl hb,nE.out,zr.alloc zl _⟩)
 by_cases zO:tk=54
 ·subst zO;have hne:¬ i=1:=fun e=>eQ ⟨rfl,e⟩;have e1:(i==1)=false:=by simpa using hne
  have e2:((i:Int)==1)=false:=by simp;omega
  clear eQ fw hne;go_enter func84,ntmps84;go_wp2_with fail;go_ret;exact HF.out _
 have f54:(tk==54)=false:=by simpa using zO
 by_cases zN:tk=55
 ·subst zN;have hne:¬ i=0:=fun e=>fw ⟨rfl,e⟩;have e1:(i==0)=false:=by simpa using hne
  have e2:((i:Int)==0)=false:=by simp;omega
  clear eQ fw hne;go_enter func84,ntmps84;go_wp2_with fail;go_ret;exact HF.out _
 have f55:(tk==55)=false:=by simpa using zN
 clear eQ fw zO zN;go_enter func84,ntmps84;go_wp2_with fail;go_ret;exact HF.out _
end
section
open Go Go.RowKit
mutual
/-- The nodes of a tree,in pre-order. -/
def po:T->List T
 | .nd k n s ks=>.nd k n s ks::pos ks
def pos:List T->List T
 | []=>[]
 | t::ts=>po t++pos ts
end
mutual
/-- The depth of a tree. -/
def dep:T->Nat
 | .nd _ _ _ ks=>1+deps ks
def deps:List T->Nat
 | []=>0
 | t::ts=>max (dep t) (deps ts)
end
theorem zx6{t:T}:∀ {ks:List T},t∈ks->dep t<=deps ks
 | u::us,h=>by
  simp only[List.mem_cons]at h;rcases h with rfl|h
  ·simp only[deps];omega
  ·have:=zx6 h;simp only[deps];omega
def zLf(w:World)(xs:List Int)(v:Value)(w':World):Prop:=∃A' c',v=.slice A' xs.length c'/\RowI w' (From w.heap.size) A' xs/\xs.length<=c'/\Below w.heap.size w w'
theorem znZ{P:Program}{f:FuncId}{args:Array Value}{w:World}{xs:List Int}(h:Calls P f args w (NewI w xs)):Calls P f args w fun e w'=>∃v,e=.returned v/\zLf w xs v w' :=
 h.mono fun _ _ ⟨A,c,he,hn⟩=>⟨_,he,A,c,rfl,hn⟩
structure FS(W:World)(n0 fb N:Nat)(pv:Value):Prop where
 box:W.heap[fb]?=some (.cells #[pv] 65 (0,0))
 row:∃xs,W.ownsRow n0 116 4 pv N xs
 ge:n0<=fb
 ne:pv.ownBlock≠some fb
section
variable {W W':World} {n0 fb N N':Nat} {pv pv':Value}
theorem FS.lt(h:FS W n0 fb N pv):fb<W.heap.size/\∀b,pv.ownBlock=some b->n0<=b/\b<W.heap.size:=⟨zko h.box,let ⟨_,hr⟩:=h.row;hr.lt⟩
theorem FS.chg{C:Nat->Prop}(h:FS W n0 fb N pv)(hc:Chg C W W')(hC:∀b,b=fb\/pv.ownBlock=some b->¬ C b):FS W' n0 fb N pv:=by
 refine⟨hc.keep h.box (hC _ (.inl rfl)),?_,h.ge,h.ne⟩;obtain⟨xs,e1,h2⟩:=h.row;refine⟨xs,e1,?_⟩;rcases h2 with h2|⟨g,cap,cur,rfl,hb,hg,h3⟩
 ·exact .inl h2
 ·exact .inr ⟨g,cap,cur,rfl,hb,hc.keep hg (hC _ (.inr rfl)),h3⟩
theorem FS.later(h:FS W n0 fb N pv)(hb:Below W.heap.size W W'):FS W' n0 fb N pv:=h.chg (C:=fun _=>False) (Chg.of_below hb) (fun _ _ h=>h)
theorem FS.put(h:FS W n0 fb N pv)(ho:∃xs,W'.ownsRow n0 116 4 pv' N' xs)(hg:W.grownBy W' pv.ownBlock)(ak:∀b,pv'.ownBlock=some b->pv.ownBlock=some b\/W.heap.size<=b) :
  FS (W'.setCell ⟨fb,0,none⟩ pv') n0 fb N' pv':=by
 have hp':W'.heap[fb]?=some (.cells #[pv] 65 (0,0)):=(hg.block _ (zko h.box) (fun e=>h.ne e.symm)).trans h.box;have sG:pv'.ownBlock≠some fb:=fun e=>by
  rcases ak _ e with e|e
  ·exact h.ne e
  ·have:=zko h.box;omega
 refine⟨by have:=heap_setCell_same W' fb 0 _ _ pv' hp';simpa using this,?_,h.ge,sG⟩;obtain⟨xs,e1,h2⟩:=ho;refine⟨xs,e1,?_⟩;rcases h2 with h2|⟨g,cap,cur,rfl,hb,hg',h3⟩
 ·exact .inl h2
 ·refine .inr ⟨g,cap,cur,rfl,hb,?_,h3⟩;rw[Below.heap_setCell _ _ _ _ (fun e=>sG (by subst e;rfl))];exact hg'
theorem FS.slice(h:FS W n0 fb N pv):∃A c,pv=.slice A N c:=by
 obtain⟨xs,e1,h2⟩:=h.row;rcases h2 with⟨rfl,rfl⟩|⟨g,cap,cur,rfl,_⟩
 ·exact⟨_,_,rfl⟩
 ·exact⟨_,_,rfl⟩
end
def RepP(W:World)(n0 fb:Nat)(pv:Value)(N':Nat)(e:Ending)(W':World):Prop :=
 (∃v,e=.returned v)/\∃pv',FS W' n0 fb N' pv'/\(∀b,pv'.ownBlock=some b->pv.ownBlock=some b\/W.heap.size<=b)/\Chg (fun b=>b=fb\/pv.ownBlock=some b) W W'
def one1(e:Int):Nat:=if e=0 then 0 else 1
theorem zy7:(prog.info? 116).map (fun i=>(i.zero,i.size,i.bytes))=some (some (.agg #[.int .i64 0,.slice none 0 0,.int .i64 0,.string ⟨#[]⟩]),4,56):=by kernel_rfl
theorem zKn(p:Int)(A:Option Addr)(l c:Nat)(e:Int)(s:ByteArray)(w:World):(Instr.build 116 #[(0,.int .i64 p),(1,.slice A l c),(2,.int .i64 e),(3,.string s)]).run prog w=.ok (.agg #[.int .i64 p,.slice A l c,.int .i64 e,.string s]) w:=by kernel_rfl
theorem zzq(a0 a1 a2 a3:Value)(w:World):(Instr.buildSlice 65 1 #[(0,.agg #[a0,a1,a2,a3])]).run prog w=.ok (.slice (some ⟨w.heap.size,0,none⟩) 1 1) (w.alloc (.cells #[a0,a1,a2,a3] 116)):=by kernel_rfl
theorem zmJ(n0 fb N:Nat)(pv:Value)(pr er:Int)(q:List Int)(A:Option Addr)(c:Nat)(s:ByteArray)(S:Nat->Prop)(W:World)(hfs:FS W n0 fb N pv)(hq:RowI W S A q)(ku:q.length<=100000)(hN:N<=1000000) :
  Calls prog 69 #[.int .i64 pr,.slice A q.length c,.string s,.int .i64 er,.pointer (some ⟨fb,0,none⟩)] W (RepP W n0 fb pv (N+one1 er)):=by
 obtain⟨i0,hi0,hz0,hz1,hz2⟩:=info_parts zy7;obtain⟨Ap,cp,rfl⟩:=hfs.slice;have x8:=zh hfs;have HQ:=zh hq;have hc0:W.cell? ⟨fb,0,none⟩=some (.slice Ap N cp):=zc hfs.box rfl;have hbf:=zKn;have hbs:=zzq;have hge:=hfs.ge;have hlf:=hfs.lt.1;clear hfs hq;by_cases he:er=0
 ·subst he;clear hc0;go_enter func69,ntmps69;go_wp2_with fail;go_end0;exact⟨⟨_,rfl⟩,_,x8.out,fun b hb=>.inl hb,Chg.refl _ _⟩
 ·have e1:(er==0)=false:=by simpa using he
  have e2:(er != 0)=true:=by simpa using he
  have HONE:=zh (show one1 er=1 by simp[one1,he]);rw[HONE.out];clear he;go_enter func69,ntmps69;go_upto_region 1 with fail;have hSS:zU W.drew/\(fun w':World=>zv w' fb 0 (.slice Ap N cp)) W.drew:=⟨trivial,hc0⟩
  refine wp_region_noPanic ?_;refine zkl zU (fun w':World=>zv w' fb 0 (.slice Ap N cp)) 8 (by kernel_rfl) ?_;refine zJ 0 hSS ?_;refine zT 1 hSS ?_;refine zT 2 hSS ?_;refine zT 4 hSS ?_;refine zT 5 hSS ?_;refine zo 3 fun K hK=>?_;refine zsK (by rfl) (.func 70) (.tmp 13) _ (by rfl) 70 _ znj (by rfl) _ (by rfl) _ (znZ (ztr q A c S _ (HQ.out.later zr.drew) (by unfold LI;omega))) ?_;rintro v2 w2 ⟨A2,c2,rfl,_,_,au⟩;have b2:=zka (zs W).drew au;have iD:=x8.out.later b2;have g2:w2.cell? ⟨fb,0,none⟩=some (.slice Ap N cp):=zc iD.box rfl;have aM:zU w2/\(fun w':World=>zv w' fb 0 (.slice Ap N cp)) w2:=⟨trivial,g2⟩
  refine hK.out _ _ aM ?_;clear hK K hSS;(try simp only[zQ]);refine zT 6 aM ?_;refine zo 7 fun K hK=>?_;(try simp only[zA,zB,zC]);go_simp;refine hK.out _ _ ⟨trivial,zku g2 _⟩ ?_;clear hK K aM;(try simp only[zQ]);obtain⟨xs,hrow⟩:=iD.row;have hl2:=iD.lt;refine zp 8 fun K hK=>?_;refine zkT (by rfl) (.tmp 11) (.tmp 18) 65 (by rfl) n0 116 i0 _ 4 56 underlying65 hi0 hz0 hz1 hz2 rfl (by decide) (.slice Ap N cp) N xs (by rfl) (hrow.alloc _) ⟨w2.heap.size,0,none⟩ 1 1 [.int .i64 pr,.slice A2 q.length c2,.int .i64 er,.string s] (by rfl) rfl (zlI w2 _ _) (by intro u hu;simp at hu;rcases hu with rfl|rfl|rfl|rfl<;>rfl) (by unfold maxLen;omega) (by omega) (by simp;omega) ?_;intro v' w' h2 h3 h5
  have hput:=iD.put (W':=w') (pv':=v') (N':=N+1) ⟨_,h2⟩ ⟨h3.os,h3.tape,h3.output,Nat.le_trans (by simp) h3.size,fun b hb hne=>(h3.block b (by simp;omega) hne).trans (Below.heap_alloc w2 _ b hb)⟩ (fun b hb=>by rcases h5 with h5|h5;exact .inl (h5▸hb);exact .inr (by rw[h5]at hb;injection hb with hb;simp at hb;omega));have hob':∀b,v'.ownBlock=some b->(Value.slice Ap N cp).ownBlock=some b\/W.heap.size<=b:=fun b hb=>by
   have:=b2.size;rcases h5 with h5|h5
   ·exact .inl (h5▸hb)
   ·exact .inr (by rw[h5]at hb;injection hb with hb;simp at hb;omega)
  have hch:Chg (fun b=>b=fb\/(Value.slice Ap N cp).ownBlock=some b) W (w'.setCell ⟨fb,0,none⟩ v'):=(((Chg.of_below b2).alloc _).trans2 (Chg.row h3) (fun b _ h=>.inr h)).setCell (.inl (.inl rfl)) _;have hbx:=(h3.block _ (by have:=zko iD.box;simp;omega) (fun e=>iD.ne e.symm)).trans (zke iD.box _);have hy0:w'.cell? ⟨fb,0,none⟩=some (.slice Ap N cp):=zc hbx rfl;have hy1:w'.frozen? ⟨fb,0,none⟩=false:=zf hbx;obtain⟨g8,aJ,rfl⟩:=ownsRow_succ h2;have HP:=zh hput;have HO:=zh hob';have dG:=zh hch;clear hput hob' hch hbx h2 h3 h5 hrow iD;refine hK.out _ _ trivial ?_;clear hK K;(try simp only[zQ]);refine zp 9 fun K hK=>?_;(try simp only[zA,zB,zC]);go_simp;refine hK.out _ _ trivial ?_;clear hK K;(try simp only[zQ]);refine zd ?_;refine NoPanic.normal ?_;go_wp2_with fail;go_end0;exact⟨⟨_,rfl⟩,_,HP.out,HO.out,dG.out⟩
structure RepC(f:FuncId)(cap:Array Value)(Rd:World->Prop)(n0 fb:Nat):Prop where
 fn:∃fn,IsFn prog f fn
 keep:∀W W' pv N,Rd W->FS W n0 fb N pv->Chg (fun b=>b=fb\/pv.ownBlock=some b) W W'->Rd W'
 call:∀(N:Nat) (pv:Value) (er:Int) (q:List Int) (A:Option Addr) (c:Nat) (s:ByteArray) (S:Nat->Prop) (W:World),Rd W->FS W n0 fb N pv->RowI W S A q->q.length<=100000->N<=1000000 ->
  Calls prog f (#[.slice A q.length c,.string s,.int .i64 er]++cap) W (RepP W n0 fb pv (N+one1 er))
theorem FS.other{W:World}{n0 fb N:Nat}{pv:Value}{b:Nat}{cs:Array Value}{E:TypeId}(h:FS W n0 fb N pv)(hb:W.heap[b]?=some (.cells cs E (0,0)))(h1:E≠65)(h2:E≠116):¬ (b=fb\/pv.ownBlock=some b):=by
 rintro(rfl|ho)
 ·have:=h.box;rw[hb]at this;injection this with this;injection this with _ e;exact h1 e
 ·obtain⟨xs,e1,h2'⟩:=h.row;rcases h2' with⟨rfl,_⟩|⟨g,cap,cur,rfl,_,hg,_⟩
  ·simp[Value.ownBlock]at ho
  ·simp[Value.ownBlock]at ho;subst ho;rw[hb]at hg;injection hg with hg;injection hg with _ e;exact h2 e
theorem zKh:IsFn prog 74 f74:=⟨func74,by kernel_rfl,by kernel_rfl⟩
theorem zKg:IsFn prog 75 f75:=⟨func75,by kernel_rfl,by kernel_rfl⟩
theorem zsC(n0 fb rb ib:Nat)(k:Int):RepC 74 #[.pointer (some ⟨rb,0,none⟩),.pointer (some ⟨ib,0,none⟩)]
  (fun W=>W.heap[rb]?=some (.cells #[.func (.func 69) #[] #[.pointer (some ⟨fb,0,none⟩)]] 117 (0,0))/\W.heap[ib]?=some (.cells #[.int .i64 k] 3 (0,0))) n0 fb where
 fn:=⟨_,zKh⟩
 keep W W' pv N h hfs hc:=⟨hc.keep h.1 (hfs.other h.1 (by decide) (by decide)),hc.keep h.2 (hfs.other h.2 (by decide) (by decide))⟩
 call N pv er q A c s S W h hfs hq ku hN:=by
  have x0:W.cell? ⟨rb,0,none⟩=some (.func (.func 69) #[] #[.pointer (some ⟨fb,0,none⟩)]):=zc h.1 rfl;have x1:W.cell? ⟨ib,0,none⟩=some (.int .i64 k):=zc h.2 rfl;have HC:=zh (zmJ n0 fb N pv k er q A c s S W hfs hq ku hN);clear h hfs hq
  show Calls prog 74 #[.slice A q.length c,.string s,.int .i64 er,.pointer (some ⟨rb,0,none⟩),.pointer (some ⟨ib,0,none⟩)] W _
  go_enter func74,ntmps74;go_wp2_with fail;refine HC.out.mono ?_;rintro e W' ⟨⟨v,rfl⟩,hp⟩;have HP:=zh hp;clear hp;go_wp2_with fail;go_end0;exact⟨⟨_,rfl⟩,HP.out⟩
theorem zxI(n0 fb rb pb:Nat)(A1:Option Addr)(l1 c1:Nat)(A2:Option Addr)(l2 c2:Nat)(k n:Int)(sn:ByteArray)(A3:Option Addr)(l3 c3:Nat):RepC 75 #[.pointer (some ⟨rb,0,none⟩),.pointer (some ⟨pb,0,none⟩)]
  (fun W=>W.heap[rb]?=some (.cells #[.func (.func 69) #[] #[.pointer (some ⟨fb,0,none⟩)]] 117 (0,0))/\W.heap[pb]?=some (.cells #[.slice A1 l1 c1,.slice A2 l2 c2,.int .u8 k,.int .i64 n,.string sn,.slice A3 l3 c3] 43 (0,0))) n0 fb where
 fn:=⟨_,zKg⟩
 keep W W' pv N h hfs hc:=⟨hc.keep h.1 (hfs.other h.1 (by decide) (by decide)),hc.keep h.2 (hfs.other h.2 (by decide) (by decide))⟩
 call N pv er q A c s S W h hfs hq ku hN:=by
  have x0:W.cell? ⟨rb,0,none⟩=some (.func (.func 69) #[] #[.pointer (some ⟨fb,0,none⟩)]):=zc h.1 rfl;have x1:W.cell? ⟨pb,1,none⟩=some (.slice A2 l2 c2):=zc h.2 rfl;have HC:=zh (zmJ n0 fb N pv l2 er q A c s S W hfs hq ku hN);clear h hfs hq
  show Calls prog 75 #[.slice A q.length c,.string s,.int .i64 er,.pointer (some ⟨rb,0,none⟩),.pointer (some ⟨pb,0,none⟩)] W _
  go_enter func75,ntmps75;go_wp2_with fail;refine HC.out.mono ?_;rintro e W' ⟨⟨v,rfl⟩,hp⟩;have HP:=zh hp;clear hp;go_wp2_with fail;go_end0;exact⟨⟨_,rfl⟩,HP.out⟩
end
end Go.Proofs.YtembgnhbpmfhpaaGreat
