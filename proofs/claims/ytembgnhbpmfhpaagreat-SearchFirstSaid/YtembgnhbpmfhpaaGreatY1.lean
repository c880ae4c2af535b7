/-
  Texts of the proof, put together without their remarks: Rg, Laws, Tree, Cal, Alt, RgI, Rf, Alf, Own, Lex, Name, Spec, InvW, Pi, Bld, App, RowI, Stp, Rws, Sr, Scf, Ar, Ast.
-/
import Derived.WalkKit
import Derived.Deep.RegionHeld3
import Derived.WalkSpells
import Derived.WalkLawsBesides
import Derived.Lib.Hide
import Derived.BigQuiet
import Derived.RangeFuncNested
import Derived.RangeFuncBound
import Derived.RangeFuncCalls
import Derived.RangeFuncLeaves
import Derived.OwnWalkIn
import Derived.TacticsInMore
import Derived.LoopNIn
import Derived.LoopIn
import Derived.OrdersIn
import Derived.Maps.AppendAt
import Derived.Test.YtembgnhbpmfhpaaGreatProg
import Derived.MapKept
import Derived.KernelRfl
import Derived.Laws.EntriesVeiled
set_option linter.unusedSimpArgs false
set_option linter.unusedVariables false
set_option maxHeartbeats 8000000
set_option maxRecDepth 100000
namespace Go.Proofs.YtembgnhbpmfhpaaGreat
open Tryz
open Go Go.RowKit
theorem zA.{u} {α : Type u} {xs : List α} {i : Nat} (h : i < xs.toArray.size) : xs.toArray[i] = xs[i]'h := rfl
theorem zB.{u} {α : Type u} (a : α) (ys : List α) (i : Nat) (h : i + 1 < (a :: ys).length) : (a :: ys)[i + 1] = ys[i]'(Nat.lt_of_succ_lt_succ h) := rfl
theorem zC.{u} {α : Type u} (a : α) (ys : List α) (h : 0 < (a :: ys).length) : (a :: ys)[0] = a := rfl
theorem zD.{u} {α : Type u} (l : List α) (i : Nat) (a : α) : l.toArray.setIfInBounds i a = (l.set i a).toArray := List.setIfInBounds_toArray l i a
theorem zE.{u} {α : Type u} (x : α) (xs : List α) (a : α) : (x :: xs).set 0 a = a :: xs := rfl
theorem zF.{u} {α : Type u} (x : α) (xs : List α) (n : Nat) (a : α) : (x :: xs).set (n + 1) a = x :: xs.set n a := rfl
theorem zh {p : Prop} (h : p) : Go.RowKit.Hid p := h
theorem zX.{u} {α : Sort u} (a : α) : ∃ q, a = q := ⟨a, rfl⟩
theorem zr {b : Nat} {w : World} : Below b w w := Below.refl b w
abbrev zv (w : World) (b o : Nat) (v : Value) : Prop := w.cell? ⟨b, o, none⟩ = some v
abbrev zU : World → Prop := fun _ => True
abbrev zN2 (w : World) (b : Nat) (u0 u1 : Value) : Prop := zv w b 0 u0 ∧ zv w b 1 u1
abbrev zN3 (w : World) (b : Nat) (u0 u1 u2 : Value) : Prop := zv w b 0 u0 ∧ zv w b 1 u1 ∧ zv w b 2 u2
abbrev zN4 (w : World) (b : Nat) (u0 u1 u2 u3 : Value) : Prop := zv w b 0 u0 ∧ zv w b 1 u1 ∧ zv w b 2 u2 ∧ zv w b 3 u3
abbrev zN6 (w : World) (b : Nat) (u0 u1 u2 u3 u4 u5 : Value) : Prop := zv w b 0 u0 ∧ zv w b 1 u1 ∧ zv w b 2 u2 ∧ zv w b 3 u3 ∧ zv w b 4 u4 ∧ zv w b 5 u5
abbrev zN8 (w : World) (b : Nat) (u0 u1 u2 u3 u4 u5 u6 u7 : Value) : Prop := zv w b 0 u0 ∧ zv w b 1 u1 ∧ zv w b 2 u2 ∧ zv w b 3 u3 ∧ zv w b 4 u4 ∧ zv w b 5 u5 ∧ zv w b 6 u6 ∧ zv w b 7 u7
abbrev zW (S1 S2 : World → Prop) (w : World) : Prop := S1 w ∧ S2 w
theorem zV {S1 S2 : World → Prop} {w w' : World} (_ : zW S1 S2 w) (h1 : S1 w') (h2 : S2 w') : zW S1 S2 w' := ⟨h1, h2⟩
theorem zl {n : Nat} : n ≤ n := Nat.le_refl n
theorem zs (w : World) : Below w.heap.size w w := Below.refl _ w
theorem zAB {w w1 : World} {o : Obj} (h : Below (w.alloc o).heap.size (w.alloc o) w1) : Below w.heap.size w w1 := ((Below.refl _ _).alloc (Nat.le_refl _) o).trans (h.mono (by simp))
theorem zAC {w w1 w2 : World} {o : Obj} (h : Below w.heap.size w w1) (k : Below (w1.alloc o).heap.size (w1.alloc o) w2) : Below w.heap.size w w2 := (h.alloc h.size o).trans (k.mono (by have := h.size; simp; omega))
theorem zP : (∀ {α : Type} {xs : List α} {i : Nat} (h : i < xs.toArray.size), xs.toArray[i] = xs[i]'h) ∧ (∀ {α : Type} (a : α) (ys : List α) (i : Nat) (h : i + 1 < (a :: ys).length), (a :: ys)[i + 1] = ys[i]'(Nat.lt_of_succ_lt_succ h)) ∧ (∀ {α : Type} (a : α) (ys : List α) (h : 0 < (a :: ys).length), (a :: ys)[0] = a) ∧ (∀ {α : Type} (l : List α) (i : Nat) (a : α), l.toArray.setIfInBounds i a = (l.set i a).toArray) ∧ (∀ {α : Type} (x : α) (xs : List α) (a : α), (x :: xs).set 0 a = a :: xs) ∧ ∀ {α : Type} (x : α) (xs : List α) (n : Nat) (a : α), (x :: xs).set (n + 1) a = x :: xs.set n a := ⟨fun h => rfl, fun _ _ _ _ => rfl, fun _ _ _ => rfl, fun l i a => List.setIfInBounds_toArray l i a, fun _ _ _ => rfl, fun _ _ _ _ => rfl⟩
theorem zQ : (∀ (a : Act) (d : Nat) (v : Value), a.put (some d) v = { a with tmps := a.tmps.setIfInBounds d v }) ∧ (∀ (a : Act) (v : Value), a.put none v = a) ∧ (∀ {α : Type} {xs : List α} {i : Nat} (h : i < xs.toArray.size), xs.toArray[i] = xs[i]'h) ∧ (∀ {α : Type} (a : α) (ys : List α) (i : Nat) (h : i + 1 < (a :: ys).length), (a :: ys)[i + 1] = ys[i]'(Nat.lt_of_succ_lt_succ h)) ∧ (∀ {α : Type} (a : α) (ys : List α) (h : 0 < (a :: ys).length), (a :: ys)[0] = a) ∧ (∀ {α : Type} (l : List α) (i : Nat) (a : α), l.toArray.setIfInBounds i a = (l.set i a).toArray) ∧ (∀ {α : Type} (x : α) (xs : List α) (a : α), (x :: xs).set 0 a = a :: xs) ∧ ∀ {α : Type} (x : α) (xs : List α) (n : Nat) (a : α), (x :: xs).set (n + 1) a = x :: xs.set n a := ⟨fun _ _ _ => rfl, fun _ _ => rfl, fun h => rfl, fun _ _ _ _ => rfl, fun _ _ _ => rfl, fun l i a => List.setIfInBounds_toArray l i a, fun _ _ _ => rfl, fun _ _ _ _ => rfl⟩
end Go.Proofs.YtembgnhbpmfhpaaGreat
namespace Go.Proofs.YtembgnhbpmfhpaaGreat
open Tryz
section
open Go
section
variable {P:Program} {ops:Array Oper} {Q:Exit->Act->World->Prop} {md:Region.Mode} {S1 S2:World->Prop} {k:Nat}
def wpG(P:Program)(md:Region.Mode)(ops:Array Oper)(Q:Exit->Act->World->Prop)(S1 S2:World->Prop)(k:Nat):Nat->Array Bool->Act->World->Prop
 | 0,listed,a,w=>Region.ready md ops listed=[]/\Q .normal a w
 | fuel+1,listed,a,w =>
  (Region.ready md ops listed=[]->Q .normal a w) /\
  ∀i∈Region.ready md ops listed,wpOp P ops Q i (fun a' w'=>(S1 w'/\((listed.setIfInBounds i true).getD k true=false->S2 w'))/\wpG P md ops Q S1 S2 k fuel (listed.setIfInBounds i true) a' w') a w
theorem zoT:∀(fuel:Nat) (listed:Array Bool) (a:Act) (w:World),wpG P md ops Q S1 S2 k fuel listed a w->wpAny P md ops Q fuel listed a w
 | 0,_,_,_,h=>h
 | fuel+1,_,_,_,h=>⟨h.1,fun i hi=>wpOp_mono (fun a' w' h'=>zoT fuel _ a' w' h'.2) (h.2 i hi)⟩
theorem zoP{i:Nat}{oi:Oper}{v:Value}(hi:ops[i]?=some oi)(hsel:∀(j:Nat) (o:Oper) cs b,ops[j]?=some o->o.op ≠ .select cs b)
  (hQ:∀c a w,Q (.panic c) (a.put oi.dst v) w->Q (.panic c) a w)(hik:i≠k) :
  ∀(fuel:Nat) (listed:Array Bool) (a:Act) (w:World),
   (∀j oj,ops[j]?=some oj->j≠i->listed.getD j true=false->(∀e∈oj.after,Region.binds md e=true->e.on≠i)->oi.apart ops oj=true) ->
   i∈Region.ready md ops listed->YieldsIf P ops S1 oi v a->S1 w->(listed.getD k true=false->S2 w) ->
   wpG P md ops Q S1 S2 k fuel (listed.setIfInBounds i true) (a.put oi.dst v) w->wpG P md ops Q S1 S2 k (fuel+1) listed a w:=by
 intro fuel
 induction fuel with
 | zero =>
  intro listed a w hfree hr hy hS1 HH H;refine⟨fun h=>(by rw[h]at hr;cases hr),fun j hj=>?_⟩;by_cases hji:j=i
  ·subst hji;exact hy.wpOp hi hS1 ⟨⟨hS1,fun h=>HH (by rw[getD_set_ne true hik]at h;exact h)⟩,H⟩
  ·have:=ready_mono hj hji;rw[H.1]at this
   cases this
 | succ fuel ih =>
  intro listed a w hfree hr hy hS1 HH H;refine⟨fun h=>(by rw[h]at hr;cases hr),fun j hj=>?_⟩;by_cases hji:j=i
  ·subst hji;exact hy.wpOp hi hS1 ⟨⟨hS1,fun h=>HH (by rw[getD_set_ne true hik]at h;exact h)⟩,H⟩
  ·have h1:=H.2 j (ready_mono hj hji);obtain⟨hjun,oj,hoj,hall⟩:=mem_ready.1 hj;have hnot:∀e∈oj.after,Region.binds md e=true->e.on≠i:=fun e he hb heq=>by
    have h1:=hall e he hb;have h0:=(mem_ready.1 hr).1;rw[heq]at h1;rcases Nat.lt_or_ge i listed.size with h'|h'
    ·simp[h']at h0 h1;rw[h0]at h1;cases h1
    ·simp[Array.getElem?_eq_none h']at h1
   have h2:=wpOp_putIf hoj (hfree j oj hoj hji hjun hnot) (fun cs b=>hsel i oi cs b hi) (fun cs b=>hsel j oj cs b hoj) hQ hy h1;have hfree':∀k ok,ops[k]?=some ok->k≠i->(listed.setIfInBounds j true).getD k true=false ->
     (∀e∈ok.after,Region.binds md e=true->e.on≠i)->oi.apart ops ok=true:=fun k ok hk hki hun hno=>by
    refine hfree k ok hk hki ?_ hno;by_cases hjk:j=k
    ·subst hjk;exact hjun
    ·rw[getD_set_ne true hjk]at hun;exact hun
   have hsame:((listed.setIfInBounds i true).setIfInBounds j true).getD k true=(listed.setIfInBounds j true).getD k true:=by
    rw[Array.setIfInBounds_comm _ _ (Ne.symm hji),getD_set_ne true hik]
   refine wpOp_mono (fun a' w' h3=>?_) h2;obtain⟨hy',⟨hs1,hs2⟩,hW⟩:=h3;rw[hsame]at hs2;refine⟨⟨hs1,hs2⟩,ih (listed.setIfInBounds j true) a' w' hfree' (ready_mono hr (Ne.symm hji)) hy' hs1 hs2 ?_⟩;rw[Array.setIfInBounds_comm _ _ hji];exact hW
theorem zsC{i:Nat}{oi:Oper}{v:Value}(hi:ops[i]?=some oi)(hsel:∀(j:Nat) (o:Oper) cs b,ops[j]?=some o->o.op ≠ .select cs b)
  (hQ:∀c a w,Q (.panic c) (a.put oi.dst v) w->Q (.panic c) a w)(hik:i≠k)(hwait:∃ok,ops[k]?=some ok/\∃e∈ok.after,Region.binds md e=true/\e.on=i) :
  ∀(fuel:Nat) (listed:Array Bool) (a:Act) (w:World),
   (∀j oj,ops[j]?=some oj->j≠i->listed.getD j true=false->(∀e∈oj.after,Region.binds md e=true->e.on≠i)->oi.apart ops oj=true) ->
   i∈Region.ready md ops listed->YieldsIf P ops S2 oi v a->S1 w->(listed.getD k true=false/\S2 w) ->
   wpG P md ops Q S1 S2 k fuel (listed.setIfInBounds i true) (a.put oi.dst v) w->wpG P md ops Q S1 S2 k (fuel+1) listed a w:=by
 intro fuel
 induction fuel with
 | zero =>
  intro listed a w hfree hr hy hS1 HH H;refine⟨fun h=>(by rw[h]at hr;cases hr),fun j hj=>?_⟩;by_cases hji:j=i
  ·subst hji;exact hy.wpOp hi HH.2 ⟨⟨hS1,fun h=>HH.2⟩,H⟩
  ·have:=ready_mono hj hji;rw[H.1]at this
   cases this
 | succ fuel ih =>
  intro listed a w hfree hr hy hS1 HH H;refine⟨fun h=>(by rw[h]at hr;cases hr),fun j hj=>?_⟩;by_cases hji:j=i
  ·subst hji;exact hy.wpOp hi HH.2 ⟨⟨hS1,fun h=>HH.2⟩,H⟩
  ·have h1:=H.2 j (ready_mono hj hji);obtain⟨hjun,oj,hoj,hall⟩:=mem_ready.1 hj;have hnot:∀e∈oj.after,Region.binds md e=true->e.on≠i:=fun e he hb heq=>by
    have h1:=hall e he hb;have h0:=(mem_ready.1 hr).1;rw[heq]at h1;rcases Nat.lt_or_ge i listed.size with h'|h'
    ·simp[h']at h0 h1;rw[h0]at h1;cases h1
    ·simp[Array.getElem?_eq_none h']at h1
   have h2:=wpOp_putIf hoj (hfree j oj hoj hji hjun hnot) (fun cs b=>hsel i oi cs b hi) (fun cs b=>hsel j oj cs b hoj) hQ hy h1;have hfree':∀k ok,ops[k]?=some ok->k≠i->(listed.setIfInBounds j true).getD k true=false ->
     (∀e∈ok.after,Region.binds md e=true->e.on≠i)->oi.apart ops ok=true:=fun k ok hk hki hun hno=>by
    refine hfree k ok hk hki ?_ hno;by_cases hjk:j=k
    ·subst hjk;exact hjun
    ·rw[getD_set_ne true hjk]at hun;exact hun
   have hsame:((listed.setIfInBounds i true).setIfInBounds j true).getD k true=(listed.setIfInBounds j true).getD k true:=by
    rw[Array.setIfInBounds_comm _ _ (Ne.symm hji),getD_set_ne true hik]
   have hjk:j≠k:=fun e'=>by
    obtain⟨ok,hok,e,he,hb,heq⟩:=hwait;rw[<-e',hoj]at hok;injection hok with hok;subst hok;exact hnot e he hb heq
   have aA:(listed.setIfInBounds j true).getD k true=false:=by rw[getD_set_ne true hjk];exact HH.1
   refine wpOp_mono (fun a' w' h3=>?_) h2;obtain⟨hy',⟨hs1,hs2⟩,hW⟩:=h3;have mH:=hs2 (by rw[hsame];exact aA);refine⟨⟨hs1,fun _=>mH⟩,ih (listed.setIfInBounds j true) a' w' hfree' (ready_mono hr (Ne.symm hji)) hy' hs1 ⟨aA,mH⟩ ?_⟩;rw[Array.setIfInBounds_comm _ _ hji];exact hW
theorem zkQ{i:Nat}{oi:Oper}{v:Value}{fuel:Nat}{listed:Array Bool}{a:Act}{w:World}(hi:ops[i]?=some oi)
  (hs:Region.noSelect ops=true)(hf:Region.free md ops listed i=true)(hr:(Region.ready md ops listed).contains i=true)(hik:i≠k)
  (hQ:∀c a w,Q (.panic c) (a.put oi.dst v) w->Q (.panic c) a w)(hy:YieldsIf P ops S1 oi v a)(hS:S1 w/\S2 w)
  (h:wpG P md ops Q S1 S2 k fuel (listed.setIfInBounds i true) (a.put oi.dst v) w):wpG P md ops Q S1 S2 k (fuel+1) listed a w :=
 zoP hi (Region.noSelect_spec hs) hQ hik fuel listed a w (Region.free_spec hi hf) (by simpa using hr) hy hS.1 (fun _=>hS.2) h
theorem ztt{i:Nat}{oi ok:Oper}{v:Value}{fuel:Nat}{listed:Array Bool}{a:Act}{w:World}(hi:ops[i]?=some oi)
  (hs:Region.noSelect ops=true)(hf:Region.free md ops listed i=true)(hr:(Region.ready md ops listed).contains i=true)(hik:i≠k)
  (hok:ops[k]?=some ok)(hwait:ok.after.any (fun e=>Region.binds md e&&e.on==i)=true)(hlk:listed.getD k true=false)
  (hQ:∀c a w,Q (.panic c) (a.put oi.dst v) w->Q (.panic c) a w)(hy:YieldsIf P ops S2 oi v a)(hS:S1 w/\S2 w)
  (h:wpG P md ops Q S1 S2 k fuel (listed.setIfInBounds i true) (a.put oi.dst v) w):wpG P md ops Q S1 S2 k (fuel+1) listed a w :=
 zsC hi (Region.noSelect_spec hs) hQ hik ⟨ok,hok,by
  obtain⟨i',hi',h'⟩:=Array.any_iff_exists.1 hwait;simp only[Bool.and_eq_true,beq_iff_eq]at h';exact⟨_,Array.getElem_mem _,h'.2.2.1,h'.2.2.2⟩⟩ fuel listed a w (Region.free_spec hi hf) (by simpa using hr) hy hS.1 ⟨hlk,hS.2⟩ h
theorem zx1{i:Nat}{o:Oper}{fuel:Nat}{listed:Array Bool}{a:Act}{w:World}(hr:Region.ready md ops listed=[i])(ho:ops[i]?=some o)
  (h:∀K':Act->World->Prop,Shut (∀a w,S1 w/\S2 w->wpG P md ops Q S1 S2 k fuel (listed.setIfInBounds i true) a w->K' a w)->if Region.wanted o (yielded ops a.tmps)=true then Oper.wp P o a w K' Q else K' (a.put o.dst undef) w) :
  wpG P md ops Q S1 S2 k (fuel+1) listed a w:=by
 refine⟨(fun h0=>by rw[hr]at h0;cases h0),fun j hj=>?_⟩;rw[hr]at hj;simp only[List.mem_singleton]at hj;subst hj;exact wpOp_step ho fun K' hK=>h K' fun a w hS hW=>hK a w ⟨⟨hS.1,fun _=>hS.2⟩,hW⟩
theorem zvL{i:Nat}{o:Oper}{fuel:Nat}{listed:Array Bool}{a:Act}{w:World}(hr:Region.ready md ops listed=[i])(ho:ops[i]?=some o)(hk:(listed.setIfInBounds i true).getD k true=true)
  (h:∀K':Act->World->Prop,Shut (∀a w,S1 w->wpG P md ops Q S1 S2 k fuel (listed.setIfInBounds i true) a w->K' a w)->if Region.wanted o (yielded ops a.tmps)=true then Oper.wp P o a w K' Q else K' (a.put o.dst undef) w) :
  wpG P md ops Q S1 S2 k (fuel+1) listed a w:=by
 refine⟨(fun h0=>by rw[hr]at h0;cases h0),fun j hj=>?_⟩;rw[hr]at hj;simp only[List.mem_singleton]at hj;subst hj;exact wpOp_step ho fun K' hK=>h K' fun a w hS hW=>hK a w ⟨⟨hS,fun h=>by rw[hk]at h;cases h⟩,hW⟩
theorem zvM{fuel:Nat}{listed:Array Bool}{a:Act}{w:World}(hr:Region.ready md ops listed=[])(h:Q .normal a w):wpG P md ops Q S1 S2 k fuel listed a w:=by
 cases fuel with
 | zero=>exact⟨hr,h⟩
 | succ fuel=>exact⟨fun _=>h,fun i hi=>by rw[hr]at hi;cases hi⟩
theorem zkk{id:Nat}{a:Act}{w:World}(S1 S2:World->Prop)(k:Nat)(hm:P.follows .mixedOrders=true)
  (h:wpG P .any ops Q S1 S2 k ops.size (Array.replicate ops.size false) a w.drew):(Code.region id ops true).wp P Q a w :=
 wp_region_any hm (zoT _ _ _ _ h)
end
section
variable {P:Program} {ops:Array Oper} {Q:Exit->Act->World->Prop} {md:Region.Mode} {S1 S2:World->Prop} {k:Nat}
def zob(md:Region.Mode)(ops:Array Oper)(m p:Nat):Bool:=match ops[m]? with
 | some o=>o.after.any fun e=>Region.binds md e&&e.on==p
 | none=>false
def zpp(md:Region.Mode)(ops:Array Oper):Nat->List Nat->Bool
 | _,[]=>true
 | p,m::r=>zob md ops m p&&zpp md ops m r
theorem zqa{m p:Nat}(h:zob md ops m p=true):∃o,ops[m]?=some o/\∃e∈o.after,Region.binds md e=true/\e.on=p:=by
 unfold zob at h
 cases ho:ops[m]? with
 | none=>rw[ho]at h;cases h
 | some o =>
  rw[ho]at h;obtain⟨i',hi',h'⟩:=Array.any_iff_exists.1 h;simp only[Bool.and_eq_true,beq_iff_eq]at h';exact⟨o,rfl,_,Array.getElem_mem _,h'.2.2.1,h'.2.2.2⟩
theorem zqM:∀ {L:List Nat} {p:Nat},zpp md ops p L=true->∀m∈L,∃q,(q=p\/q∈L)/\zob md ops m q=true
 | [],_,_,_,hm=>by cases hm
 | x::r,p,h,m,hm=>by
  simp only[zpp,Bool.and_eq_true]at h;rcases List.mem_cons.1 hm with rfl|hm
  ·exact⟨p,.inl rfl,h.1⟩
  ·obtain⟨q,hq,hw⟩:=zqM h.2 m hm;refine⟨q,.inr ?_,hw⟩;rcases hq with rfl|hq
   ·exact List.mem_cons_self ..
   ·exact List.mem_cons_of_mem _ hq
theorem zsB{i:Nat}{oi:Oper}{v:Value}(hi:ops[i]?=some oi)(hsel:∀(j:Nat) (o:Oper) cs b,ops[j]?=some o->o.op ≠ .select cs b)
  (hQ:∀c a w,Q (.panic c) (a.put oi.dst v) w->Q (.panic c) a w)(ms:List Nat)(hik:i ∉ ms++[k])(hch:zpp md ops i (ms++[k])=true) :
  ∀(fuel:Nat) (listed:Array Bool) (a:Act) (w:World),
   (∀j oj,ops[j]?=some oj->j≠i->listed.getD j true=false->(∀e∈oj.after,Region.binds md e=true->e.on≠i)->oi.apart ops oj=true) ->
   i∈Region.ready md ops listed->YieldsIf P ops S2 oi v a->S1 w->((∀m∈ms++[k],listed.getD m true=false)/\S2 w) ->
   wpG P md ops Q S1 S2 k fuel (listed.setIfInBounds i true) (a.put oi.dst v) w->wpG P md ops Q S1 S2 k (fuel+1) listed a w:=by
 have hik':i≠k:=fun e=>hik (by simp[e]);intro fuel
 induction fuel with
 | zero =>
  intro listed a w hfree hr hy hS1 HH H;refine⟨fun h=>(by rw[h]at hr;cases hr),fun j hj=>?_⟩;by_cases hji:j=i
  ·subst hji;exact hy.wpOp hi HH.2 ⟨⟨hS1,fun h=>HH.2⟩,H⟩
  ·have:=ready_mono hj hji;rw[H.1]at this
   cases this
 | succ fuel ih =>
  intro listed a w hfree hr hy hS1 HH H;refine⟨fun h=>(by rw[h]at hr;cases hr),fun j hj=>?_⟩;by_cases hji:j=i
  ·subst hji;exact hy.wpOp hi HH.2 ⟨⟨hS1,fun h=>HH.2⟩,H⟩
  ·have h1:=H.2 j (ready_mono hj hji);obtain⟨hjun,oj,hoj,hall⟩:=mem_ready.1 hj;have hun:∀p,listed.getD p true=false->∀e∈oj.after,Region.binds md e=true->e.on≠p:=fun p h0 e he hb heq=>by
    have h1:=hall e he hb;rw[heq]at h1;rcases Nat.lt_or_ge p listed.size with h'|h'
    ·simp[h']at h0 h1;rw[h0]at h1;cases h1
    ·simp[Array.getElem?_eq_none h']at h1
   have hnot:∀e∈oj.after,Region.binds md e=true->e.on≠i:=hun i (mem_ready.1 hr).1;have h2:=wpOp_putIf hoj (hfree j oj hoj hji hjun hnot) (fun cs b=>hsel i oi cs b hi) (fun cs b=>hsel j oj cs b hoj) hQ hy h1;have hfree':∀k ok,ops[k]?=some ok->k≠i->(listed.setIfInBounds j true).getD k true=false ->
     (∀e∈ok.after,Region.binds md e=true->e.on≠i)->oi.apart ops ok=true:=fun k ok hk hki hun hno=>by
    refine hfree k ok hk hki ?_ hno;by_cases hjk:j=k
    ·subst hjk;exact hjun
    ·rw[getD_set_ne true hjk]at hun;exact hun
   have hsame:((listed.setIfInBounds i true).setIfInBounds j true).getD k true=(listed.setIfInBounds j true).getD k true:=by
    rw[Array.setIfInBounds_comm _ _ (Ne.symm hji),getD_set_ne true hik']
   have hjm:∀m∈ms++[k],j≠m:=fun m hm e'=>by
    obtain⟨q,hq,hw⟩:=zqM hch m hm;obtain⟨om,jO,e,he,hb,heq⟩:=zqa hw;rw[<-e',hoj]at jO;injection jO with jO;subst jO;refine hun q ?_ e he hb heq;rcases hq with rfl|hq
    ·exact(mem_ready.1 hr).1
    ·exact HH.1 q hq
   have aA:∀m∈ms++[k],(listed.setIfInBounds j true).getD m true=false:=fun m hm=>by rw[getD_set_ne true (hjm m hm)];exact HH.1 m hm
   refine wpOp_mono (fun a' w' h3=>?_) h2;obtain⟨hy',⟨hs1,hs2⟩,hW⟩:=h3;have mH:=hs2 (by rw[hsame];exact aA k (by simp));refine⟨⟨hs1,fun _=>mH⟩,ih (listed.setIfInBounds j true) a' w' hfree' (ready_mono hr (Ne.symm hji)) hy' hs1 ⟨aA,mH⟩ ?_⟩;rw[Array.setIfInBounds_comm _ _ hji];exact hW
theorem zts{i:Nat}{oi:Oper}{v:Value}{fuel:Nat}{listed:Array Bool}{a:Act}{w:World}(ms:List Nat)(hi:ops[i]?=some oi)
  (hs:Region.noSelect ops=true)(hf:Region.free md ops listed i=true)(hr:(Region.ready md ops listed).contains i=true)(hik:(ms++[k]).contains i=false)
  (hch:zpp md ops i (ms++[k])=true)(hlk:(ms++[k]).all (fun m => !listed.getD m true)=true)
  (hQ:∀c a w,Q (.panic c) (a.put oi.dst v) w->Q (.panic c) a w)(hy:YieldsIf P ops S2 oi v a)(hS:S1 w/\S2 w)
  (h:wpG P md ops Q S1 S2 k fuel (listed.setIfInBounds i true) (a.put oi.dst v) w):wpG P md ops Q S1 S2 k (fuel+1) listed a w :=
 zsB hi (Region.noSelect_spec hs) hQ ms (by simpa using hik) hch fuel listed a w (Region.free_spec hi hf) (by simpa using hr) hy hS.1 ⟨fun m hm=>by simpa using List.all_eq_true.1 hlk m hm,hS.2⟩ h
theorem ztr{i:Nat}{oi:Oper}{v:Value}{fuel:Nat}{listed:Array Bool}{a:Act}{w:World}(hi:ops[i]?=some oi)
  (hs:Region.noSelect ops=true)(hf:Region.free md ops listed i=true)(hr:(Region.ready md ops listed).contains i=true)(hik:i≠k)(hlk:listed.getD k true=true)
  (hQ:∀c a w,Q (.panic c) (a.put oi.dst v) w->Q (.panic c) a w)(hy:YieldsIf P ops S1 oi v a)(hS:S1 w)
  (h:wpG P md ops Q S1 S2 k fuel (listed.setIfInBounds i true) (a.put oi.dst v) w):wpG P md ops Q S1 S2 k (fuel+1) listed a w :=
 zoP hi (Region.noSelect_spec hs) hQ hik fuel listed a w (Region.free_spec hi hf) (by simpa using hr) hy hS (fun e=>by rw[hlk]at e;cases e) h
end
section
variable {P:Program} {ops:Array Oper} {Q:Exit->Act->World->Prop} {md:Region.Mode} {S1 S2:World->Prop} {k:Nat}
theorem zJ(i:Nat){oi ok:Oper}{v:Value}{fuel:Nat}{listed l':Array Bool}{a a':Act}{w:World}(hS:S1 w/\S2 w)(h:wpG P md ops Q S1 S2 k fuel l' a' w)(hi:ops[i]?=some oi:=by rfl)(hs:Region.noSelect ops=true:=by kernel_rfl)(hf:Region.free md ops listed i=true:=by kernel_rfl)(hr:(Region.ready md ops listed).contains i=true:=by kernel_rfl)(hik:i≠k:=by decide)(hok:ops[k]?=some ok:=by rfl)(hwait:ok.after.any (fun e=>Region.binds md e&&e.on==i)=true:=by kernel_rfl)(hlk:listed.getD k true=false:=by kernel_rfl)(hQ:∀c a w,Q (.panic c) (a.put oi.dst v) w->Q (.panic c) a w:=by exact fun _ _ _ h=>h)(hy:YieldsIf P ops S2 oi v a:=by (refine Or.inl ⟨by rfl,?_⟩;intro w hSw;(try dsimp only at hSw);(try simp only[zA,zB,zC]);go_simp;(try with_reducible rfl)))(ha:a.put oi.dst v=a':=by ((try simp only[zQ]);(try with_reducible rfl)))(hl:listed.setIfInBounds i true=l':=by ((try simp only[zQ]);(try with_reducible rfl))):wpG P md ops Q S1 S2 k (fuel+1) listed a w:=by subst ha hl;exact ztt hi hs hf hr hik hok hwait hlk hQ hy hS h
theorem zL(i:Nat){oi:Oper}{v:Value}{fuel:Nat}{listed l':Array Bool}{a a':Act}{w:World}(ms:List Nat)(hS:S1 w/\S2 w)(h:wpG P md ops Q S1 S2 k fuel l' a' w)(hi:ops[i]?=some oi:=by rfl)(hs:Region.noSelect ops=true:=by kernel_rfl)(hf:Region.free md ops listed i=true:=by kernel_rfl)(hr:(Region.ready md ops listed).contains i=true:=by kernel_rfl)(hik:(ms++[k]).contains i=false:=by decide)(hch:zpp md ops i (ms++[k])=true:=by kernel_rfl)(hlk:(ms++[k]).all (fun m => !listed.getD m true)=true:=by kernel_rfl)(hQ:∀c a w,Q (.panic c) (a.put oi.dst v) w->Q (.panic c) a w:=by exact fun _ _ _ h=>h)(hy:YieldsIf P ops S2 oi v a:=by (refine Or.inl ⟨by rfl,?_⟩;intro w hSw;(try dsimp only at hSw);(try simp only[zA,zB,zC]);go_simp;(try with_reducible rfl)))(ha:a.put oi.dst v=a':=by ((try simp only[zQ]);(try with_reducible rfl)))(hl:listed.setIfInBounds i true=l':=by ((try simp only[zQ]);(try with_reducible rfl))):wpG P md ops Q S1 S2 k (fuel+1) listed a w:=by subst ha hl;exact zts ms hi hs hf hr hik hch hlk hQ hy hS h
theorem zM(i:Nat){oi:Oper}{v:Value}{fuel:Nat}{listed l':Array Bool}{a a':Act}{w:World}(hS:S1 w)(h:wpG P md ops Q S1 S2 k fuel l' a' w)(hi:ops[i]?=some oi:=by rfl)(hs:Region.noSelect ops=true:=by kernel_rfl)(hf:Region.free md ops listed i=true:=by kernel_rfl)(hr:(Region.ready md ops listed).contains i=true:=by kernel_rfl)(hik:i≠k:=by decide)(hlk:listed.getD k true=true:=by kernel_rfl)(hQ:∀c a w,Q (.panic c) (a.put oi.dst v) w->Q (.panic c) a w:=by exact fun _ _ _ h=>h)(hy:YieldsIf P ops S1 oi v a:=by (refine Or.inl ⟨by rfl,?_⟩;intro w hSw;(try dsimp only at hSw);(try simp only[zA,zB,zC]);go_simp;(try with_reducible rfl)))(ha:a.put oi.dst v=a':=by ((try simp only[zQ]);(try with_reducible rfl)))(hl:listed.setIfInBounds i true=l':=by ((try simp only[zQ]);(try with_reducible rfl))):wpG P md ops Q S1 S2 k (fuel+1) listed a w:=by subst ha hl;exact ztr hi hs hf hr hik hlk hQ hy hS h
theorem zG{id:Nat}{a:Act}{w:World}(hS:zW S1 S2 w.drew)(k:Nat)(h:wpG P .any ops Q S1 S2 k ops.size (Array.replicate ops.size false) a w.drew)(hm:P.follows .mixedOrders=true:=by kernel_rfl):(Code.region id ops true).wp P Q a w:=zkk S1 S2 k hm h
end
section
variable {P:Program} {ops:Array Oper} {Q:Exit->Act->World->Prop} {md:Region.Mode} {S1 S2:World->Prop} {k:Nat}
theorem zT(i:Nat){oi:Oper}{v:Value}{fuel:Nat}{listed l':Array Bool}{a a':Act}{w:World}(hS:S1 w/\S2 w)(h:wpG P md ops Q S1 S2 k fuel l' a' w)(hi:ops[i]?=some oi:=by rfl)(hs:Region.noSelect ops=true:=by kernel_rfl)(hf:Region.free md ops listed i=true:=by kernel_rfl)(hr:(Region.ready md ops listed).contains i=true:=by kernel_rfl)(hik:i≠k:=by decide)(hQ:∀c a w,Q (.panic c) (a.put oi.dst v) w->Q (.panic c) a w:=by exact fun _ _ _ h=>h)(hy:YieldsIf P ops S1 oi v a:=by (refine Or.inl ⟨by rfl,?_⟩;intro w hSw;(try dsimp only at hSw);(try simp only[zA,zB,zC]);go_simp;(try with_reducible rfl)))(ha:a.put oi.dst v=a':=by ((try simp only[zQ]);(try with_reducible rfl)))(hl:listed.setIfInBounds i true=l':=by ((try simp only[zQ]);(try with_reducible rfl))):wpG P md ops Q S1 S2 k (fuel+1) listed a w:=by subst ha hl;exact zkQ hi hs hf hr hik hQ hy hS h
theorem zp(i:Nat){o:Oper}{fuel:Nat}{listed:Array Bool}{a:Act}{w:World}(h:∀K':Act->World->Prop,Shut (∀a w,S1 w->wpG P md ops Q S1 S2 k fuel (listed.setIfInBounds i true) a w->K' a w)->if Region.wanted o (yielded ops a.tmps)=true then Oper.wp P o a w K' Q else K' (a.put o.dst undef) w)(hr:Region.ready md ops listed=[i]:=by kernel_rfl)(ho:ops[i]?=some o:=by rfl)(hk:(listed.setIfInBounds i true).getD k true=true:=by kernel_rfl):wpG P md ops Q S1 S2 k (fuel+1) listed a w:=zvL hr ho hk h
theorem zo(i:Nat){o:Oper}{fuel:Nat}{listed:Array Bool}{a:Act}{w:World}(h:∀K':Act->World->Prop,Shut (∀a w,S1 w/\S2 w->wpG P md ops Q S1 S2 k fuel (listed.setIfInBounds i true) a w->K' a w)->if Region.wanted o (yielded ops a.tmps)=true then Oper.wp P o a w K' Q else K' (a.put o.dst undef) w)(hr:Region.ready md ops listed=[i]:=by kernel_rfl)(ho:ops[i]?=some o:=by rfl):wpG P md ops Q S1 S2 k (fuel+1) listed a w:=zx1 hr ho h
theorem zd{fuel:Nat}{listed:Array Bool}{a:Act}{w:World}(h:Q .normal a w)(hr:Region.ready md ops listed=[]:=by kernel_rfl):wpG P md ops Q S1 S2 k fuel listed a w:=zvM hr h
end
end
section
open Go.RowKit
structure IsFn(P:Program)(f:FuncId)(fn:Func):Prop where
 at_:P.funcs[f]?=some fn
 name : (fn.name == "runtime.NumGoroutine") = false
 body:fn.body.isNone=false
theorem zkN{P:Program}{f:FuncId}{fn:Func}(h:IsFn P f fn)(args:Array Value)(w:World):(callFunc f args).run P w=.ok (.enter f args) w:=by
 have h1:=h.name;have h2:=h.body;unfold callFunc;simp only[Sem.run_bind,program,Sem.run,Result.andThen_ok,h.at_,h1,h2];rfl
inductive T where
 | nd (k n:Int) (s:ByteArray) (ks:List T)
namespace T
def k:T->Int|.nd k _ _ _=>k
def n:T->Int|.nd _ n _ _=>n
def s:T->ByteArray|.nd _ _ s _=>s
def ks:T->List T|.nd _ _ _ ks=>ks
@[simp] theorem k_nd (k n:Int) (s:ByteArray) (ks:List T):(T.nd k n s ks).k=k:=rfl
@[simp] theorem n_nd (k n:Int) (s:ByteArray) (ks:List T):(T.nd k n s ks).n=n:=rfl
@[simp] theorem s_nd (k n:Int) (s:ByteArray) (ks:List T):(T.nd k n s ks).s=s:=rfl
@[simp] theorem ks_nd (k n:Int) (s:ByteArray) (ks:List T):(T.nd k n s ks).ks=ks:=rfl
theorem ind{p:T->Prop}(h:∀k n s ks,(∀t∈ks,p t)->p (.nd k n s ks)):∀t,p t
 | .nd k n s ks=>h k n s ks fun t _=>ind h t
end T
theorem zxU(a b:ByteArray):(a==b)=(a.toList==b.toList):=by
 rw[Go.ByteArray.toList_eq,Go.ByteArray.toList_eq]
 show ByteArray.beq a b=_
 unfold ByteArray.beq;simp
def LK:Nat:=2513169434916
theorem zkI{n:Nat}(h:n<=LK):n<=2513169434916:=h
def Fld(k n:Int)(s:ByteArray):Prop:=(0<=k/\k<256)/\(-9223372036854775808<=n/\n<=9223372036854775807)/\s.size<=maxLen
structure ztm(w:World)(p:Addr)(u0 u1 u2 u3:Value):Prop where
 c0:w.cell? p=some u0
 c1:w.cell? ⟨p.block,p.off+1,none⟩=some u1
 c2:w.cell? ⟨p.block,p.off+2,none⟩=some u2
 c3:w.cell? ⟨p.block,p.off+3,none⟩=some u3
abbrev nv(k n:Int)(s:ByteArray)(A:Option Addr)(l c:Nat):Value:=.agg #[.int .u8 k,.int .i64 n,.string s,.slice A l c]
inductive NV (w:World) (S:Nat->Prop):T->Value->Prop
 | mk (k n:Int) (s:ByteArray) (ks:List T) (A:Option Addr) (c:Nat) (a:Addr) (U0 U1 U2 U3:Nat->Value) (hf:Fld k n s) (hlk:ks.length<=LK) (hlc:ks.length<=c)
   (hA:0<ks.length->A=some a/\S a.block)(hc:∀i,i<ks.length->ztm w (a.add (i*4)) (U0 i) (U1 i) (U2 i) (U3 i))
   (hk:∀i (hi:i<ks.length),NV w S ks[i] (.agg #[U0 i,U1 i,U2 i,U3 i])):NV w S (.nd k n s ks) (nv k n s A ks.length c)
def zmD(w:World)(S:Nat->Prop)(A:Option Addr)(ts:List T):Prop :=
 ∀i (hi:i<ts.length),∃(a:Addr) (u0 u1 u2 u3:Value),A=some a/\S a.block/\ztm w (a.add (i*4)) u0 u1 u2 u3/\NV w S ts[i] (.agg #[u0,u1,u2,u3])
theorem NV.open_{w:World}{S:Nat->Prop}{t:T}{v:Value}(h:NV w S t v) :
  ∃A c,v=nv t.k t.n t.s A t.ks.length c/\Fld t.k t.n t.s/\t.ks.length<=LK/\t.ks.length<=c/\zmD w S A t.ks:=by
 cases h with
 | mk k n s ks A c a U0 U1 U2 U3 hf hlk hlc hA hc hk =>
  refine⟨A,c,rfl,hf,hlk,hlc,fun i hi=>?_⟩;obtain⟨h1,h2⟩:=hA (by simp at hi;omega);exact⟨a,U0 i,U1 i,U2 i,U3 i,h1,h2,hc i hi,hk i hi⟩
theorem zmD.get{w:World}{S:Nat->Prop}{A:Option Addr}{ts:List T}(h:zmD w S A ts){i:Nat}(hi:i<ts.length) :
  ∃(a:Addr) (t:T) (A':Option Addr) (c':Nat),A=some a/\S a.block/\Hid (ts[i]=t)/\w.cell? (a.add (i*4))=some (.int .u8 t.k)/\w.cell? ⟨(a.add (i*4)).block,(a.add (i*4)).off+1,none⟩=some (.int .i64 t.n) /\
   w.cell? ⟨(a.add (i*4)).block,(a.add (i*4)).off+2,none⟩=some (.string t.s)/\w.cell? ⟨(a.add (i*4)).block,(a.add (i*4)).off+3,none⟩=some (.slice A' t.ks.length c')/\NV w S t (nv t.k t.n t.s A' t.ks.length c'):=by
 obtain⟨a,u0,u1,u2,u3,hA,hS,hc,hn⟩:=h i hi;obtain⟨A',c',e,_⟩:=hn.open_;injection e with e;simp only[Array.mk.injEq,List.cons.injEq,and_true]at e;obtain⟨rfl,rfl,rfl,rfl⟩:=e;exact⟨a,ts[i],A',c',hA,hS,rfl,hc.c0,hc.c1,hc.c2,hc.c3,hn⟩
abbrev Nd4(w:World)(p:Addr)(t:T)(A:Option Addr)(c:Nat):Prop :=
 w.cell? p=some (.int .u8 t.k)/\w.cell? ⟨p.block,p.off+1,none⟩=some (.int .i64 t.n)/\w.cell? ⟨p.block,p.off+2,none⟩=some (.string t.s)/\w.cell? ⟨p.block,p.off+3,none⟩=some (.slice A t.ks.length c)
theorem zks{w:World}{p:Addr}{u:Value}(h:w.cell? p=some u)(o:Obj):(w.alloc o).cell? p=some u:=(World.cell?_alloc_lt w o p (World.block_lt_of_cell? w p h)).trans h
theorem zb{w w':World}{p:Addr}{u:Value}(hb:Below w.heap.size w w')(h:w.cell? p=some u):w'.cell? p=some u:=(hb.cell (World.block_lt_of_cell? w p h)).trans h
theorem znn{w w':World}{p:Addr}{t:T}{A:Option Addr}{c:Nat}(hb:Below w.heap.size w w')(h:Nd4 w p t A c):Nd4 w' p t A c:=⟨zb hb h.1,zb hb h.2.1,zb hb h.2.2.1,zb hb h.2.2.2⟩
theorem zmD.nd{w:World}{S:Nat->Prop}{A:Option Addr}{ts:List T}(h:zmD w S A ts){i:Nat}(hi:i<ts.length) :
  ∃(a:Addr) (t:T) (A':Option Addr) (c':Nat),A=some a/\S a.block/\Hid (ts[i]=t)/\Nd4 w (a.add (i*4)) t A' c'/\NV w S t (nv t.k t.n t.s A' t.ks.length c'):=by
 obtain⟨a,t,A',c',h1,h2,h3,h4,h5,h6,h7,h8⟩:=h.get hi;exact⟨a,t,A',c',h1,h2,h3,⟨h4,h5,h6,h7⟩,h8⟩
theorem zyW{n:Nat}{p:Nat->Value->Value->Value->Value->Prop}(h:∀i,i<n->∃u0 u1 u2 u3,p i u0 u1 u2 u3) :
  ∃U0 U1 U2 U3:Nat->Value,∀i,i<n->p i (U0 i) (U1 i) (U2 i) (U3 i):=by
 classical
 refine⟨fun i=>if h':i<n then(h i h').choose else .nilFunc,fun i=>if h':i<n then(h i h').choose_spec.choose else .nilFunc,
  fun i=>if h':i<n then(h i h').choose_spec.choose_spec.choose else .nilFunc,fun i=>if h':i<n then(h i h').choose_spec.choose_spec.choose_spec.choose else .nilFunc,fun i hi=>?_⟩
 simp only[hi,dif_pos];exact(h i hi).choose_spec.choose_spec.choose_spec.choose_spec
theorem NV.shut{w:World}{S:Nat->Prop}{k n:Int}{s:ByteArray}{ks:List T}{A:Option Addr}{c:Nat}(hf:Fld k n s)(hlk:ks.length<=LK)(hlc:ks.length<=c)
  (h:zmD w S A ks):NV w S (.nd k n s ks) (nv k n s A ks.length c):=by
 rcases Nat.eq_zero_or_pos ks.length with h0|h0
 ·exact .mk k n s ks A c default (fun _=>.nilFunc) (fun _=>.nilFunc) (fun _=>.nilFunc) (fun _=>.nilFunc) hf hlk hlc (fun h=>absurd h (by omega)) (fun i hi=>absurd hi (by omega)) (fun i hi=>absurd hi (by omega))
 ·obtain⟨a,_,_,_,_,hA,hS,_⟩:=h 0 h0;have h':∀i,i<ks.length->∃u0 u1 u2 u3,ztm w (a.add (i*4)) u0 u1 u2 u3/\∀hi:i<ks.length,NV w S ks[i] (.agg #[u0,u1,u2,u3]):=by
   intro i hi;obtain⟨a',u0,u1,u2,u3,hA',_,hc,hk⟩:=h i hi;rw[hA]at hA';injection hA' with e;subst e;exact⟨u0,u1,u2,u3,hc,fun _=>hk⟩
  obtain⟨U0,U1,U2,U3,hU⟩:=zyW h';exact .mk k n s ks A c a U0 U1 U2 U3 hf hlk hlc (fun _=>⟨hA,hS⟩) (fun i hi=>(hU i hi).1) (fun i hi=>(hU i hi).2 hi)
section
variable {w w':World} {S S':Nat->Prop} {t:T} {v:Value} {A:Option Addr} {ts:List T}
theorem ztm.keep{p:Addr}{u0 u1 u2 u3:Value}(h:ztm w p u0 u1 u2 u3)(hk:w'.heap[p.block]?=w.heap[p.block]?):ztm w' p u0 u1 u2 u3 :=
 ⟨(World.cell?_of_block (a:=p) hk).trans h.c0,(World.cell?_of_block (a:=⟨p.block,p.off+1,none⟩) hk).trans h.c1,(World.cell?_of_block (a:=⟨p.block,p.off+2,none⟩) hk).trans h.c2,
  (World.cell?_of_block (a:=⟨p.block,p.off+3,none⟩) hk).trans h.c3⟩
theorem zkz(a:Addr)(n:Nat):(a.add n).block=a.block:=by unfold Addr.add;split<;>rfl
theorem NV.keep(h:NV w S t v)(hS:∀b,S b->b<w.heap.size->S' b)(hk:∀b,S b->b<w.heap.size->w'.heap[b]?=w.heap[b]?):NV w' S' t v:=by
 induction h with
 | mk k n s ks A c a U0 U1 U2 U3 hf hlk hlc hA hc _ ih =>
  have hlt:∀i,i<ks.length->a.block<w.heap.size:=fun i hi=>by
   have:=World.block_lt_of_cell? w _ (hc i hi).c0;rwa[zkz]at this
  exact .mk k n s ks A c a U0 U1 U2 U3 hf hlk hlc (fun h=>⟨(hA h).1,hS _ (hA h).2 (hlt 0 h)⟩)
   (fun i hi=>(hc i hi).keep (by rw[zkz];exact hk _ (hA (by omega)).2 (hlt i hi))) ih
theorem zmD.keep(h:zmD w S A ts)(hS:∀b,S b->b<w.heap.size->S' b)(hk:∀b,S b->b<w.heap.size->w'.heap[b]?=w.heap[b]?):zmD w' S' A ts:=by
 intro i hi;obtain⟨a,u0,u1,u2,u3,hA,iA,hc,hn⟩:=h i hi;have hlt:a.block<w.heap.size:=by
  have:=World.block_lt_of_cell? w _ hc.c0;rwa[zkz]at this
 exact⟨a,u0,u1,u2,u3,hA,hS _ iA hlt,hc.keep (by rw[zkz];exact hk _ iA hlt),hn.keep hS hk⟩
abbrev Any:Nat->Prop:=fun _=>True
abbrev From(B:Nat):Nat->Prop:=fun b=>B<=b
theorem NV.any(h:NV w S t v):NV w Any t v:=h.keep (fun _ _ _=>trivial) (fun _ _ _=>rfl)
theorem NV.later(h:NV w S t v)(hb:Below w.heap.size w w'):NV w' S t v:=h.keep (fun _ hb _=>hb) (fun b _ hlt=>hb.block b hlt)
theorem zmD.later(h:zmD w S A ts)(hb:Below w.heap.size w w'):zmD w' S A ts:=h.keep (fun _ hb _=>hb) (fun b _ hlt=>hb.block b hlt)
end
#print axioms NV.keep
end
section
open Go Go.RowKit
theorem zoY{P:Program}{ops:Array Oper}{o:Oper}{a:Act}{w:World}{K:Act->World->Prop}{Q:Exit->Act->World->Prop}{F:Prop}(hgd:o.guard=none)(x:Operand)(xs:Array Operand)(ats:Array TypeId)
  (ho:o.op=.call { callee:=.value x,args:=xs,argTypes:=ats })(f:FuncId)(fn:Func)(hf:IsFn P f fn)(cap:Array Value)(hv:a.eval x=.func (.func f) #[] cap)(args:Array Value)(hargs:xs.map a.eval++cap=args)(R:Value->World->Prop)
  (hc:Calls P f args w fun e w'=>∃v,e=.returned v/\R v w')(h:∀v w',R v w'->K (a.put o.dst v) w') :
  if Region.wanted o (yielded ops a.tmps)=true then Oper.wp P o a w K Q else F:=by
 have hw:Region.wanted o (yielded ops a.tmps)=true:=by simp[Region.wanted,hgd]
 rw[if_pos hw];subst hargs;have e:(execOp a.eval o).run P w=.ok (.enter f (xs.map a.eval++cap)) w:=by
  unfold execOp;simp only[ho,resolve,hv,Deferred.ofValue,Sem.run_bind,Sem.run_pure,Result.andThen_ok,invoke,zkN hf,Array.empty_append]
 unfold Oper.wp;rw[e,Oper.upon_enter];refine hc.mono ?_;rintro e w' ⟨v,rfl,hR⟩;exact h v w' hR
theorem zke{P:Program}{ops:Array Oper}{o:Oper}{a:Act}{w:World}{K:Act->World->Prop}{Q:Exit->Act->World->Prop}{F:Prop}(hgd:o.guard=none)(x:Operand)(xs:List Operand)(ats:Array TypeId)
  (ho:o.op=.call { callee:=.value x,args:=xs.toArray,argTypes:=ats })(f:FuncId)(fn:Func)(hf:IsFn P f fn)(hv:a.eval x=.func (.func f) #[] #[])(l:List Value)(hargs:xs.map a.eval=l)(R:Value->World->Prop)
  (hc:Calls P f l.toArray w fun e w'=>∃v,e=.returned v/\R v w')(h:∀v w',R v w'->K (a.put o.dst v) w') :
  if Region.wanted o (yielded ops a.tmps)=true then Oper.wp P o a w K Q else F :=
 zoY hgd x xs.toArray ats ho f fn hf #[] hv l.toArray (by rw[List.map_toArray,hargs,Array.append_empty]) R hc h
theorem zk5{P:Program}{ops:Array Oper}{o:Oper}{a:Act}{w:World}{K:Act->World->Prop}{Q:Exit->Act->World->Prop}{F:Prop}(hgd:o.guard=none)(x:Operand)(xs:List Operand)(ats:Array TypeId)
  (ho:o.op=.call { callee:=.value x,args:=xs.toArray,argTypes:=ats })(f:FuncId)(fn:Func)(hf:IsFn P f fn)(cap:Array Value)(hv:a.eval x=.func (.func f) #[] cap)(l:List Value)(hargs:xs.map a.eval=l)(R:Value->World->Prop)
  (hc:Calls P f (l.toArray++cap) w fun e w'=>∃v,e=.returned v/\R v w')(h:∀v w',R v w'->K (a.put o.dst v) w') :
  if Region.wanted o (yielded ops a.tmps)=true then Oper.wp P o a w K Q else F :=
 zoY hgd x xs.toArray ats ho f fn hf cap hv _ (by rw[List.map_toArray,hargs]) R hc h
def RowS(w:World)(A:Option Addr)(ss:List ByteArray):Prop:=∀i (hi:i<ss.length),∃a:Addr,A=some a/\w.cell? (a.add i)=some (.string ss[i])
theorem RowS.later{w w':World}{A:Option Addr}{ss:List ByteArray}(h:RowS w A ss)(hb:Below w.heap.size w w'):RowS w' A ss:=fun i hi =>
 let ⟨a,h1,h2⟩:=h i hi;⟨a,h1,zb hb h2⟩
theorem RowS.nd{w:World}{A:Option Addr}{ss:List ByteArray}(h:RowS w A ss){i:Nat}(hi:i<ss.length):∃(a:Addr) (s:ByteArray),A=some a/\Hid (ss[i]=s)/\w.cell? (a.add i)=some (.string s) :=
 let ⟨a,h1,h2⟩:=h i hi;⟨a,ss[i],h1,rfl,h2⟩
theorem zkm{B:Nat}{w w':World}(h:Below B w w')(n:Nat):Below B w (w'.drewN n):=⟨h.os,h.tape,h.output,h.size,h.block⟩
section
variable {P:Program} {md:Region.Mode} {ops:Array Oper} {Q:Exit->Act->World->Prop} {S1 S2:World->Prop} {k:Nat}
end
end
section
open Go
abbrev Fw(ro:Option Nat):Fence:={ Fence.wide with round:=ro }
def znA(ops:Array Oper):Bool:=ops.all fun o=>match o.op with|.defer _=>false|_=>true
theorem zlC{ops:Array Oper}(h:znA ops=true){j:Nat}{o:Oper}(hj:ops[j]?=some o):∀c,o.op ≠ .defer c:=fun c e=>by
 have hm:o∈ops:=Array.mem_of_getElem? hj;have:=(Array.all_eq_true_iff_forall_mem.1 h) o hm;rw[e]at this
 cases this
section
variable {ro:Option Nat} {n:Nat} {P:Program} {ops:Array Oper} {Q:Exit->Act->World->Prop} {md:Region.Mode}
theorem zzr{row:String}{args:Array Value}{w:World}{R:Value->World->Prop}(h:Rows P row args w R):RowsIn (Fw ro) n P row args w R :=
 fun c cs _=>let ⟨v,w',r,s⟩:=h c cs;⟨v,w',r,stepsIn_wide.2 s⟩
theorem zoO{o:Oper}{a:Act}{w:World}{K:Act->World->Prop}(hnd:∀c,o.op ≠ .defer c)(h:o.wp P a w K Q):o.wpIn (Fw ro) n P a w K Q:=by
 refine⟨fun _ _=>trivial,?_⟩;rw[Oper.semAt_eq _ _ _ hnd];unfold Oper.wp at h;generalize (execOp a.eval o).run P w=r at *
 cases r with
 | ok x w' =>
  cases x<;>simp only[Oper.upon,Oper.uponIn]at h ⊢
  case value=>exact h
  case skip=>exact h
  case defer=>exact h
  case enter f args =>
   have h':CallsIn Fence.wide (n-1) P f args w' _:=callsIn_wide.2 h;exact⟨(fun e=>by cases e),h'⟩
  case row row args=>exact⟨(fun e=>by cases e),zzr h⟩
 | halt x w'=>cases x<;>simp only[Oper.upon,Oper.uponIn]at h ⊢ <;> exact h
theorem YieldsIf.wpOpI{S:World->Prop}{i:Nat}{o:Oper}{v:Value}{a:Act}(hnd:∀c,o.op ≠ .defer c)(hi:ops[i]?=some o)(hy:YieldsIf P ops S o v a)
  {K:Act->World->Prop}{w:World}(hS:S w)(h:K (a.put o.dst v) w):wpOpIn (Fw ro) n P ops Q i K a w:=by
 unfold Go.wpOpIn;simp only[hi];rcases hy with⟨hw,hv⟩|⟨hw,rfl⟩
 ·simp only[hw,if_true];refine zoO hnd ?_;simp only[Oper.wp,hv w hS,Oper.upon];exact h
 ·simp only[hw,Bool.false_eq_true,if_false];exact⟨fun _ _=>trivial,h⟩
theorem zqW{S:World->Prop}{j:Nat}{oi oj:Oper}{v:Value}(hnd:∀c,oj.op ≠ .defer c)(hj:ops[j]?=some oj)(hap:oi.apart ops oj=true)
  (hsi:∀cs b,oi.op ≠ .select cs b)(hsj:∀cs b,oj.op ≠ .select cs b)
  (hQ:∀c a w,Q (.panic c) (a.put oi.dst v) w->Q (.panic c) a w){K:Act->World->Prop}{a:Act}{w:World}
  (hy:YieldsIf P ops S oi v a)(h:wpOpIn (Fw ro) n P ops Q j K (a.put oi.dst v) w) :
  wpOpIn (Fw ro) n P ops Q j (fun a' w'=>YieldsIf P ops S oi v a'/\K (a'.put oi.dst v) w') a w:=by
 obtain⟨h1,h2,h3⟩:=Oper.apart_spec hap;have keep:∀(a:Act),YieldsIf P ops S oi v a->∀u,YieldsIf P ops S oi v (a.put oj.dst u):=fun a hy u =>
  hy.of_same (execOp_put oi hsi a oj.dst u h3) (wanted_put oi a oj.dst u h3)
 have keepD:∀d,YieldsIf P ops S oi v { a with defers:=d::a.defers }:=fun d=>hy.of_same rfl rfl;unfold wpOpIn at *
 simp only[hj]at *
 rw[wanted_put oj a oi.dst v h1]at h
 split
 ·rename_i hw;simp only[hw,if_true]at h;unfold Oper.wpIn at *
  refine⟨fun _ _=>trivial,?_⟩;have h:=h.2;rw[Oper.semAt_eq _ _ _ hnd,execOp_put oj hsj a oi.dst v h1]at h;rw[Oper.semAt_eq _ _ _ hnd];generalize (execOp a.eval oj).run P w=r at *
  cases r with
  | ok x w' =>
   cases x<;>simp only[Oper.uponIn]at h ⊢
   case value u=>exact⟨keep a hy u,by rw[<-Act.put_comm a v u h2];exact h⟩
   case skip=>exact⟨keep a hy _,by rw[<-Act.put_comm a v undef h2];exact h⟩
   case defer d =>
    refine⟨keep _ (keepD d) _,?_⟩;rw[<-Act.put_comm _ v undef h2,<-Act.put_defers];exact h
   case enter f args =>
    refine⟨h.1,CallsIn.mono h.2 fun e w'' he=>?_⟩
    cases e with
    | returned u=>exact⟨keep a hy u,by rw[<-Act.put_comm a v u h2];exact he⟩
    | panicked c=>exact hQ _ _ _ he
    | outgrown=>exact he
   case row row args=>exact⟨h.1,RowsIn.mono h.2 fun u w'' he=>⟨keep a hy u,by rw[<-Act.put_comm a v u h2];exact he⟩⟩
   case round l f tmps assign body =>
    refine⟨h.1,RoundIn.mono h.2 fun e w'' he=>?_⟩
    cases e with
    | returned u=>exact⟨keep a hy u,by rw[<-Act.put_comm a v u h2];exact he⟩
    | panicked c=>exact hQ _ _ _ he
    | outgrown=>exact he
  | halt x w' =>
   cases x<;>simp only[Oper.uponIn]at h ⊢
   case panic u=>exact hQ _ _ _ h
 ·rename_i hw;simp only[hw]at h;exact⟨fun _ _=>trivial,keep a hy _,by rw[<-Act.put_comm a v undef h2];exact h.2⟩
def wpI(ro:Option Nat)(n:Nat)(P:Program)(md:Region.Mode)(ops:Array Oper)(Q:Exit->Act->World->Prop)(S:World->Prop):Nat->Array Bool->Act->World->Prop
 | 0,listed,a,w=>Region.ready md ops listed=[]/\Q .normal a w
 | fuel+1,listed,a,w =>
  (Region.ready md ops listed=[]->Q .normal a w) /\
  ∀i∈Region.ready md ops listed,wpOpIn (Fw ro) n P ops Q i (fun a' w'=>S w'/\wpI ro n P md ops Q S fuel (listed.setIfInBounds i true) a' w') a w
variable {S:World->Prop}
theorem zoS:∀(fuel:Nat) (listed:Array Bool) (a:Act) (w:World),wpI ro n P md ops Q S fuel listed a w->wpAnyIn (Fw ro) n P md ops Q fuel listed a w
 | 0,_,_,_,h=>h
 | fuel+1,_,_,_,h=>⟨h.1,fun i hi=>wpOpIn_mono (fun a' w' h'=>zoS fuel _ a' w' h'.2) (h.2 i hi)⟩
theorem ztp{i:Nat}{oi:Oper}{v:Value}(hnd:znA ops=true)(hi:ops[i]?=some oi)(hsel:∀(j:Nat) (o:Oper) cs b,ops[j]?=some o->o.op ≠ .select cs b)
  (hQ:∀c a w,Q (.panic c) (a.put oi.dst v) w->Q (.panic c) a w) :
  ∀(fuel:Nat) (listed:Array Bool) (a:Act) (w:World),
   (∀j oj,ops[j]?=some oj->j≠i->listed.getD j true=false->(∀e∈oj.after,Region.binds md e=true->e.on≠i)->oi.apart ops oj=true) ->
   i∈Region.ready md ops listed->YieldsIf P ops S oi v a->S w ->
   wpI ro n P md ops Q S fuel (listed.setIfInBounds i true) (a.put oi.dst v) w->wpI ro n P md ops Q S (fuel+1) listed a w:=by
 intro fuel
 induction fuel with
 | zero =>
  intro listed a w _ hr hy hS H;refine⟨fun h=>(by rw[h]at hr;cases hr),fun j hj=>?_⟩;by_cases hji:j=i
  ·subst hji;exact YieldsIf.wpOpI (zlC hnd hi) hi hy hS ⟨hS,H⟩
  ·have:=ready_mono hj hji;rw[H.1]at this
   cases this
 | succ fuel ih =>
  intro listed a w hfree hr hy hS H;refine⟨fun h=>(by rw[h]at hr;cases hr),fun j hj=>?_⟩;by_cases hji:j=i
  ·subst hji;exact YieldsIf.wpOpI (zlC hnd hi) hi hy hS ⟨hS,H⟩
  ·have h1:=H.2 j (ready_mono hj hji);obtain⟨hjun,oj,hoj,hall⟩:=mem_ready.1 hj;have hnot:∀e∈oj.after,Region.binds md e=true->e.on≠i:=fun e he hb heq=>by
    have h1:=hall e he hb;have h0:=(mem_ready.1 hr).1;rw[heq]at h1;rcases Nat.lt_or_ge i listed.size with h'|h'
    ·simp[h']at h0 h1;rw[h0]at h1;cases h1
    ·simp[Array.getElem?_eq_none h']at h1
   have h2:=zqW (zlC hnd hoj) hoj (hfree j oj hoj hji hjun hnot) (fun cs b=>hsel i oi cs b hi) (fun cs b=>hsel j oj cs b hoj) hQ hy h1;have hfree':∀k ok,ops[k]?=some ok->k≠i->(listed.setIfInBounds j true).getD k true=false ->
     (∀e∈ok.after,Region.binds md e=true->e.on≠i)->oi.apart ops ok=true:=fun k ok hk hki hun hno=>by
    refine hfree k ok hk hki ?_ hno;by_cases hjk:j=k
    ·subst hjk;exact hjun
    ·rw[getD_set_ne true hjk]at hun;exact hun
   refine wpOpIn_mono (fun a' w' h3=>?_) h2;obtain⟨hy',hs1,hW⟩:=h3;refine⟨hs1,ih (listed.setIfInBounds j true) a' w' hfree' (ready_mono hr (Ne.symm hji)) hy' hs1 ?_⟩;rw[Array.setIfInBounds_comm _ _ hji];exact hW
theorem zvK{i:Nat}{oi:Oper}{v:Value}{fuel:Nat}{listed:Array Bool}{a:Act}{w:World}(hi:ops[i]?=some oi)(hnd:znA ops=true)
  (hs:Region.noSelect ops=true)(hf:Region.free md ops listed i=true)(hr:(Region.ready md ops listed).contains i=true)
  (hQ:∀c a w,Q (.panic c) (a.put oi.dst v) w->Q (.panic c) a w)(hy:YieldsIf P ops S oi v a)(hS:S w)
  (h:wpI ro n P md ops Q S fuel (listed.setIfInBounds i true) (a.put oi.dst v) w):wpI ro n P md ops Q S (fuel+1) listed a w :=
 ztp hnd hi (Region.noSelect_spec hs) hQ fuel listed a w (Region.free_spec hi hf) (by simpa using hr) hy hS h
theorem znt{i:Nat}{o:Oper}{fuel:Nat}{listed:Array Bool}{a:Act}{w:World}(hr:Region.ready md ops listed=[i])(ho:ops[i]?=some o)(hnd:znA ops=true)
  (hw:Region.wanted o (yielded ops a.tmps)=true)
  (h:∀K':Act->World->Prop,Shut (∀a w,S w->wpI ro n P md ops Q S fuel (listed.setIfInBounds i true) a w->K' a w)->if Region.wanted o (yielded ops a.tmps)=true then Oper.wp P o a w K' Q else K' (a.put o.dst undef) w) :
  wpI ro n P md ops Q S (fuel+1) listed a w:=by
 refine⟨(fun h0=>by rw[hr]at h0;cases h0),fun j hj=>?_⟩;rw[hr]at hj;simp only[List.mem_singleton]at hj;subst hj;unfold wpOpIn;have:=h _ (fun a w hS hW=>(⟨hS,hW⟩:S w/\wpI ro n P md ops Q S fuel (listed.setIfInBounds j true) a w));rw[if_pos hw]at this;simp only[ho,hw,if_true];exact zoO (zlC hnd ho) this
theorem zto{i:Nat}{o:Oper}{fuel:Nat}{listed:Array Bool}{a:Act}{w:World}(hr:Region.ready md ops listed=[i])(ho:ops[i]?=some o)(hnd:znA ops=true)
  (hw:Region.wanted o (yielded ops a.tmps)=true){l:Nat}{f:FuncId}{tmps:Array Value}{assign body:Code}
  (hx:(execOp a.eval o).run P w=.ok (.round l f tmps assign body) w){R:Ending->World->Prop}(hR:RoundIn (Fw ro) (n-1) P l f tmps assign body w R)
  (h:∀e w',R e w'->∃v,e=.returned v/\S w'/\wpI ro n P md ops Q S fuel (listed.setIfInBounds i true) (a.put o.dst v) w') :
  wpI ro n P md ops Q S (fuel+1) listed a w:=by
 refine⟨(fun h0=>by rw[hr]at h0;cases h0),fun j hj=>?_⟩;rw[hr]at hj;simp only[List.mem_singleton]at hj;subst hj;unfold wpOpIn;simp only[ho,hw,if_true];refine⟨fun _ _=>trivial,?_⟩;rw[Oper.semAt_eq _ _ _ (zlC hnd ho),hx];refine⟨(fun e=>by cases e),hR.mono fun e w' hr=>?_⟩;obtain⟨v,rfl,hS,hW⟩:=h e w' hr;exact⟨hS,hW⟩
theorem zpt{fuel:Nat}{listed:Array Bool}{a:Act}{w:World}(hr:Region.ready md ops listed=[])(h:Q .normal a w):wpI ro n P md ops Q S fuel listed a w:=by
 cases fuel with
 | zero=>exact⟨hr,h⟩
 | succ fuel=>exact⟨fun _=>h,fun i hi=>by rw[hr]at hi;cases hi⟩
theorem zma{id:Nat}{a:Act}{w:World}(S:World->Prop)(hm:P.follows .mixedOrders=true)
  (h:wpI ro n P .any ops Q S ops.size (Array.replicate ops.size false) a w.drew):(Code.region id ops true).wpIn (Fw ro) n P Q a w :=
 wpIn_region_any hm (zoS _ _ _ _ h)
end
section
variable {P:Program} {ops:Array Oper} {Q:Exit->Act->World->Prop} {md:Region.Mode} {S:World->Prop} {ro:Option Nat} {n:Nat}
theorem zI(i:Nat){oi:Oper}{v:Value}{fuel:Nat}{listed l':Array Bool}{a a':Act}{w:World}(hS:S w)(h:wpI ro n P md ops Q S fuel l' a' w)(hi:ops[i]?=some oi:=by rfl)(hnd:znA ops=true:=by kernel_rfl)(hs:Region.noSelect ops=true:=by kernel_rfl)(hf:Region.free md ops listed i=true:=by kernel_rfl)(hr:(Region.ready md ops listed).contains i=true:=by kernel_rfl)(hQ:∀c a w,Q (.panic c) (a.put oi.dst v) w->Q (.panic c) a w:=by exact fun _ _ _ h=>h)(hy:YieldsIf P ops S oi v a:=by (refine Or.inl ⟨by rfl,?_⟩;intro w hSw;(try dsimp only at hSw);(try simp only[zA,zB,zC]);go_simp;(try with_reducible rfl)))(ha:a.put oi.dst v=a':=by ((try simp only[zQ]);(try with_reducible rfl)))(hl:listed.setIfInBounds i true=l':=by ((try simp only[zQ]);(try with_reducible rfl))):wpI ro n P md ops Q S (fuel+1) listed a w:=by subst ha hl;exact zvK hi hnd hs hf hr hQ hy hS h
end
end
section
open Go Go.RowKit
structure Chg(C:Nat->Prop)(w w':World):Prop where
 os:w'.os=w.os
 tape:w'.tape=w.tape
 output:w'.output=w.output
 size:w.heap.size<=w'.heap.size
 block:∀b,b<w.heap.size->¬ C b->w'.heap[b]?=w.heap[b]?
section
variable {C C':Nat->Prop} {w w' w'':World}
theorem Chg.refl(C:Nat->Prop)(w:World):Chg C w w:=⟨rfl,rfl,rfl,zl,fun _ _ _=>rfl⟩
theorem Chg.trans(h:Chg C w w')(h':Chg C w' w''):Chg C w w'' :=
 ⟨h'.os.trans h.os,h'.tape.trans h.tape,h'.output.trans h.output,Nat.le_trans h.size h'.size,fun b hb hc=>(h'.block b (Nat.lt_of_lt_of_le hb h.size) hc).trans (h.block b hb hc)⟩
theorem Chg.mono(h:Chg C w w')(hC:∀b,b<w.heap.size->C b->C' b):Chg C' w w':=⟨h.os,h.tape,h.output,h.size,fun b hb hc=>h.block b hb fun h=>hc (hC b hb h)⟩
theorem Chg.trans2(h:Chg C w w')(h':Chg C' w' w'')(hC:∀b,b<w.heap.size->C' b->C b):Chg C w w'' :=
 ⟨h'.os.trans h.os,h'.tape.trans h.tape,h'.output.trans h.output,Nat.le_trans h.size h'.size,fun b hb hc=>(h'.block b (Nat.lt_of_lt_of_le hb h.size) fun h=>hc (hC b hb h)).trans (h.block b hb hc)⟩
theorem Chg.of_below(h:Below w.heap.size w w'):Chg C w w':=⟨h.os,h.tape,h.output,h.size,fun b hb _=>h.block b hb⟩
theorem Chg.alloc(h:Chg C w w')(o:Obj):Chg C w (w'.alloc o):=h.trans (Chg.of_below (zr.alloc zl o))
theorem Chg.drew(h:Chg C w w'):Chg C w w'.drew:=h.trans (Chg.of_below zr.drew)
theorem Chg.setCell(h:Chg C w w'){p:Addr}(hp:C p.block\/w.heap.size<=p.block)(v:Value):Chg C w (w'.setCell p v) :=
 have hs:Below p.block w' (w'.setCell p v):=zr.setCell zl v
 ⟨hs.os.trans h.os,hs.tape.trans h.tape,hs.output.trans h.output,Nat.le_trans h.size hs.size,fun b hb hc=>by
  rw[Below.heap_setCell _ _ _ _ (by rintro rfl;rcases hp with hp|hp;exact hc hp;omega)];exact h.block b hb hc⟩
theorem Chg.below{B:Nat}(h:Chg C w w')(hB:B<=w.heap.size)(hC:∀b,C b->B<=b):Below B w w' :=
 ⟨h.os,h.tape,h.output,h.size,fun b hb=>h.block b (by omega) fun hc=>by have:=hC b hc;omega⟩
theorem Chg.putObj(w:World)(l:Nat)(o:Obj):Chg (· = l) w (w.putObj l o) :=
 ⟨rfl,rfl,rfl,by simp[World.putObj],fun b _ hc=>World.putObj_heap_other hc⟩
theorem Chg.keep{b:Nat}{o:Obj}(h:Chg C w w')(hb:w.heap[b]?=some o)(hc:¬ C b):w'.heap[b]?=some o :=
 (h.block b (Array.getElem?_eq_some_iff.1 hb).1 hc).trans hb
theorem Chg.row{row:Option Nat}(h:w.grownBy w' row):Chg (fun b=>row=some b) w w':=⟨h.os,h.tape,h.output,h.size,fun b hb hc=>h.block b hb fun e=>hc e.symm⟩
end
def lsF(n:Nat)(l0:Array Bool)(d:Nat->Bool):Array Bool:=((List.range n).map fun i=>l0.getD i true||d i).toArray
theorem zpL{n:Nat}{l0:Array Bool}{d:Nat->Bool}{i:Nat}(h:i<n)(b:Bool):(lsF n l0 d).getD i b=(l0.getD i true||d i):=by simp[lsF,Array.getD,h]
theorem zyv{n:Nat}{l0:Array Bool}{d:Nat->Bool}{i:Nat}(h:¬ i<n)(b:Bool):(lsF n l0 d).getD i b=b:=by simp[lsF,Array.getD,h]
theorem zyu{n:Nat}{l0:Array Bool}{d:Nat->Bool}{i:Nat}:(lsF n l0 d).setIfInBounds i true=lsF n l0 (fun j=>j==i||d j):=by
 unfold lsF;apply Array.ext
 ·simp
 ·intro j h1 h2;have hj:j<n:=by simpa using h2
  rw[Array.getElem_setIfInBounds (by simpa using hj)];by_cases e:i=j
  ·subst e;simp
  ·have e':(j==i)=false:=by simpa using fun h:j=i=>e h.symm
   simp[e,e']
def dsF(ops:Array Oper)(i:Nat):Option Tmp:=(ops[i]?).bind fun o=>o.dst
def putF(ops:Array Oper)(vs:Nat->Value):List Nat->Act->Act
 | [],a=>a
 | i::T,a=>putF ops vs T (a.put (dsF ops i) (vs i))
theorem zyl(a:Act)(s:Option Tmp)(v x:Value):(a.put s v).put s x=a.put s x:=by
 cases s with
 | none=>rfl
 | some d=>simp[Act.put]
theorem zqr{ops:Array Oper}{vs:Nat->Value}{s:Option Tmp}{x:Value}:∀ {T:List Nat} {a:Act},s ∉ T.map (dsF ops)->(putF ops vs T a).put s x=putF ops vs T (a.put s x)
 | [],_,_=>rfl
 | i::T,a,h=>by
  rw[putF,putF,zqr (T:=T) fun hm=>h (List.mem_cons_of_mem _ hm),Act.put_comm a (vs i) x fun d e1 e2=>h (by rw[List.map_cons,e1,e2];exact List.mem_cons_self ..)]
theorem zoZ{ops:Array Oper}{vs vs':Nat->Value}:∀ {T:List Nat} {a:Act},(∀i∈T,vs i=vs' i)->putF ops vs T a=putF ops vs' T a
 | [],_,_=>rfl
 | i::T,a,h=>by rw[putF,putF,h i (List.mem_cons_self ..),zoZ fun j hj=>h j (List.mem_cons_of_mem _ hj)]
theorem zrW{ops:Array Oper}{vs:Nat->Value}{i:Nat}{x:Value}:∀ {T:List Nat} {a:Act},(T.map (dsF ops)).Nodup->i∈T->(putF ops vs T a).put (dsF ops i) x=putF ops (fun j=>if j=i then x else vs j) T a
 | k::T,a,hn,hi=>by
  rw[List.map_cons,List.nodup_cons]at hn;rw[putF,putF];by_cases e:i=k
  ·subst e;rw[zqr hn.1,zyl,if_pos rfl];refine zoZ fun j hj=>?_;rw[if_neg fun e=>hn.1 (by rw[<-e];exact List.mem_map_of_mem hj)]
  ·have hi2:i∈T:=by
    rcases List.mem_cons.1 hi with h|h
    ·exact absurd h e
    ·exact h
   rw[zrW hn.2 hi2,if_neg fun h=>e h.symm]
theorem zr9{f:Nat->Option Tmp}:∀ {T:List Nat},(T.map f).Nodup->T.Nodup
 | [],_=>List.nodup_nil
 | i::T,h=>by
  rw[List.map_cons,List.nodup_cons]at h;exact List.nodup_cons.2 ⟨fun hm=>h.1 (List.mem_map_of_mem hm),zr9 h.2⟩
theorem zsg{p:Nat->Prop}:∀N,(∃i,i<N/\p i)->∃i,p i/\∀j,j<i->¬ p j
 | 0,⟨i,h,_⟩=>absurd h (Nat.not_lt_zero i)
 | N+1,⟨i,hi,hp⟩=>by
  by_cases h:∃i,i<N/\p i
  ·exact zsg N h
  ·exact⟨i,hp,fun j hj hpj=>h ⟨j,by omega,hpj⟩⟩
section
variable {P:Program} {md:Region.Mode} {ops:Array Oper} {Q:Exit->Act->World->Prop} {S1 S2:World->Prop} {k:Nat}
def tskF(md:Region.Mode)(ops:Array Oper)(T:List Nat)(z n:Nat)(dep:Nat->List Nat)(l0:Array Bool):Bool :=
 decide (ops.size=n)&&(T.all fun i=>decide (i<n) && !(l0.getD i true)&&((dep i).all fun d=>zob md ops i d&&T.contains d)&&match ops[i]? with
  | some o=>o.after.all fun e => !(Region.binds md e)||(l0.getD e.on false||T.contains e.on)&&decide (e.on<i)
  | none=>false)&&(List.range n).all fun i=>l0.getD i true||T.contains i||decide (z<=i)&&T.all fun j=>zob md ops i j
def conF(T:List Nat)(dep con:Nat->List Nat):Bool:=T.all fun i=>(con i).all fun d=>(dep i).contains d&&T.all fun j=>j==i || !((dep j).contains d)
theorem ztq{T:List Nat}{z n:Nat}(N0:Nat)(ob:Nat->Value->Option Nat)(dep con:Nat->List Nat)(fz:Nat)(l0:Array Bool)(a0:Act)(Inv:World->Prop)(Fact:Nat->Value->List Value->World->Prop)
  (hds:(T.map (dsF ops)).Nodup)(htk:tskF md ops T z n dep l0=true)(hcn:conF T dep con=true)
  (hN:∀w,Inv w->N0<=w.heap.size)(hS:∀w,Inv w->S1 w/\S2 w)
  (hInv:∀w w' C,Inv w->Chg C w w'->(∀b,C b->N0<=b/\∃i,con i≠[])->Inv w')
  (hF:∀i v ds w w' C,Fact i v ds w->Chg C w w'->(∀b,C b->N0<=b/\∃i,con i≠[])->(∀b,ob i v=some b->¬ C b)->Fact i v ds w')
  (hstep:∀i∈T,∀(oi:Oper),ops[i]?=some oi->∀(vs:Nat->Value) (K:Act->World->Prop) (w:World),Inv w->(∀d∈dep i,Fact d (vs d) ((dep d).map vs) w)->Shut (∀x w',Chg (fun b=>∃d∈con i,ob d (vs d)=some b) w w'->(∀b,ob i x=some b->(w.heap.size<=b\/∃d∈con i,ob d (vs d)=some b)/\b<w'.heap.size)->Fact i x ((dep i).map vs) w'->K ((putF ops vs T a0).put oi.dst x) w') ->
   if Region.wanted oi (yielded ops (putF ops vs T a0).tmps)=true then Oper.wp P oi (putF ops vs T a0) w K Q else K ((putF ops vs T a0).put oi.dst undef) w)
  (hfin:∀(vs:Nat->Value) (w:World),Inv w->(∀i∈T,(∀j∈T,i ∉ con j)->Fact i (vs i) ((dep i).map vs) w)->(∀i j,i∈T->j∈T->i≠j->(∀q∈T,i ∉ con q/\j ∉ con q)->∀b,ob i (vs i)=some b->ob j (vs j)=some b->False)->wpG P md ops Q S1 S2 k fz (lsF n l0 fun i=>T.contains i) (putF ops vs T a0) w) :
  ∀w vs,Inv w->wpG P md ops Q S1 S2 k (T.length+fz) (lsF n l0 fun _=>false) (putF ops vs T a0) w:=by
 unfold tskF at htk;simp only[Bool.and_eq_true,List.all_eq_true,decide_eq_true_eq,Bool.not_eq_true',beq_eq_false_iff_ne,ne_eq,Bool.or_eq_true,List.contains_iff_mem,beq_iff_eq,List.mem_range]at htk;obtain⟨⟨hn,hT⟩,hcov⟩:=htk;have sV:∀i∈T,∀d∈con i,d∈dep i/\∀j∈T,j≠i->d ∉ dep j:=by
  intro i hi d hd;unfold conF at hcn;simp only[List.all_eq_true,Bool.and_eq_true,Bool.or_eq_true,beq_iff_eq,Bool.not_eq_true',List.contains_iff_mem]at hcn;obtain⟨h1,h2⟩:=hcn i hi d hd;refine⟨h1,fun j hj hji hdj=>?_⟩;rcases h2 j hj with h|h
  ·exact hji h
  ·rw[<-Bool.not_eq_true,List.contains_iff_mem]at h;exact h hdj
 have key:∀(m:Nat) (done:Nat->Bool) (vs:Nat->Value) (w:World),Inv w->(∀i,done i=true->i∈T)->(∀i∈T,done i=true->(∀j,done j=true->i ∉ con j)->Fact i (vs i) ((dep i).map vs) w)->(∀i∈T,done i=true->∀d∈dep i,done d=true)->(∀i,done i=true->∀b,ob i (vs i)=some b->N0<=b/\b<w.heap.size)->(∀i j,done i=true->done j=true->i≠j->(∀q,done q=true->i ∉ con q/\j ∉ con q)->∀b,ob i (vs i)=some b->ob j (vs j)=some b->False)->(T.filter fun i => !done i).length=m ->
   wpG P md ops Q S1 S2 k (m+fz) (lsF n l0 done) (putF ops vs T a0) w:=by
  intro m
  induction m with
  | zero =>
   intro done vs w hI h1 h2 h3 h4 h5 hm;have hall:∀i∈T,done i=true:=fun i hi=>by
    have:=List.filter_eq_nil_iff.1 (List.eq_nil_of_length_eq_zero hm) i hi;simpa using this
   have he:done=fun i=>T.contains i:=by
    funext i
    cases hd:done i with
    | true=>simp[h1 i hd]
    | false =>
     cases hc:T.contains i with
     | false=>rfl
     | true=>rw[hall i (by simpa using hc)]at hd;cases hd
   rw[he,Nat.zero_add];exact hfin vs w hI (fun i hi hu=>h2 i hi (hall i hi) fun j hj=>hu j (h1 j hj)) fun i j hi hj hij hu=>h5 i j (hall i hi) (hall j hj) hij fun q hq=>hu q (h1 q hq)
  | succ m ih =>
   intro done vs w hI h1 h2 h3 h4 h5 hm;have hex:∃i,i<n/\(i∈T/\done i=false):=by
    cases hl:T.filter fun i => !done i with
    | nil=>rw[hl]at hm;simp at hm
    | cons i r =>
     have hi:i∈T.filter fun i => !done i:=by rw[hl];exact List.mem_cons_self ..
     have:=List.mem_filter.1 hi;exact⟨i,(hT i this.1).1.1.1,this.1,by simpa using this.2⟩
   obtain⟨i0,⟨hi0,hd0⟩,hmin⟩:=zsg n hex;have hr0:i0∈Region.ready md ops (lsF n l0 done):=by
    obtain⟨⟨⟨q1,q2⟩,q3⟩,q6⟩:=hT i0 hi0;refine mem_ready.2 ⟨by rw[zpL q1,q2,hd0];rfl,?_⟩
    cases ho:ops[i0]? with
    | none=>rw[ho]at q6;cases q6
    | some o =>
     rw[ho]at q6;refine⟨o,rfl,fun e he hb=>?_⟩;have:=Array.all_eq_true_iff_forall_mem.1 q6 e he;simp only[Bool.or_eq_true,Bool.and_eq_true,Bool.not_eq_true',List.contains_iff_mem,decide_eq_true_eq]at this;rcases this with h|⟨h,hlt⟩
     ·rw[hb]at h;cases h
     ·have hon:e.on<n:=by omega
      rw[zpL hon];rcases h with h|h
      ·have:l0.getD e.on true=true:=by
        unfold Array.getD at h ⊢
        split at h
        ·rename_i hh;rw[dif_pos hh];exact h
        ·cases h
       rw[this];rfl
      ·have hde:done e.on=true:=by
        cases hd:done e.on with
        | true=>rfl
        | false=>exact absurd ⟨h,hd⟩ (hmin e.on hlt)
       rw[hde];simp
   rw[show m+1+fz=(m+fz)+1 by omega];refine⟨fun h0=>(by rw[h0]at hr0;cases hr0),fun q hq=>?_⟩;obtain⟨hun,oq,hoq,hall⟩:=mem_ready.1 hq;have hqn:q<n:=by
    by_cases h:q<n
    ·exact h
    ·rw[zyv h]at hun;cases hun
   rw[zpL hqn]at hun;simp only[Bool.or_eq_false_iff]at hun;have hlst:∀d∈T,zob md ops q d=true->done d=true:=fun d hd hw=>by
    obtain⟨o,ho,e,he,hb,rfl⟩:=zqa hw;rw[hoq]at ho;injection ho with ho;subst ho;have:=hall e he hb;obtain⟨⟨⟨q1,q2⟩,-⟩,-⟩:=hT _ hd;rw[zpL q1,q2]at this;simpa using this
   have qM:q∈T:=by
    rcases hcov q hqn with(h|h)|h
    ·rw[hun.1]at h;cases h
    ·exact h
    ·exfalso
     have:=hlst i0 hi0 (h.2 i0 hi0);rw[hd0]at this;cases this
   have qP:∀d∈dep q,done d=true:=fun d hd=>by
    have:=(hT q qM).1.2 d hd;exact hlst d this.2 this.1
   have hne:∀j,done j=true->j≠q:=fun j hj e=>by rw[e,hun.2]at hj;cases hj
   have hfree:∀d∈dep q,∀j,done j=true->d ∉ con j:=fun d hd j hj hc=>(sV j (h1 j hj) d hc).2 q qM (fun e=>hne j hj e.symm) hd;refine wpOp_step hoq fun K' hK=>hstep q qM oq hoq vs K' w hI (fun d hd=>h2 d (h1 d (qP d hd)) (qP d hd) (hfree d hd)) ?_;intro x w' hb gy hFx;have AP:∀b,(∃d∈con q,ob d (vs d)=some b)->N0<=b/\∃i,con i≠[]:=fun b ⟨d,hd,uZ⟩=>⟨(h4 d (qP d (sV q qM d hd).1) b uZ).1,q,fun e=>by rw[e]at hd;cases hd⟩
   have hI':=hInv _ _ _ hI hb AP;refine hK _ _ ⟨⟨(hS _ hI').1,fun _=>(hS _ hI').2⟩,?_⟩;have hdst:oq.dst=dsF ops q:=by unfold dsF;rw[hoq];rfl
   have hmap:∀j,(∀d∈dep j,done d=true)->(dep j).map (fun i=>if i=q then x else vs i)=(dep j).map vs:=fun j hj=>List.map_congr_left fun d hd=>if_neg fun e=>by rw[e]at hd;have:=hj q hd;rw[hun.2]at this;cases this
   have hapart:∀j,done j=true->(∀p,(p==q||done p)=true->j ∉ con p)->∀b,ob j (vs j)=some b->¬ ∃d∈con q,ob d (vs d)=some b:=fun j hj hu b hjb ⟨d,hd,uZ⟩=>by
    have hdd:=(sV q qM d hd).1;refine h5 d j (qP d hdd) hj (fun e=>hu q (by simp) (by rw[<-e];exact hd)) (fun p hp=>⟨hfree d hdd p hp,hu p (by simp[hp])⟩) b uZ hjb
   rw[zyu,hdst,zrW hds qM];refine ih (fun j=>j==q||done j) _ w' hI' (fun j hj=>?_) (fun j hj hd hu=>?_) (fun j hj hd d hdd=>?_) (fun j hd b hb2=>?_) (fun i j hdi hdj hij hu b hbi hbj=>?_) ?_
   ·simp only[Bool.or_eq_true,beq_iff_eq]at hj;rcases hj with rfl|hj
    ·exact qM
    ·exact h1 j hj
   ·simp only[Bool.or_eq_true,beq_iff_eq]at hd;by_cases e:j=q
    ·subst e;rw[if_pos rfl,hmap j qP];exact hFx
    ·have hd:done j=true:=hd.resolve_left e;rw[if_neg e,hmap j (h3 j hj hd)];exact hF _ _ _ _ _ _ (h2 j hj hd fun p hp=>hu p (by simp[hp])) hb AP (hapart j hd hu)
   ·simp only[Bool.or_eq_true,beq_iff_eq]at hd ⊢;by_cases e:j=q
    ·subst e;exact .inr (qP d hdd)
    ·exact .inr (h3 j hj (hd.resolve_left e) d hdd)
   ·simp only[Bool.or_eq_true,beq_iff_eq]at hd;by_cases e:j=q
    ·rw[if_pos e]at hb2;rw[e]at hb2;refine⟨?_,(gy b hb2).2⟩;rcases(gy b hb2).1 with h|h
     ·exact Nat.le_trans (hN _ hI) h
     ·exact(AP b h).1
    ·rw[if_neg e]at hb2;have:=h4 j (hd.resolve_left e) b hb2;exact⟨this.1,Nat.lt_of_lt_of_le this.2 hb.size⟩
   ·simp only[Bool.or_eq_true,beq_iff_eq]at hdi hdj;have go:∀j,j≠q->done j=true->(∀p,(p==q||done p)=true->j ∉ con p)->ob q x=some b->ob j (vs j)=some b->False:=fun j hjq hdj hu hbq hbj=>by
     rcases(gy b hbq).1 with h|h
     ·have:=(h4 j hdj b hbj).2;omega
     ·exact hapart j hdj hu b hbj h
    by_cases ei:i=q
    ·have ej:¬ j=q:=fun h=>hij (ei.trans h.symm);rw[if_pos ei,ei]at hbi;rw[if_neg ej]at hbj;exact go j ej (hdj.resolve_left ej) (fun p hp=>(hu p hp).2) hbi hbj
    ·by_cases ej:j=q
     ·rw[if_neg ei]at hbi;rw[if_pos ej,ej]at hbj;exact go i ei (hdi.resolve_left ei) (fun p hp=>(hu p hp).1) hbj hbi
     ·rw[if_neg ei]at hbi;rw[if_neg ej]at hbj;exact h5 i j (hdi.resolve_left ei) (hdj.resolve_left ej) hij (fun p hp=>hu p (by simp[hp])) b hbi hbj
   ·have hnd:T.Nodup:=zr9 hds;have hcnt:∀L:List Nat,L.Nodup->q∈L->(L.filter fun j => !(j==q||done j)).length+1=(L.filter fun j => !done j).length:=by
     intro L
     induction L with
     | nil=>intro _ h;cases h
     | cons y L ihL =>
      intro hn hq;rw[List.nodup_cons]at hn;rw[List.filter_cons,List.filter_cons];by_cases e:y=q
      ·subst e;have hsame:(L.filter fun j => !(j==y||done j))=L.filter fun j => !done j:=List.filter_congr fun j hj=>by
        have:¬ j=y:=fun e=>hn.1 (e▸hj);simp[this]
       rw[if_neg (by simp),if_pos (by simp[hun.2]),hsame,List.length_cons]
      ·have hq2:q∈L:=by
        rcases List.mem_cons.1 hq with h|h
        ·exact absurd h.symm e
        ·exact h
       have:=ihL hn.2 hq2;have e2:(y==q)=false:=by simpa using e
       cases hy:done y
       ·rw[if_pos (by simp[e2,hy]),if_pos (by simp[hy]),List.length_cons,List.length_cons,this]
       ·rw[if_neg (by simp[e2,hy]),if_neg (by simp[hy]),this]
    have:=hcnt T hnd qM;omega
 intro w vs hI;have h0:=key T.length (fun _=>false) vs w hI (fun i h=>by cases h) (fun i _ h=>by cases h) (fun i _ h=>by cases h) (fun i h=>by cases h) (fun i j h=>by cases h) (by simp);exact h0
def putP(vs:Nat->Value):List (Nat×Nat)->Act->Act
 | [],a=>a
 | (i,d)::T,a=>putP vs T (a.put (some d) (vs i))
def dstP(ops:Array Oper):List (Nat×Nat)->Bool
 | []=>true
 | (i,d)::T=>(match ops[i]? with|some o=>o.dst==some d|none=>false)&&dstP ops T
theorem zrX{vs:Nat->Value}:∀ {T:List (Nat×Nat)} {a:Act},dstP ops T=true->putF ops vs (T.map (·.1)) a=putP vs T a
 | [],_,_=>rfl
 | (i,d)::T,a,h=>by
  simp only[dstP,Bool.and_eq_true]at h;have e:dsF ops i=some d:=by
   unfold dsF
   cases ho:ops[i]? with
   | none=>rw[ho]at h;cases h.1
   | some o=>rw[ho]at h;simpa using h.1
  rw[List.map_cons,putF,putP,e,zrX h.2]
theorem zoa{T:List (Nat×Nat)}{z n f:Nat}{L:Array Bool}{a0:Act}(N0:Nat)(ob:Nat->Value->Option Nat)(dep con:Nat->List Nat)(fz:Nat)(Inv:World->Prop)(Fact:Nat->Value->List Value->World->Prop)
  (hf:f=T.length+fz)(hL:lsF n L (fun _=>false)=L)(hA:putP (fun _=>undef) T a0=a0)
  (hds:(T.map (·.2)).Nodup)(hdp:dstP ops T=true)(htk:tskF md ops (T.map (·.1)) z n dep L=true)(hcn:conF (T.map (·.1)) dep con=true)
  (hN:∀w,Inv w->N0<=w.heap.size)(hS:∀w,Inv w->S1 w/\S2 w)
  (hInv:∀w w' C,Inv w->Chg C w w'->(∀b,C b->N0<=b/\∃i,con i≠[])->Inv w')
  (hF:∀i v ds w w' C,Fact i v ds w->Chg C w w'->(∀b,C b->N0<=b/\∃i,con i≠[])->(∀b,ob i v=some b->¬ C b)->Fact i v ds w')
  (hstep:∀q∈T,∀(oi:Oper),ops[q.1]?=some oi->∀(vs:Nat->Value) (K:Act->World->Prop) (w:World),Inv w->(∀d∈dep q.1,Fact d (vs d) ((dep d).map vs) w)->Shut (∀x w',Chg (fun b=>∃d∈con q.1,ob d (vs d)=some b) w w'->(∀b,ob q.1 x=some b->(w.heap.size<=b\/∃d∈con q.1,ob d (vs d)=some b)/\b<w'.heap.size)->Fact q.1 x ((dep q.1).map vs) w'->K ((putP vs T a0).put oi.dst x) w') ->
   if Region.wanted oi (yielded ops (putP vs T a0).tmps)=true then Oper.wp P oi (putP vs T a0) w K Q else K ((putP vs T a0).put oi.dst undef) w)
  (hfin:∀(vs:Nat->Value) (w:World),Inv w->(∀q∈T,(∀j∈T,q.1 ∉ con j.1)->Fact q.1 (vs q.1) ((dep q.1).map vs) w)->(∀i j,i∈T.map (·.1)->j∈T.map (·.1)->i≠j->(∀q∈T.map (·.1),i ∉ con q/\j ∉ con q)->∀b,ob i (vs i)=some b->ob j (vs j)=some b->False)->wpG P md ops Q S1 S2 k fz (lsF n L fun i=>(T.map (·.1)).contains i) (putP vs T a0) w) :
  ∀w,Inv w->wpG P md ops Q S1 S2 k f L a0 w:=by
 have hdn:((T.map (·.1)).map (dsF ops)).Nodup:=by
  have:∀L:List (Nat×Nat),dstP ops L=true->(L.map (·.1)).map (dsF ops)=(L.map (·.2)).map some:=by
   intro L
   induction L with
   | nil=>intro _;rfl
   | cons q L ih =>
    intro h;obtain⟨i,d⟩:=q;simp only[dstP,Bool.and_eq_true]at h;have e:dsF ops i=some d:=by
     unfold dsF
     cases ho:ops[i]? with
     | none=>rw[ho]at h;cases h.1
     | some o=>rw[ho]at h;simpa using h.1
    simp only[List.map_cons,e,ih h.2]
  rw[this T hdp];exact List.Pairwise.map some (fun a b h e=>h (by injection e)) hds
 intro w hI;have h:=ztq (P:=P) (md:=md) (Q:=Q) (S1:=S1) (S2:=S2) (k:=k) N0 ob dep con fz L a0 Inv Fact hdn htk hcn hN hS hInv hF (fun i hi oi hoi vs K w hI hd hK=>by
  obtain⟨q,hq,rfl⟩:=List.mem_map.1 hi;rw[zrX hdp]at hK ⊢;exact hstep q hq oi hoi vs K w hI hd hK) (fun vs w hI hF hO=>by
  rw[zrX hdp];exact hfin vs w hI (fun q hq hu=>hF q.1 (List.mem_map_of_mem hq) fun j hj=>by
   obtain⟨j2,hj2,rfl⟩:=List.mem_map.1 hj;exact hu j2 hj2) hO) w (fun _=>undef) hI
 rw[zrX hdp,List.length_map,hL,hA]at h;rw[hf];exact h
theorem zoQ{T:List (Nat×Nat)}{z n f:Nat}{L:Array Bool}{a0:Act}(ob:Nat->Value->Option Nat)(dep:Nat->List Nat)(fz:Nat)(Inv:World->Prop)(Fact:Nat->Value->List Value->World->Prop)
  (hf:f=T.length+fz)(hL:lsF n L (fun _=>false)=L)(hA:putP (fun _=>undef) T a0=a0)
  (hds:(T.map (·.2)).Nodup)(hdp:dstP ops T=true)(htk:tskF md ops (T.map (·.1)) z n dep L=true)
  (hS:∀w,Inv w->S1 w/\S2 w)(hInv:∀w w',Inv w->Below w.heap.size w w'->Inv w')(hF:∀i v ds w w',Fact i v ds w->Below w.heap.size w w'->Fact i v ds w')
  (hstep:∀q∈T,∀(oi:Oper),ops[q.1]?=some oi->∀(vs:Nat->Value) (K:Act->World->Prop) (w:World),Inv w->(∀d∈dep q.1,Fact d (vs d) ((dep d).map vs) w)->Shut (∀x w',Below w.heap.size w w'->(∀b,ob q.1 x=some b->w.heap.size<=b/\b<w'.heap.size)->Fact q.1 x ((dep q.1).map vs) w'->K ((putP vs T a0).put oi.dst x) w') ->
   if Region.wanted oi (yielded ops (putP vs T a0).tmps)=true then Oper.wp P oi (putP vs T a0) w K Q else K ((putP vs T a0).put oi.dst undef) w)
  (hfin:∀(vs:Nat->Value) (w:World),Inv w->(∀q∈T,Fact q.1 (vs q.1) ((dep q.1).map vs) w)->(∀i j,i∈T.map (·.1)->j∈T.map (·.1)->i≠j->∀b,ob i (vs i)=some b->ob j (vs j)=some b->False)->wpG P md ops Q S1 S2 k fz (lsF n L fun i=>(T.map (·.1)).contains i) (putP vs T a0) w) :
  ∀w,Inv w->wpG P md ops Q S1 S2 k f L a0 w:=by
 have hB:∀(w w':World) (C:Nat->Prop),Chg C w w'->(∀b,C b->0<=b/\∃i:Nat,(fun _=>[]:Nat->List Nat) i≠[])->Below w.heap.size w w':=fun w w' C h hC=>⟨h.os,h.tape,h.output,h.size,fun b hb=>h.block b hb fun hc=>by
  obtain⟨-,i,hi⟩:=hC b hc;exact hi rfl⟩
 refine zoa (N0:=0) ob dep (fun _=>[]) fz Inv Fact hf hL hA hds hdp htk (by simp[conF]) (fun _ _=>Nat.zero_le _) hS (fun w w' C hI h hC=>hInv _ _ hI (hB w w' C h hC)) (fun i v ds w w' C hx h hC _=>hF _ _ _ _ _ hx (hB w w' C h hC)) (fun q hq oi hoi vs K w hI hd hK=>hstep q hq oi hoi vs K w hI hd fun x w' hb gy hx=>hK x w' (Chg.of_below hb) (fun b hb=>⟨.inl (gy b hb).1,(gy b hb).2⟩) hx) fun vs w hI hF hO=>hfin vs w hI (fun q hq=>hF q hq fun j _=>by simp) fun i j hi hj hij=>hO i j hi hj hij fun q _=>by simp
theorem zoR{T:List (Nat×Nat)}{z n f:Nat}{L:Array Bool}{a0:Act}(dep:Nat->List Nat)(fz:Nat)(Inv:World->Prop)(Fact:Nat->Value->List Value->World->Prop)
  (hf:f=T.length+fz)(hL:lsF n L (fun _=>false)=L)(hA:putP (fun _=>undef) T a0=a0)
  (hds:(T.map (·.2)).Nodup)(hdp:dstP ops T=true)(htk:tskF md ops (T.map (·.1)) z n dep L=true)
  (hS:∀w,Inv w->S1 w/\S2 w)(hInv:∀w w',Inv w->Below w.heap.size w w'->Inv w')(hF:∀i v ds w w',Fact i v ds w->Below w.heap.size w w'->Fact i v ds w')
  (hstep:∀q∈T,∀(oi:Oper),ops[q.1]?=some oi->∀(vs:Nat->Value) (K:Act->World->Prop) (w:World),Inv w->(∀d∈dep q.1,Fact d (vs d) ((dep d).map vs) w)->Shut (∀x w',Below w.heap.size w w'->Fact q.1 x ((dep q.1).map vs) w'->K ((putP vs T a0).put oi.dst x) w') ->
   if Region.wanted oi (yielded ops (putP vs T a0).tmps)=true then Oper.wp P oi (putP vs T a0) w K Q else K ((putP vs T a0).put oi.dst undef) w)
  (hfin:∀(vs:Nat->Value) (w:World),Inv w->(∀q∈T,Fact q.1 (vs q.1) ((dep q.1).map vs) w)->wpG P md ops Q S1 S2 k fz (lsF n L fun i=>(T.map (·.1)).contains i) (putP vs T a0) w) :
  ∀w,Inv w->wpG P md ops Q S1 S2 k f L a0 w :=
 zoQ (fun _ _=>none) dep fz Inv Fact hf hL hA hds hdp htk hS hInv hF (fun q hq oi hoi vs K w hI hd hK=>hstep q hq oi hoi vs K w hI hd fun x w' hb hx=>hK x w' hb (fun b h=>by cases h) hx) fun vs w hI hF _=>hfin vs w hI hF
theorem opF{oi:Oper}{i:Nat}(h:ops[i]?=some oi){α:Type}(f:Oper->α){x:α}(hx:(ops[i]?).map f=some x):f oi=x:=by rw[h]at hx;exact Option.some.inj hx
theorem zk6{oi:Oper}{i:Nat}{a:Act}{w:World}{K:Act->World->Prop}{F:Prop}(hoi:ops[i]?=some oi)(x:Operand)(xs:List Operand)(ats:Array TypeId)(hg:(ops[i]?).map (fun o=>o.guard)=some none)
  (ho:(ops[i]?).map (fun o=>o.op)=some (.call { callee:=.value x,args:=xs.toArray,argTypes:=ats }))(f:FuncId)(fn:Func)(hf:IsFn P f fn)(cap:Array Value)(hv:a.eval x=.func (.func f) #[] cap)(l:List Value)(hargs:xs.map a.eval=l)(R:Value->World->Prop)
  (hc:Calls P f (l.toArray++cap) w fun e w'=>∃v,e=.returned v/\R v w')(h:∀v w',R v w'->K (a.put oi.dst v) w') :
  if Region.wanted oi (yielded ops a.tmps)=true then Oper.wp P oi a w K Q else F :=
 zk5 (opF hoi (fun o=>o.guard) hg) x xs ats (opF hoi (fun o=>o.op) ho) f fn hf cap hv l hargs R hc h
end
end
section
open Go.RowKit
section
variable {w w':World} {base:Nat} {E:TypeId} {S S':Nat->Prop} {v:Value} {ts:List T}
end
theorem zlD(W:World)(E:TypeId)(l:List Value):∀j u,l[j]?=some u->(W.alloc (.cells l.toArray E)).cell? ((⟨W.heap.size,0,none⟩:Addr).add j)=some u:=by
 intro j u hj;have hh:(W.alloc (.cells l.toArray E)).heap[W.heap.size]?=some (.cells l.toArray E (0,0)):=heap_alloc_new W _;have ha:(⟨W.heap.size,0,none⟩:Addr).add j=⟨W.heap.size,j,none⟩:=by unfold Addr.add;split<;>simp_all
 rw[ha];simp only[World.cell?,hh];simpa using hj
theorem zwh{a w:World}{g:Nat}(h:a.grownBy w (some g)){p:Addr}(hp:p.block=g)(u:Value):a.grownBy (w.setCell p u) (some g) :=
 ⟨h.os,h.tape,h.output,by simpa[World.setCell]using h.size,fun i hi hne=>(Below.heap_setCell w p u i (by rintro rfl;exact hne (by rw[hp]))).trans (h.block i hi hne)⟩
theorem zm7(w:World)(row:Option Nat):w.grownBy w row:=⟨rfl,rfl,rfl,zl,fun _ _ _=>rfl⟩
theorem zll{P:Program}(t e:TypeId)(i:TypeInfo)(z:Value)(ht:P.underlying t=some (.slice e))(hi:P.info? e=some i)(hz:i.zero=some z)
  (kl kc:IntKind)(n c:Nat)(hnc:n<=c)(hbytes:i.bytes*c<=281474976710656)(h63:c<=9223372036854775807)(w:World) :
  (Instr.makeSlice t (.int kl (n:Int)) (.int kc (c:Int))).run P w=.ok (.slice (some ⟨w.heap.size,0,none⟩) n c) (w.alloc (.cells (madeCells z.cells (c*i.size)) e)):=by
 have hb:(i.bytes:Int)*(c:Int)<=281474976710656:=by
  have h:((i.bytes*c:Nat):Int)<=281474976710656:=by omega
  rwa[Int.natCast_mul]at h
 have hr:=run_make (P:=P) w t e i z ht hi hz kl kc n c (by omega) (by omega) hb (by omega);simp only[Int.toNat_natCast]at hr;exact hr
abbrev zeroCells:Array Value := #[.int .u8 0,.int .i64 0,.string ⟨#[]⟩,.slice none 0 0]
theorem zlN{P:Program}(w:World){K:TypeId}(hK:P.underlying K=some .string)(em:Bool)(s:ByteArray):(Instr.checkKey em 10000 K (.string s)).run P w=.ok () w:=by
 rw[show(10000:Nat)=9999+1 from rfl];unfold Instr.checkKey;simp only[Sem.run_bind,run_underlying hK,Result.andThen_ok];rfl
theorem zlY{P:Program}(w:World){K:TypeId}(hK:P.underlying K=some .string)(s:ByteArray)(es:List MapEntry)(r:Option (Nat×Value))(hr:Instr.findNow .string (.string s) es 0=some r):(Instr.findKey K (.string s) es).run P w=.ok r w:=by
 unfold Instr.findKey;simp only[Sem.run_bind,run_underlying hK,Result.andThen_ok,hr];rfl
theorem zkh{P:Program}(w:World){t K E:TypeId}(ht:P.underlying t=some (.map K E))(hK:P.underlying K=some .string)(es:Array MapEntry)(cl:Nat)(k:ByteArray)(v:Value)
  (hnew:Instr.findNow .string (.string k) es.toList 0=some none) :
  (Instr.mapUpdate t (.map (some w.heap.size)) (.string k) v).run P (w.alloc (.map es cl))=.ok () (w.alloc (.map (es.push { key:=.string k,val:=v,born:=cl }) (cl+1))):=by
 have hg:(w.alloc (.map es cl)).heap[w.heap.size]?=some (.map es cl):=heap_alloc_new w _;unfold Instr.mapUpdate;simp only[Sem.run_bind,run_underlying ht,Result.andThen_ok,MapKept.run_getObj_map hg,zlN _ hK,zlY _ hK _ _ _ hnew];simp only[setObj,Sem.run,hg];have e:(w.heap.push (.map es cl)).setIfInBounds w.heap.size (.map (es.push { key:=.string k,val:=v,born:=cl }) (cl+1))=w.heap.push (.map (es.push { key:=.string k,val:=v,born:=cl }) (cl+1)):=by
  apply Array.ext_getElem?;intro i;simp only[Array.getElem?_setIfInBounds,Array.getElem?_push,Array.size_push]
  split
  ·subst_vars;simp
  ·rename_i h;rw[if_neg (by omega),if_neg (by omega)]
 show Result.ok () _=Result.ok () _
 congr 1
 show World.mk _ _ _ _ _=World.mk _ _ _ _ _
 congr 1
theorem zoI{P:Program}(w:World){t K E:TypeId}(ht:P.underlying t=some (.map K E))(hK:P.underlying K=some .string)(es:Array MapEntry)(cl:Nat)(s:ByteArray)(z:Value)
  (r:Option (Nat×Value))(hz:∀w,(zeroValue E).run P w=.ok z w)(hr:Instr.findNow .string (.string s) es.toList 0=some r) :
  (Instr.lookup t (.map (some w.heap.size)) (.string s) false).run P (w.alloc (.map es cl))=.ok ((r.map (·.2)).getD z) (w.alloc (.map es cl)):=by
 have hg:(w.alloc (.map es cl)).heap[w.heap.size]?=some (.map es cl):=heap_alloc_new w _;unfold Instr.lookup
 cases r<;>simp[run_underlying ht,MapKept.run_getObj_map hg,zlN _ hK,zlY _ hK _ _ _ hr,hz]
def kws:List ByteArray:=[⟨#[105,110,116]⟩,⟨#[97,114,114,97,121]⟩,⟨#[115,116,97,99,107]⟩,⟨#[112,114,111,99]⟩,⟨#[109,97,105,110]⟩,⟨#[112,117,115,104]⟩,⟨#[112,111,112]⟩,⟨#[114,101,97,100]⟩,⟨#[117,110,114,101,97,100]⟩,⟨#[119,114,105,116,101]⟩,⟨#[117,110,119,114,105,116,101]⟩,⟨#[99,97,108,108]⟩,⟨#[117,110,99,97,108,108]⟩,⟨#[105,102]⟩,⟨#[101,108,115,101]⟩,⟨#[102,105]⟩,⟨#[102,114,111,109]⟩,⟨#[108,111,111,112]⟩,⟨#[117,110,116,105,108]⟩,⟨#[108,111,99,97,108]⟩,⟨#[100,101,108,111,99,97,108]⟩,⟨#[116,111,112]⟩,⟨#[115,105,122,101]⟩]
def kwB(s:ByteArray):Bool:=kws.any fun k=>s.toList==k.toList
def kwE(l:List ByteArray)(i:Nat):List MapEntry:=match l with|[]=>[]|k::r=>{ key:=.string k,val:=.bool true,born:=i }::kwE r (i+1)
def kwEs(n:Nat):Array MapEntry:=(kwE (kws.take n) 0).toArray
theorem zoA(s:ByteArray):∀(l:List ByteArray) (i j:Nat),∃r,Instr.findNow .string (.string s) (kwE l i) j=some r/\(r.map (·.2)).getD (.bool false)=.bool (l.any fun k=>s.toList==k.toList)
 | [],i,j=>⟨none,rfl,by simp⟩
 | k::l,i,j=>by
  by_cases h:(s==k)=true
  ·refine⟨some (j,.bool true),?_,by rw[zxU]at h;simp[h]⟩;simp[kwE,Instr.findNow,Instr.sameNow,h]
  ·have h':(s==k)=false:=by simpa using h
   obtain⟨r,h1,h2⟩:=zoA s l (i+1) (j+1);refine⟨r,?_,by rw[zxU]at h';simp[h',h2]⟩;simp[kwE,Instr.findNow,Instr.sameNow,h',h1]
theorem kwS0(w:World):(Instr.mapUpdate 204 (.map (some w.heap.size)) (.string ⟨#[105,110,116]⟩) (.bool true)).run prog (w.alloc (.map #[] 0))=.ok () (w.alloc (.map (kwEs 1) 1)) :=
 zkh w underlying204 underlying9 #[] 0 _ _ (by kernel_rfl)
theorem kwS1(w:World):(Instr.mapUpdate 204 (.map (some w.heap.size)) (.string ⟨#[97,114,114,97,121]⟩) (.bool true)).run prog (w.alloc (.map (kwEs 1) 1))=.ok () (w.alloc (.map (kwEs 2) 2)) :=
 zkh w underlying204 underlying9 (kwEs 1) 1 _ _ (by kernel_rfl)
theorem kwS2(w:World):(Instr.mapUpdate 204 (.map (some w.heap.size)) (.string ⟨#[115,116,97,99,107]⟩) (.bool true)).run prog (w.alloc (.map (kwEs 2) 2))=.ok () (w.alloc (.map (kwEs 3) 3)) :=
 zkh w underlying204 underlying9 (kwEs 2) 2 _ _ (by kernel_rfl)
theorem kwS3(w:World):(Instr.mapUpdate 204 (.map (some w.heap.size)) (.string ⟨#[112,114,111,99]⟩) (.bool true)).run prog (w.alloc (.map (kwEs 3) 3))=.ok () (w.alloc (.map (kwEs 4) 4)) :=
 zkh w underlying204 underlying9 (kwEs 3) 3 _ _ (by kernel_rfl)
theorem kwS4(w:World):(Instr.mapUpdate 204 (.map (some w.heap.size)) (.string ⟨#[109,97,105,110]⟩) (.bool true)).run prog (w.alloc (.map (kwEs 4) 4))=.ok () (w.alloc (.map (kwEs 5) 5)) :=
 zkh w underlying204 underlying9 (kwEs 4) 4 _ _ (by kernel_rfl)
theorem kwS5(w:World):(Instr.mapUpdate 204 (.map (some w.heap.size)) (.string ⟨#[112,117,115,104]⟩) (.bool true)).run prog (w.alloc (.map (kwEs 5) 5))=.ok () (w.alloc (.map (kwEs 6) 6)) :=
 zkh w underlying204 underlying9 (kwEs 5) 5 _ _ (by kernel_rfl)
theorem kwS6(w:World):(Instr.mapUpdate 204 (.map (some w.heap.size)) (.string ⟨#[112,111,112]⟩) (.bool true)).run prog (w.alloc (.map (kwEs 6) 6))=.ok () (w.alloc (.map (kwEs 7) 7)) :=
 zkh w underlying204 underlying9 (kwEs 6) 6 _ _ (by kernel_rfl)
theorem kwS7(w:World):(Instr.mapUpdate 204 (.map (some w.heap.size)) (.string ⟨#[114,101,97,100]⟩) (.bool true)).run prog (w.alloc (.map (kwEs 7) 7))=.ok () (w.alloc (.map (kwEs 8) 8)) :=
 zkh w underlying204 underlying9 (kwEs 7) 7 _ _ (by kernel_rfl)
theorem kwS8(w:World):(Instr.mapUpdate 204 (.map (some w.heap.size)) (.string ⟨#[117,110,114,101,97,100]⟩) (.bool true)).run prog (w.alloc (.map (kwEs 8) 8))=.ok () (w.alloc (.map (kwEs 9) 9)) :=
 zkh w underlying204 underlying9 (kwEs 8) 8 _ _ (by kernel_rfl)
theorem kwS9(w:World):(Instr.mapUpdate 204 (.map (some w.heap.size)) (.string ⟨#[119,114,105,116,101]⟩) (.bool true)).run prog (w.alloc (.map (kwEs 9) 9))=.ok () (w.alloc (.map (kwEs 10) 10)) :=
 zkh w underlying204 underlying9 (kwEs 9) 9 _ _ (by kernel_rfl)
theorem zKz(w:World):(Instr.mapUpdate 204 (.map (some w.heap.size)) (.string ⟨#[117,110,119,114,105,116,101]⟩) (.bool true)).run prog (w.alloc (.map (kwEs 10) 10))=.ok () (w.alloc (.map (kwEs 11) 11)) :=
 zkh w underlying204 underlying9 (kwEs 10) 10 _ _ (by kernel_rfl)
theorem zKy(w:World):(Instr.mapUpdate 204 (.map (some w.heap.size)) (.string ⟨#[99,97,108,108]⟩) (.bool true)).run prog (w.alloc (.map (kwEs 11) 11))=.ok () (w.alloc (.map (kwEs 12) 12)) :=
 zkh w underlying204 underlying9 (kwEs 11) 11 _ _ (by kernel_rfl)
theorem zKx(w:World):(Instr.mapUpdate 204 (.map (some w.heap.size)) (.string ⟨#[117,110,99,97,108,108]⟩) (.bool true)).run prog (w.alloc (.map (kwEs 12) 12))=.ok () (w.alloc (.map (kwEs 13) 13)) :=
 zkh w underlying204 underlying9 (kwEs 12) 12 _ _ (by kernel_rfl)
theorem zKw(w:World):(Instr.mapUpdate 204 (.map (some w.heap.size)) (.string ⟨#[105,102]⟩) (.bool true)).run prog (w.alloc (.map (kwEs 13) 13))=.ok () (w.alloc (.map (kwEs 14) 14)) :=
 zkh w underlying204 underlying9 (kwEs 13) 13 _ _ (by kernel_rfl)
theorem zKv(w:World):(Instr.mapUpdate 204 (.map (some w.heap.size)) (.string ⟨#[101,108,115,101]⟩) (.bool true)).run prog (w.alloc (.map (kwEs 14) 14))=.ok () (w.alloc (.map (kwEs 15) 15)) :=
 zkh w underlying204 underlying9 (kwEs 14) 14 _ _ (by kernel_rfl)
theorem zKu(w:World):(Instr.mapUpdate 204 (.map (some w.heap.size)) (.string ⟨#[102,105]⟩) (.bool true)).run prog (w.alloc (.map (kwEs 15) 15))=.ok () (w.alloc (.map (kwEs 16) 16)) :=
 zkh w underlying204 underlying9 (kwEs 15) 15 _ _ (by kernel_rfl)
theorem zKt(w:World):(Instr.mapUpdate 204 (.map (some w.heap.size)) (.string ⟨#[102,114,111,109]⟩) (.bool true)).run prog (w.alloc (.map (kwEs 16) 16))=.ok () (w.alloc (.map (kwEs 17) 17)) :=
 zkh w underlying204 underlying9 (kwEs 16) 16 _ _ (by kernel_rfl)
theorem zKs(w:World):(Instr.mapUpdate 204 (.map (some w.heap.size)) (.string ⟨#[108,111,111,112]⟩) (.bool true)).run prog (w.alloc (.map (kwEs 17) 17))=.ok () (w.alloc (.map (kwEs 18) 18)) :=
 zkh w underlying204 underlying9 (kwEs 17) 17 _ _ (by kernel_rfl)
theorem zKr(w:World):(Instr.mapUpdate 204 (.map (some w.heap.size)) (.string ⟨#[117,110,116,105,108]⟩) (.bool true)).run prog (w.alloc (.map (kwEs 18) 18))=.ok () (w.alloc (.map (kwEs 19) 19)) :=
 zkh w underlying204 underlying9 (kwEs 18) 18 _ _ (by kernel_rfl)
theorem zKq(w:World):(Instr.mapUpdate 204 (.map (some w.heap.size)) (.string ⟨#[108,111,99,97,108]⟩) (.bool true)).run prog (w.alloc (.map (kwEs 19) 19))=.ok () (w.alloc (.map (kwEs 20) 20)) :=
 zkh w underlying204 underlying9 (kwEs 19) 19 _ _ (by kernel_rfl)
theorem zKp(w:World):(Instr.mapUpdate 204 (.map (some w.heap.size)) (.string ⟨#[100,101,108,111,99,97,108]⟩) (.bool true)).run prog (w.alloc (.map (kwEs 20) 20))=.ok () (w.alloc (.map (kwEs 21) 21)) :=
 zkh w underlying204 underlying9 (kwEs 20) 20 _ _ (by kernel_rfl)
theorem zKo(w:World):(Instr.mapUpdate 204 (.map (some w.heap.size)) (.string ⟨#[116,111,112]⟩) (.bool true)).run prog (w.alloc (.map (kwEs 21) 21))=.ok () (w.alloc (.map (kwEs 22) 22)) :=
 zkh w underlying204 underlying9 (kwEs 21) 21 _ _ (by kernel_rfl)
theorem zKn(w:World):(Instr.mapUpdate 204 (.map (some w.heap.size)) (.string ⟨#[115,105,122,101]⟩) (.bool true)).run prog (w.alloc (.map (kwEs 22) 22))=.ok () (w.alloc (.map (kwEs 23) 23)) :=
 zkh w underlying204 underlying9 (kwEs 22) 22 _ _ (by kernel_rfl)
theorem zzC(s:ByteArray)(w:World):(Instr.lookup 204 (.map (some w.heap.size)) (.string s) false).run prog (w.alloc (.map (kwEs 23) 23))=.ok (.bool (kwB s)) (w.alloc (.map (kwEs 23) 23)):=by
 obtain⟨r,h1,h2⟩:=zoA s kws 0 0;have h:=zoI (P:=prog) w underlying204 underlying9 (kwEs 23) 23 s (.bool false) r (fun _=>by kernel_rfl) (by rw[<-h1];rfl);rw[h,h2];rfl
theorem zrz(s:ByteArray)(w:World)(hs:s.size<=65536):Calls prog 107 #[.string s] w fun e w'=>e=.returned (.bool (decide (2<=s.size)&&decide (s.size<=7)&&kwB s))/\Below w.heap.size w w':=by
 by_cases h:2<=s.size/\s.size<=7
 ·obtain⟨h1,h2⟩:=h;have hmm:=@run_makeMap prog;have k0:=kwS0;have k1:=kwS1;have k2:=kwS2;have k3:=kwS3;have k4:=kwS4;have k5:=kwS5;have k6:=kwS6;have k7:=kwS7;have k8:=kwS8;have k9:=kwS9;have k10:=zKz;have k11:=zKy;have k12:=zKx;have k13:=zKw;have k14:=zKv;have k15:=zKu;have k16:=zKt;have k17:=zKs;have k18:=zKr;have k19:=zKq;have k20:=zKp;have k21:=zKo;have k22:=zKn;have kl:=zzC s;go_enter func107,ntmps107;go_wp2;go_ret;exact⟨by simp[h1,h2],zr.alloc zl _⟩
 ·by_cases h1:2<=s.size
  ·have h2:7<s.size:=by omega
   clear h;go_enter func107,ntmps107;go_wp2;go_ret;exact⟨by simp[show ¬ s.size<=7 by omega],zr⟩
  ·have h3:s.size<2:=by omega
   clear h;go_enter func107,ntmps107;go_wp2;go_ret;exact⟨by simp[show ¬ 2<=s.size by omega],zr⟩
def letB(c:Int):Bool:=decide (97<=c)&&decide (c<=122)
def digB(c:Int):Bool:=decide (48<=c)&&decide (c<=57)
def aluB(c:Int):Bool:=letB c||digB c
def blkB(c:Int):Bool:=c==32||c==9||c==13||c==10
theorem zmJ(c:Int)(w:World):Calls prog 140 #[.int .u8 c] w fun e w'=>e=.returned (.bool (letB c))/\w=w':=by
 go_enter func140,ntmps140;go_wp2
 all_goals (go_ret;exact⟨by simp[letB, *]<;>omega,rfl⟩)
theorem zng(c:Int)(w:World):Calls prog 143 #[.int .u8 c] w fun e w'=>e=.returned (.bool (digB c))/\w=w':=by
 go_enter func143,ntmps143;go_wp2
 all_goals (go_ret;exact⟨by simp[digB, *]<;>omega,rfl⟩)
theorem zqN(c:Int)(w:World):Calls prog 144 #[.int .u8 c] w fun e w'=>e=.returned (.bool (blkB c))/\w=w':=by
 go_enter func144,ntmps144;go_wp2
 all_goals (go_ret;exact⟨by simp[blkB, *],rfl⟩)
theorem zs2(c:Int)(w:World):Calls prog 142 #[.int .u8 c] w fun e w'=>e=.returned (.bool (aluB c))/\w=w':=by
 go_enter func142,ntmps142;by_cases h:letB c=true
 ·go_wp2_with (first|(go_at_call 140;refine(zmJ _ _).mono ?_;rintro e w' ⟨rfl,rfl⟩)|(go_at_call 143;refine(zng _ _).mono ?_;rintro e w' ⟨rfl,rfl⟩))
  go_ret;exact⟨by simp[aluB,h],rfl⟩
 ·have h':letB c=false:=by simpa using h
  clear h;go_wp2_with (first|(go_at_call 140;refine(zmJ _ _).mono ?_;rintro e w' ⟨rfl,rfl⟩)|(go_at_call 143;refine(zng _ _).mono ?_;rintro e w' ⟨rfl,rfl⟩))
  go_ret;exact⟨by simp[aluB,h'],rfl⟩
theorem zs1(c:Int)(w:World):Calls prog 145 #[.int .u8 c] w fun e w'=>e=.returned (.bool (c != 10))/\w=w':=by
 go_enter func145,ntmps145;go_wp2
 all_goals (go_ret;exact⟨rfl,rfl⟩)
def zq4(p:Int->Bool)(l:List UInt8):Nat:=(l.takeWhile fun c=>p c.toNat).length
theorem zmS{α:Type}(p:α->Bool):∀(l:List α) (j:Nat) (h:j<l.length),(∀c∈l.take j,p c=true)->p l[j]=false->(l.takeWhile p).length=j
 | [],j,h,_,_=>by simp at h
 | x::l,0,_,_,h2=>by simp at h2;simp[List.takeWhile,h2]
 | x::l,j+1,h,h1,h2=>by
  have hx:p x=true:=h1 x (by simp);have:=zmS p l j (by simpa using h) (fun c hc=>h1 c (by simp[hc])) (by simpa using h2);simp[List.takeWhile,hx,this]
theorem zm2{α:Type}(p:α->Bool):∀(l:List α),(∀c∈l,p c=true)->(l.takeWhile p).length=l.length
 | [],_=>rfl
 | x::l,h=>by
  have hx:p x=true:=h x (by simp);have:=zm2 p l (fun c hc=>h c (by simp[hc]));simp[List.takeWhile,hx,this]
theorem zlT(s:ByteArray):s.toList.length=s.size:=by rw[Go.ByteArray.toList_eq];rfl
theorem zzY(s:ByteArray)(j:Nat)(h:j<s.size):s.toList[j]'(by rw[zlT];exact h)=s[j]:=by
 simp only[Go.ByteArray.toList_eq];rfl
theorem znW(f:FuncId)(fn:Func)(hfn:IsFn prog f fn)(p:Int->Bool)(hf:∀c w,Calls prog f #[.int .u8 c] w fun e w'=>e=.returned (.bool (p c))/\w=w')(s:ByteArray)(w:World)(hs:s.size<=65536) :
  Calls prog 141 #[.string s,.func (.func f) #[] #[]] w fun e w'=>e=.returned (.int .i64 (zq4 p s.toList))/\w=w':=by
 have HF:=zh hf;have hcall:=zkN hfn;clear hf hfn;go_enter func141,ntmps141;go_wp2
 go_loop [4,5,8] (fun r x i=>∃j:Nat,j<=s.size/\i=.int .i64 j/\r=.int .i64 0/\Hid (∀c∈s.toList.take j,p c.toNat=true)) (fun _ _ i=>s.size-(intOf i).toNat)
 case atStart=>exact⟨0,by omega,rfl,rfl,fun c hc=>by simp at hc⟩
 case round =>
  obtain⟨j,hj,rfl,rfl,HP⟩:=hrel;by_cases hlt:j<s.size
  ·have hg:=zh (zzY s j hlt);go_wp2_with fail;refine(HF.out _ _).mono ?_;rintro e w' ⟨rfl,rfl⟩
   cases hp:p s[j].toNat
   ·go_wp2_with fail;go_ret;exact⟨by rw[zq4,zmS _ _ j (by rw[zlT];exact hlt) HP.out (by rw[hg.out];exact hp)];rfl,rfl⟩
   ·have lM:=zh hp;go_wp2_with fail
    go_round
    case rel =>
     refine⟨j+1,by omega,by go_num,rfl,?_⟩;intro c hc;rw[List.take_succ_eq_append_getElem (by rw[zlT];exact hlt),hg.out]at hc;rcases List.mem_append.1 hc with hc|hc
     ·exact HP.out c hc
     ·rw[List.mem_singleton.1 hc];exact lM.out
    case measure=>simp[intOf];omega
  ·go_wp2_with fail;go_ret;have e:=zm2 (fun c:UInt8=>p c.toNat) s.toList (fun c hc=>HP.out c (by rw[List.take_of_length_le (by rw[zlT];omega)];exact hc));exact⟨by rw[zq4,e,zlT];rfl,rfl⟩
theorem zyL:IsFn prog 143 f143:=⟨func143,by kernel_rfl,by kernel_rfl⟩
theorem zyN:IsFn prog 144 f144:=⟨func144,by kernel_rfl,by kernel_rfl⟩
theorem zwK:IsFn prog 142 f142:=⟨func142,by kernel_rfl,by kernel_rfl⟩
theorem zwJ:IsFn prog 145 f145:=⟨func145,by kernel_rfl,by kernel_rfl⟩
theorem zyh(args:Array Value)(w:World):(callFunc 217 args).run prog w=((Extern.BytealgIndexByte.indexByte args).run prog w).andThen fun v w'=>.ok (.value v) w' :=
 run_callFunc_extern func217 (by kernel_rfl) (by kernel_rfl) (by kernel_rfl) (by kernel_rfl) args w
theorem zv5(s:ByteArray)(c:Int)(w:World):(callFunc 217 #[.string s,.int .u8 c]).run prog w=.ok (.value (.int .i64 (firstIdx s c.toNat.toUInt8))) w:=by
 rw[zyh,run_indexByte_string];rfl
theorem znq(s:ByteArray)(c:Int)(w:World):Calls prog 186 #[.string s,.int .u8 c] w fun e w'=>(∃m,e=.returned (.int .i64 m))/\w=w':=by
 have hx:=zv5;go_enter func186,ntmps186;go_wp2;go_ret;exact⟨⟨_,rfl⟩,rfl⟩
theorem zp3(s p:ByteArray)(w:World)(hs:s.size<=65536)(hp:p.size<=65536):Calls prog 185 #[.string s,.string p] w fun e w'=>(∃b,e=.returned (.bool b))/\w=w':=by
 by_cases h:p.size<=s.size
 ·go_enter func185,ntmps185;go_wp2
  all_goals (go_ret;exact⟨⟨_,rfl⟩,rfl⟩)
 ·go_enter func185,ntmps185;go_wp2
  all_goals (go_ret;exact⟨⟨_,rfl⟩,rfl⟩)
theorem zv3(s:ByteArray)(w:World)(hs:s.size<=65536)(h0:0<s.size):Calls prog 146 #[.string s] w fun e w'=>(∃m,e=.returned (.int .i64 m))/\w=w':=by
 go_enter func146,ntmps146;go_wp2_with fail;refine(zp3 _ _ _ hs (by decide)).mono ?_;rintro e w' ⟨⟨b,rfl⟩,rfl⟩
 cases b
 ·by_cases h2:s.size<2
  ·go_wp2_with (go_at_call 186;refine(znq _ _ _).mono ?_;rintro e w' ⟨⟨m,rfl⟩,rfl⟩)
   all_goals (go_ret;exact⟨⟨_,rfl⟩,rfl⟩)
  ·have h3:2<=s.size:=by omega
   clear h2;go_wp2_with (go_at_call 186;refine(znq _ _ _).mono ?_;rintro e w' ⟨⟨m,rfl⟩,rfl⟩)
   all_goals (go_ret;exact⟨⟨_,rfl⟩,rfl⟩)
 ·go_wp2_with fail;go_ret;exact⟨⟨_,rfl⟩,rfl⟩
def zzf(w:World)(e:Ending)(w':World):Prop:=(∃k m,k≠1/\e=.returned (.tuple #[.int .u8 k,.int .i64 m]))/\w=w'
theorem zpj(s:ByteArray)(w:World)(hs:s.size<=65536)(h0:0<s.size)(hl:letB s[0].toNat=true) :
  Calls prog 106 #[.string s] w fun e w'=>e=.returned (.tuple #[.int .u8 1,.int .i64 (zq4 aluB s.toList)])/\w=w':=by
 go_enter func106,ntmps106;go_wp2_with fail;refine(zmJ _ _).mono ?_;rintro e w' ⟨rfl,rfl⟩;go_wp2_with fail;refine(znW _ _ zwK aluB zs2 s _ hs).mono ?_;rintro e w' ⟨rfl,rfl⟩;go_wp2_with fail;go_ret2;exact⟨rfl,rfl⟩
theorem zrk(s:ByteArray)(w:World)(hs:s.size<=65536)(h0:0<s.size)(hl:letB s[0].toNat=false) :
  Calls prog 106 #[.string s] w (zzf w):=by
 go_enter func106,ntmps106;go_wp2_with fail;refine(zmJ _ _).mono ?_;rintro e w' ⟨rfl,rfl⟩;go_wp2_with fail;refine(zng _ _).mono ?_;rintro e w' ⟨rfl,rfl⟩
 cases hd:digB s[0].toNat
 ·go_wp2_with fail;refine(zqN _ _).mono ?_;rintro e w' ⟨rfl,rfl⟩
  cases hb:blkB s[0].toNat
  ·cases hc:((s[0].toNat:Int)==35)
   ·go_wp2_with fail;refine(zv3 s _ hs h0).mono ?_;rintro e w' ⟨⟨m,rfl⟩,rfl⟩;go_wp2_with fail;go_ret2;exact⟨⟨3,m,by decide,rfl⟩,rfl⟩
   ·go_wp2_with fail;refine(znW _ _ zwJ _ zs1 s _ hs).mono ?_;rintro e w' ⟨rfl,rfl⟩;go_wp2_with fail;go_ret2;exact⟨⟨5,_,by decide,rfl⟩,rfl⟩
  ·go_wp2_with fail;refine(znW _ _ zyN _ zqN s _ hs).mono ?_;rintro e w' ⟨rfl,rfl⟩;go_wp2_with fail;go_ret2;exact⟨⟨4,_,by decide,rfl⟩,rfl⟩
 ·go_wp2_with fail;refine(znW _ _ zyL _ zng s _ hs).mono ?_;rintro e w' ⟨rfl,rfl⟩;go_wp2_with fail;go_ret2;exact⟨⟨2,_,by decide,rfl⟩,rfl⟩
def zml(s:ByteArray):Bool:=decide (0<s.size)&&decide (s.size<=16)&&(if h:0<s.size then letB s[0].toNat else false)&&decide (zq4 aluB s.toList=s.size) && !(decide (2<=s.size)&&decide (s.size<=7)&&kwB s)
theorem zp2(s:ByteArray)(w:World):Calls prog 67 #[.string s] w fun e w'=>e=.returned (.bool (zml s))/\Below w.heap.size w w':=by
 by_cases hz:s.size=0
 ·have h1:s.toList=[]:=List.eq_nil_of_length_eq_zero (by rw[zlT];exact hz);have hfin:=zh (show zml s=false by simp[zml,hz]);clear hz;go_enter func67,ntmps67;go_wp2_with fail;go_ret;exact⟨by rw[hfin.out];rfl,zr⟩
 ·have h0:0<s.size:=by omega
  have h1:s.toList.isEmpty=false:=by
   cases hl:s.toList with
   | nil=>have:=zlT s;rw[hl]at this;simp at this;omega
   | cons _ _=>rfl
  have h1':¬ s.toList=[]:=by intro h;rw[h]at h1;cases h1
  clear hz;by_cases h16:s.size<=16
  ·cases hl:letB s[0].toNat
   ·have hfin:=zh (show zml s=false by simp[zml,h0,hl]);have HL:=zh hl;clear hl;go_enter func67,ntmps67;go_wp2_with fail;refine(zrk s _ (by omega) h0 HL.out).mono ?_;rintro e w' ⟨⟨k,m,hk,rfl⟩,rfl⟩;have hk':(k==1)=false:=by simpa using hk
    clear hk;go_wp2_with fail;go_ret;exact⟨by rw[hfin.out];rfl,zr⟩
   ·have HL:=zh hl;by_cases hsp:zq4 aluB s.toList=s.size
    ·have hfin:=zh (show zml s = !(decide (2<=s.size)&&decide (s.size<=7)&&kwB s) by simp[zml,h0,hl,h16,hsp]);have HS:=zh hsp;clear hl hsp;go_enter func67,ntmps67;go_wp2_with fail;refine(zpj s _ (by omega) h0 HL.out).mono ?_;rintro e w' ⟨rfl,rfl⟩;rw[HS.out];go_wp2_with fail;refine(zrz s _ (by omega)).mono ?_;rintro e w' ⟨rfl,hb⟩;go_wp2_with fail;go_ret;exact⟨by rw[hfin.out];simp,hb⟩
    ·have hfin:=zh (show zml s=false by simp[zml,h0,hl,h16,hsp]);clear hl;generalize hm:zq4 aluB s.toList=m at *
     have HM:=zh hm;have hm':(((m:Nat):Int)==(s.size:Int))=false:=by simp;omega
     have hm'':(m==s.size)=false:=by simpa using hsp
     clear hm hsp;go_enter func67,ntmps67;go_wp2_with fail;refine(zpj s _ (by omega) h0 HL.out).mono ?_;rintro e w' ⟨rfl,rfl⟩;rw[HM.out];go_wp2_with fail;go_ret;exact⟨by rw[hfin.out];rfl,zr⟩
  ·have hfin:=zh (show zml s=false by simp[zml,h16]);have h17:16<s.size:=by omega
   clear h16;go_enter func67,ntmps67;go_wp2_with fail;go_ret;exact⟨by rw[hfin.out];rfl,zr⟩
mutual
def size:T->Nat
 | .nd _ _ _ ks=>1+zle ks
def zle:List T->Nat
 | []=>0
 | t::ts=>size t+zle ts
end
theorem zsL(ks:List T)(i:Nat)(h:i<ks.length):zle (ks.take (i+1))=zle (ks.take i)+size ks[i]:=by
 induction ks generalizing i with
 | nil=>simp at h
 | cons t ts ih =>
  cases i with
  | zero=>simp[zle]
  | succ i=>simp[zle,ih i (by simpa using h)];omega
def zkr(n:Int)(s:ByteArray):Bool:=n==0&&s.toList.isEmpty
def zkC(n:Int)(s:ByteArray):Bool:=n==0&&zml s
def zkA(p:Nat->T->Bool):Nat->List T->Bool
 | _,[]=>true
 | i,t::ts=>p i t&&zkA p (i+1) ts
def zkG(m:Nat)(p:Nat->T->Bool)(ks:List T):Bool:=decide (ks.length=m)&&zkA p 0 ks
theorem zkH(p:Nat->T->Bool):∀(i:Nat) (ks:List T),zkA p i ks=true↔∀j (h:j<ks.length),p (i+j) ks[j]=true
 | i,[]=>by simp[zkA]
 | i,t::ts=>by
  rw[zkA,Bool.and_eq_true,zkH p (i+1) ts]
  constructor
  ·rintro⟨h1,h2⟩ j hj
   cases j with
   | zero=>simpa using h1
   | succ j=>have:=h2 j (by simpa using hj);simpa[Nat.add_assoc,Nat.add_comm 1 j]using this
  ·intro h;exact⟨h 0 (Nat.zero_lt_succ _),fun j hj=>by have:=h (j+1) (by simpa using hj);simpa[Nat.add_assoc,Nat.add_comm 1 j]using this⟩
theorem zsW{m:Nat}{p:Nat->T->Bool}{ks:List T}(hl:ks.length=m)(h:∀j (hj:j<ks.length),p j ks[j]=true):zkG m p ks=true:=by
 simp only[zkG,hl,decide_true,Bool.true_and];rw[zkH];intro j hj;simpa using h j hj
theorem zor{m:Nat}{p:Nat->T->Bool}{ks:List T}{j:Nat}(hj:j<ks.length)(h:p j ks[j]=false):zkG m p ks=false:=by
 have:zkA p 0 ks=false:=by
  rw[Bool.eq_false_iff,ne_eq,zkH];intro hh;have:=hh j hj;simp[h]at this
 simp[zkG,this]
theorem zuo{m:Nat}{p:Nat->T->Bool}{ks:List T}(hl:ks.length≠m):zkG m p ks=false:=by simp[zkG,hl]
mutual
/-- ast.IsExpr. -/
def isE:T->Bool
 | .nd k n s ks =>
  if k=1 then decide (0<=n)&&s.toList.isEmpty&&decide (ks.length=0)
  else if k=2\/k=4\/k=5 then zkC n s&&decide (ks.length=0)
  else if k=3 then zkC n s&&(decide (ks.length=1)&&isEs ks)
  else if k=6\/k=7 then zkr n s&&(decide (ks.length=1)&&isEs ks)
  else if 8<=k/\k<=23 then zkr n s&&(decide (ks.length=2)&&isEs ks)
  else false
def isEs:List T->Bool
 | []=>true
 | t::ts=>isE t&&isEs ts
end
theorem znD:∀(i:Nat) (ks:List T),isEs ks=zkA (fun _=>isE) i ks
 | _,[]=>by simp[isEs,zkA]
 | i,t::ts=>by simp[isEs,zkA,znD (i+1) ts]
def isP(t:T):Bool:=(t.k==2||t.k==3)&&isE t
def isV(t:T):Bool:=t.k==2&&isE t
mutual
/-- ast.IsStmt. -/
def isS:T->Bool
 | .nd k n s ks =>
  if k=40\/k=41\/k=42\/k=56 then zkr n s&&zkG 2 (fun i=>if i=0 then isP else isE) ks
  else if k=43 then zkr n s&&zkG 2 (fun _=>isP) ks
  else if k=44\/k=45 then zkC n s&&zkG 1 (fun _=>isP) ks
  else if k=46\/k=47\/k=48\/k=49 then zkr n s&&zkG 1 (fun _=>isP) ks
  else if k=50\/k=51 then zkC n s&&decide (ks.length<=8)&&zkA (fun _=>isV) 0 ks
  else if k=52\/k=53 then zkr n s&&(decide (ks.length=4)&&isEB 0 ks)
  else if k=54 then zkC n s&&(decide (ks.length=3)&&isEB 4 ks)
  else if k=55 then zkC n s&&(decide (ks.length=1)&&isEB 7 ks)
  else false
/-- ast.IsBlock. -/
def isB:T->Bool
 | .nd k n s ks=>decide (k=57)&&zkr n s&&isSs ks
def isSs:List T->Bool
 | []=>true
 | t::ts=>isS t&&isSs ts
/-- Children of an If or a From (from place 0),of a Local (from place 4),of a LocalStack (from place 7). -/
def isEB:Nat->List T->Bool
 | _,[]=>true
 | i,t::ts=>(if i=0\/i=3\/i=4\/i=6 then isE t else isB t)&&isEB (i+1) ts
end
theorem zpP:∀(i:Nat) (ks:List T),isSs ks=zkA (fun _=>isS) i ks
 | _,[]=>by simp[isSs,zkA]
 | i,t::ts=>by simp[isSs,zkA,zpP (i+1) ts]
def pEB(d i:Nat)(t:T):Bool:=if d+i=0\/d+i=3\/d+i=4\/d+i=6 then isE t else isB t
theorem znE(d:Nat):∀(i:Nat) (ks:List T),isEB (d+i) ks=zkA (pEB d) i ks
 | _,[]=>by simp[isEB,zkA]
 | i,t::ts=>by
  have:=znE d (i+1) ts;simp only[isEB,zkA,pEB];rw[<-this,Nat.add_assoc]
theorem zwz(t:T)(h:isE t=true):t.k<=23:=by
 cases t with
 | nd k n s ks =>
  rw[isE]at h;simp only[T.k_nd]
  repeat' split at h
  all_goals first|omega|(simp at h)
theorem zww(t:T)(h:isP t=true):t.k≠57:=by
 have:isE t=true:=by simp only[isP,Bool.and_eq_true]at h;exact h.2
 have:=zwz t this;omega
theorem zKB(t:T)(h:isV t=true):t.k≠57:=by
 have:isE t=true:=by simp only[isV,Bool.and_eq_true]at h;exact h.2
 have:=zwz t this;omega
theorem zsl(k n:Int)(s:ByteArray)(ks:List T)(h:isB (.nd k n s ks)=true):k=57/\∀t∈ks,isS t=true:=by
 rw[isB]at h;simp only[Bool.and_eq_true,decide_eq_true_eq]at h;refine⟨h.1.1,fun t ht=>?_⟩;obtain⟨q,hq,rfl⟩:=List.getElem_of_mem ht;exact(zkH _ 0 ks).1 (by rw[<-zpP];exact h.2) q hq
section
variable {w wx w':World} {E:TypeId} {k n:Int} {s:ByteArray} {A:Option Addr} {l c:Nat} {k':Int} {gm gr:Nat} {L:List T}
theorem zc{b i:Nat}{cs:Array Value}{e:TypeId}{f:Nat×Nat}{u:Value}(h:wx.heap[b]?=some (.cells cs e f))(hu:cs[i]?=some u):wx.cell? ⟨b,i,none⟩=some u:=by
 simp only[World.cell?,h];simpa using hu
theorem zf{b i:Nat}{cs:Array Value}{e:TypeId}(h:wx.heap[b]?=some (.cells cs e (0,0))):wx.frozen? ⟨b,i,none⟩=false:=by
 simp[World.frozen?,h]
theorem zkp{b:Nat}{o:Obj}(h:wx.heap[b]?=some o):b<wx.heap.size:=(Array.getElem?_eq_some_iff.1 h).1
end
structure VD where
 s:ByteArray
 k:Int
 n:Int
structure PR where
 s:ByteArray
 ps:List VD
 b:T
structure PG where
 vs:List VD
 prs:List PR
 m:T
def FldV(v:VD):Prop:=v.s.size<=maxLen/\(0<=v.k/\v.k<256)/\(-9223372036854775808<=v.n/\v.n<=9223372036854775807)
abbrev Vd3(w:World)(p:Addr)(v:VD):Prop:=w.cell? p=some (.string v.s)/\w.cell? ⟨p.block,p.off+1,none⟩=some (.int .u8 v.k)/\w.cell? ⟨p.block,p.off+2,none⟩=some (.int .i64 v.n)
def LV:Nat:=4398046511104
theorem zlc{n:Nat}(h:n<=LV):n<=4398046511104:=h
def RowV(w:World)(S:Nat->Prop)(A:Option Addr)(vs:List VD):Prop :=
 ∀i (hi:i<vs.length),∃a:Addr,A=some a/\S a.block/\Vd3 w (a.add (i*3)) vs[i]/\FldV vs[i]
abbrev Pr6(w:World)(p:Addr)(r:PR)(A1:Option Addr)(c1:Nat)(A2:Option Addr)(c2:Nat):Prop :=
 w.cell? p=some (.string r.s)/\w.cell? ⟨p.block,p.off+1,none⟩=some (.slice A1 r.ps.length c1)/\w.cell? ⟨p.block,p.off+2,none⟩=some (.int .u8 r.b.k)/\w.cell? ⟨p.block,p.off+3,none⟩=some (.int .i64 r.b.n) /\
  w.cell? ⟨p.block,p.off+4,none⟩=some (.string r.b.s)/\w.cell? ⟨p.block,p.off+5,none⟩=some (.slice A2 r.b.ks.length c2)
structure PrR(w:World)(S:Nat->Prop)(r:PR)(A1:Option Addr)(c1:Nat)(A2:Option Addr)(c2:Nat):Prop where
 name:r.s.size<=maxLen
 row:RowV w S A1 r.ps
 lp:r.ps.length<=LV
 lc:r.ps.length<=c1
 body:NV w S r.b (nv r.b.k r.b.n r.b.s A2 r.b.ks.length c2)
def RowP(w:World)(S:Nat->Prop)(A:Option Addr)(ps:List PR):Prop :=
 ∀i (hi:i<ps.length),∃(a:Addr) (A1:Option Addr) (c1:Nat) (A2:Option Addr) (c2:Nat),A=some a/\S a.block/\Pr6 w (a.add (i*6)) ps[i] A1 c1 A2 c2/\PrR w S ps[i] A1 c1 A2 c2
abbrev pv(A1:Option Addr)(l1 c1:Nat)(A2:Option Addr)(l2 c2:Nat)(k n:Int)(s:ByteArray)(A3:Option Addr)(l3 c3:Nat):Value :=
 .agg #[.slice A1 l1 c1,.slice A2 l2 c2,.int .u8 k,.int .i64 n,.string s,.slice A3 l3 c3]
structure PgR(w:World)(S:Nat->Prop)(p:PG)(A1:Option Addr)(c1:Nat)(A2:Option Addr)(c2:Nat)(A3:Option Addr)(c3:Nat):Prop where
 vars:RowV w S A1 p.vs
 lv:p.vs.length<=LV
 lvc:p.vs.length<=c1
 procs:RowP w S A2 p.prs
 lp:p.prs.length<=LV
 lpc:p.prs.length<=c2
 main:NV w S p.m (nv p.m.k p.m.n p.m.s A3 p.m.ks.length c3)
def PV(w:World)(S:Nat->Prop)(p:PG)(v:Value):Prop :=
 ∃A1 c1 A2 c2 A3 c3,v=pv A1 p.vs.length c1 A2 p.prs.length c2 p.m.k p.m.n p.m.s A3 p.m.ks.length c3/\PgR w S p A1 c1 A2 c2 A3 c3
section
variable {w w':World} {S S':Nat->Prop} {A:Option Addr}
theorem zkK{p:Addr}{u:Value}(h:w.cell? p=some u)(hk:w'.heap[p.block]?=w.heap[p.block]?):w'.cell? p=some u:=(World.cell?_of_block (a:=p) hk).trans h
theorem RowV.keep{vs:List VD}(h:RowV w S A vs)(hS:∀b,S b->b<w.heap.size->S' b)(hk:∀b,S b->b<w.heap.size->w'.heap[b]?=w.heap[b]?):RowV w' S' A vs:=fun i hi=>by
 obtain⟨a,hA,iA,⟨h0,h1,h2⟩,hf⟩:=h i hi;have hlt:a.block<w.heap.size:=by have:=World.block_lt_of_cell? w _ h0;rwa[zkz]at this
 have hb:=hk _ iA hlt;refine⟨a,hA,hS _ iA hlt,⟨zkK h0 ?_,zkK h1 ?_,zkK h2 ?_⟩,hf⟩<;>simp only[zkz]<;>exact hb
theorem PrR.keep{r:PR}{A1 A2:Option Addr}{c1 c2:Nat}(h:PrR w S r A1 c1 A2 c2)(hS:∀b,S b->b<w.heap.size->S' b)(hk:∀b,S b->b<w.heap.size->w'.heap[b]?=w.heap[b]?):PrR w' S' r A1 c1 A2 c2 :=
 ⟨h.name,h.row.keep hS hk,h.lp,h.lc,h.body.keep hS hk⟩
theorem RowP.keep{ps:List PR}(h:RowP w S A ps)(hS:∀b,S b->b<w.heap.size->S' b)(hk:∀b,S b->b<w.heap.size->w'.heap[b]?=w.heap[b]?):RowP w' S' A ps:=fun i hi=>by
 obtain⟨a,A1,c1,A2,c2,hA,iA,⟨h0,h1,h2,h3,h4,h5⟩,hr⟩:=h i hi;have hlt:a.block<w.heap.size:=by have:=World.block_lt_of_cell? w _ h0;rwa[zkz]at this
 have hb:=hk _ iA hlt;refine⟨a,A1,c1,A2,c2,hA,hS _ iA hlt,⟨zkK h0 ?_,zkK h1 ?_,zkK h2 ?_,zkK h3 ?_,zkK h4 ?_,zkK h5 ?_⟩,hr.keep hS hk⟩<;>simp only[zkz]<;>exact hb
theorem PgR.keep{p:PG}{A1 A2 A3:Option Addr}{c1 c2 c3:Nat}(h:PgR w S p A1 c1 A2 c2 A3 c3)(hS:∀b,S b->b<w.heap.size->S' b)(hk:∀b,S b->b<w.heap.size->w'.heap[b]?=w.heap[b]?):PgR w' S' p A1 c1 A2 c2 A3 c3 :=
 ⟨h.vars.keep hS hk,h.lv,h.lvc,h.procs.keep hS hk,h.lp,h.lpc,h.main.keep hS hk⟩
theorem RowV.later{vs:List VD}(h:RowV w S A vs)(hb:Below w.heap.size w w'):RowV w' S A vs:=h.keep (fun _ hb _=>hb) fun b _ hlt=>hb.block b hlt
theorem RowV.mono{vs:List VD}(h:RowV w S A vs)(hS:∀b,S b->S' b):RowV w S' A vs:=h.keep (fun b hb _=>hS b hb) fun _ _ _=>rfl
theorem RowP.later{ps:List PR}(h:RowP w S A ps)(hb:Below w.heap.size w w'):RowP w' S A ps:=h.keep (fun _ hb _=>hb) fun b _ hlt=>hb.block b hlt
theorem PgR.later{p:PG}{A1 A2 A3:Option Addr}{c1 c2 c3:Nat}(h:PgR w S p A1 c1 A2 c2 A3 c3)(hb:Below w.heap.size w w'):PgR w' S p A1 c1 A2 c2 A3 c3:=h.keep (fun _ hb _=>hb) fun b _ hlt=>hb.block b hlt
theorem PV.later{p:PG}{v:Value}(h:PV w S p v)(hb:Below w.heap.size w w'):PV w' S p v:=let ⟨A1,c1,A2,c2,A3,c3,e,h⟩:=h;⟨A1,c1,A2,c2,A3,c3,e,h.later hb⟩
theorem RowV.nd{vs:List VD}(h:RowV w S A vs){i:Nat}(hi:i<vs.length):∃(a:Addr) (v:VD),A=some a/\S a.block/\Hid (vs[i]=v)/\Vd3 w (a.add (i*3)) v/\FldV v :=
 let ⟨a,h1,h2,h3,h4⟩:=h i hi;⟨a,vs[i],h1,h2,rfl,h3,h4⟩
theorem RowP.nd{ps:List PR}(h:RowP w S A ps){i:Nat}(hi:i<ps.length):∃(a:Addr) (r:PR) (A1:Option Addr) (c1:Nat) (A2:Option Addr) (c2:Nat),A=some a/\S a.block/\Hid (ps[i]=r)/\Pr6 w (a.add (i*6)) r A1 c1 A2 c2/\PrR w S r A1 c1 A2 c2 :=
 let ⟨a,A1,c1,A2,c2,h1,h2,h3,h4⟩:=h i hi;⟨a,ps[i],A1,c1,A2,c2,h1,h2,rfl,h3,h4⟩
end
section
variable {w w':World} {base:Nat} {E:TypeId} {S S':Nat->Prop} {v:Value} {ps:List PR}
end
section
variable {w wx w':World} {EG ER:TypeId} {ob:Obj} {S:Nat->Prop} {g:Nat} {A1:Option Addr} {l1 c1:Nat} {k n:Int} {s:ByteArray} {A3:Option Addr} {l3 c3:Nat} {v v':Value} {vs:List VD} {m:T} {ps ps':List PR}
end
section
variable {w w':World} {b:Nat} {E:TypeId} {u0 u1 u2 u3 u4 u5:Value}
theorem box4(h:w.heap[b]?=some (.cells #[u0,u1,u2,u3] E (0,0))):w.cell? ⟨b,0,none⟩=some u0/\w.cell? ⟨b,1,none⟩=some u1/\w.cell? ⟨b,2,none⟩=some u2/\w.cell? ⟨b,3,none⟩=some u3 :=
 ⟨zc h rfl,zc h rfl,zc h rfl,zc h rfl⟩
theorem box6(h:w.heap[b]?=some (.cells #[u0,u1,u2,u3,u4,u5] E (0,0))):w.cell? ⟨b,0,none⟩=some u0/\w.cell? ⟨b,1,none⟩=some u1/\w.cell? ⟨b,2,none⟩=some u2/\w.cell? ⟨b,3,none⟩=some u3/\w.cell? ⟨b,4,none⟩=some u4/\w.cell? ⟨b,5,none⟩=some u5 :=
 ⟨zc h rfl,zc h rfl,zc h rfl,zc h rfl,zc h rfl,zc h rfl⟩
theorem zkc{o:Obj}(h:w.heap[b]?=some o)(hb:Below w.heap.size w w'):w'.heap[b]?=some o:=(hb.block _ (zkp h)).trans h
theorem zkf{o:Obj}(h:w.heap[b]?=some o)(o':Obj):(w.alloc o').heap[b]?=some o:=(Below.heap_alloc w o' b (zkp h)).trans h
theorem zka{w0:World}(h:Below w0.heap.size w0 w)(o:Obj):Below w0.heap.size w0 (w.alloc o):=h.alloc h.size o
theorem zkb{w0:World}(h:Below w0.heap.size w0 w)(hb:Below w.heap.size w w'):Below w0.heap.size w0 w':=h.trans (hb.mono h.size)
end
section
variable {w wx w':World} {E:TypeId} {k n:Int} {s:ByteArray} {A:Option Addr} {l c:Nat} {k' n':Int} {s':ByteArray} {S:Nat->Prop} {v v':Value} {L L':List T}
end
theorem zsH{P:Program}{ops:Array Oper}{o:Oper}{a:Act}{w:World}{K:Act->World->Prop}{Q:Exit->Act->World->Prop}{F:Prop}(hgd:o.guard=none)(x x1:Operand)(ats:Array TypeId)
  (ho:o.op=.call { callee:=.value x,args := #[x1],argTypes:=ats })(f:FuncId)(fn:Func)(hf:IsFn P f fn)(hv:a.eval x=.func (.func f) #[] #[])(v1:Value)(h1:a.eval x1=v1)(R:Value->World->Prop)
  (hc:Calls P f #[v1] w fun e w'=>∃v,e=.returned v/\R v w')(h:∀v w',R v w'->K (a.put o.dst v) w') :
  if Region.wanted o (yielded ops a.tmps)=true then Oper.wp P o a w K Q else F:=by
 have hw:Region.wanted o (yielded ops a.tmps)=true:=by simp[Region.wanted,hgd]
 rw[if_pos hw];subst h1;have e:(execOp a.eval o).run P w=.ok (.enter f #[a.eval x1]) w:=by
  unfold execOp;simp only[ho,resolve,hv,Deferred.ofValue,Sem.run_bind,Sem.run_pure,Result.andThen_ok,invoke,zkN hf,Array.empty_append,Array.append_empty,List.map_toArray,List.map_cons,List.map_nil]
 unfold Oper.wp;rw[e,Oper.upon_enter];refine hc.mono ?_;rintro e w' ⟨v,rfl,hR⟩;exact h v w' hR
theorem zkP{P:Program}{W:World}{ops:Array Oper}{o:Oper}{a:Act}{K:Act->World->Prop}{Q:Exit->Act->World->Prop}{F:Prop}(hgd:o.guard=none)(s x:Operand)(ty:TypeId)
  (ho:o.op=.call { callee:=.builtin .append,args := #[s,x],argTypes := #[ty,ty] })(base:Nat)(E:TypeId)(i:TypeInfo)(z:Value)(size bytes:Nat)(ht:P.underlying ty=some (.slice E))(hi:P.info? E=some i)(hz:i.zero=some z)
  (hsize:i.size=size)(hby:i.bytes=bytes)(hzs:z.cells.size=size)(hsz:0<size)(v:Value)(n:Nat)(xs:List Value)(hs:a.eval s=v)(hrow:W.ownsRow base E size v n xs)
  (ad:Addr)(m c:Nat)(news:List Value)(hx:a.eval x=.slice (some ad) m c)(hl:news.length=m*size)(hc:∀j u,news[j]?=some u->W.cell? (ad.add j)=some u)(h1c:∀u∈news,u.oneCell'=true)
  (b1:n+m<=maxLen)(b2:(n+m)*bytes<=140737488355328)(hb:base<=W.heap.size)
  (h:∀v' w',w'.ownsRow base E size v' (n+m) (xs++news)->W.grownBy w' v.ownBlock->(v'.ownBlock=v.ownBlock\/v'.ownBlock=some W.heap.size)->K (a.put o.dst v') w') :
  if Region.wanted o (yielded ops a.tmps)=true then Oper.wp P o a W K Q else F:=by
 have hw:Region.wanted o (yielded ops a.tmps)=true:=by simp[Region.wanted,hgd]
 rw[if_pos hw];obtain⟨v',w',hr,h2,h3,_,h5⟩:=run_append_own_at (P:=P) W base ty o.type E i z size bytes ht hi hz hsize hby hzs hsz v n xs hrow ad m c news hl hc h1c b1 b2 hb;unfold Oper.wp execOp;simp only[ho,resolve,invoke,builtin,Sem.run_bind,Sem.run_pure,Result.andThen_ok,List.map_toArray,List.map_cons,List.map_nil,hs,hx,hr];exact h v' w' h2 h3 h5
theorem zko{w w':World}{base:Nat}{E:TypeId}{size:Nat}{v:Value}{n:Nat}{xs:List Value}(h:w.ownsRow base E size v n xs)(hb:Below w.heap.size w w'):w'.ownsRow base E size v n xs:=by
 obtain⟨e1,h2⟩:=h;refine⟨e1,?_⟩;rcases h2 with h2|⟨g,cap,cur,rfl,h3,hg,h4⟩
 ·exact .inl h2
 ·exact .inr ⟨g,cap,cur,rfl,h3,(hb.block _ (zkp hg)).trans hg,h4⟩
theorem zvb(a:Addr)(i j:Nat):(a.add i).add j=a.add (i+j):=by
 by_cases hi:i=0
 ·subst hi;simp[Addr.add]
 by_cases hj:j=0
 ·subst hj;simp[Addr.add]
 simp[Addr.add,hi,hj,Nat.add_assoc]
def I64(x:Int):Prop := -9223372036854775808<=x/\x<=9223372036854775807
def RowI(w:World)(S:Nat->Prop)(A:Option Addr)(xs:List Int):Prop :=
 ∀i (hi:i<xs.length),∃a:Addr,A=some a/\S a.block/\w.cell? (a.add i)=some (.int .i64 xs[i])/\I64 xs[i]
def LI:Nat:=17592186044416
theorem zpr{n:Nat}(h:n<=LI):n<=17592186044416:=h
section
variable {w w':World} {S S':Nat->Prop} {A:Option Addr} {xs:List Int}
theorem RowI.keep(h:RowI w S A xs)(hS:∀b,S b->b<w.heap.size->S' b)(hk:∀b,S b->b<w.heap.size->w'.heap[b]?=w.heap[b]?):RowI w' S' A xs:=fun i hi=>by
 obtain⟨a,hA,iA,h0,hf⟩:=h i hi;have hlt:a.block<w.heap.size:=by have:=World.block_lt_of_cell? w _ h0;rwa[zkz]at this
 refine⟨a,hA,hS _ iA hlt,zkK h0 ?_,hf⟩;simp only[zkz];exact hk _ iA hlt
theorem RowI.later(h:RowI w S A xs)(hb:Below w.heap.size w w'):RowI w' S A xs:=h.keep (fun _ hb _=>hb) fun b _ hlt=>hb.block b hlt
theorem RowI.mono(h:RowI w S A xs)(hS:∀b,S b->S' b):RowI w S' A xs:=h.keep (fun b hb _=>hS b hb) fun _ _ _=>rfl
theorem RowI.any(h:RowI w S A xs):RowI w Any A xs:=h.mono fun _ _=>trivial
theorem RowI.fits(h:RowI w S A xs):∀x∈xs,I64 x:=fun x hx=>by
 obtain⟨i,hi,rfl⟩:=List.getElem_of_mem hx;obtain⟨_,_,_,_,h⟩:=h i hi;exact h
theorem RowI.news{a:Addr}(h:RowI w S (some a) xs):(∀(j:Nat) u,(xs.map (fun x=>Value.int .i64 x))[j]?=some u->w.cell? (a.add j)=some u)/\(∀u∈xs.map (fun x=>Value.int .i64 x),u.oneCell'=true):=by
 refine⟨fun j u hj=>?_,fun u hu=>?_⟩
 ·simp only[List.getElem?_map,Option.map_eq_some_iff]at hj;obtain⟨x,hx,rfl⟩:=hj;obtain⟨hlt,rfl⟩:=List.getElem?_eq_some_iff.1 hx;obtain⟨a',e,_,hc,_⟩:=h j hlt;injection e with e;subst e;exact hc
 ·simp only[List.mem_map]at hu;obtain⟨x,_,rfl⟩:=hu;rfl
theorem zlA{base:Nat}{E:TypeId}{v:Value}(h:w.ownsRow base E 1 v xs.length (xs.map (fun x=>Value.int .i64 x)))(hf:∀x∈xs,I64 x):∃A c,v=.slice A xs.length c/\xs.length<=c/\RowI w (fun b=>v.ownBlock=some b) A xs:=by
 rcases h.2 with⟨rfl,h0⟩|⟨g,cap,cur,rfl,hb,hg,hc,hm,hz,hx⟩
 ·exact⟨none,0,by rw[h0],by omega,fun i hi=>absurd hi (by omega)⟩
 ·refine⟨some ⟨g,0,none⟩,cap,rfl,hc,fun i hi=>?_⟩;have ha:(⟨g,0,none⟩:Addr).add i=⟨g,i,none⟩:=by unfold Addr.add;split<;>simp_all
  refine⟨⟨g,0,none⟩,rfl,rfl,?_,hf _ (List.getElem_mem hi)⟩;rw[ha];have:=h.cellAt i (by omega);rw[this];simp[hi]
end
theorem zlO:(prog.info? 3).map (fun i=>(i.zero,i.size,i.bytes))=some (some (.int .i64 0),1,8):=by kernel_rfl
theorem zy3(w:World):(Instr.buildSlice 30 0 #[]).run prog w=.ok (.slice (some ⟨w.heap.size,0,none⟩) 0 0) (w.alloc (.cells #[] 3)):=by kernel_rfl
theorem zpY(x:Int)(w:World):(Instr.buildSlice 30 1 #[(0,.int .i64 x)]).run prog w=.ok (.slice (some ⟨w.heap.size,0,none⟩) 1 1) (w.alloc (.cells #[.int .i64 x] 3)):=by kernel_rfl
theorem zzU(a:Addr)(l c:Nat)(w:World):(binOp BinOp.eql 30 (.slice (some a) l c) (.slice none 0 0)).run prog w=.ok (.bool false) w:=by kernel_rfl
theorem zyU(l c:Nat)(w:World):(binOp BinOp.eql 30 (.slice none l c) (.slice none 0 0)).run prog w=.ok (.bool true) w:=by kernel_rfl
def NewI(w:World)(xs:List Int)(e:Ending)(w':World):Prop:=∃A' c',e=.returned (.slice A' xs.length c')/\RowI w' (From w.heap.size) A' xs/\xs.length<=c'/\Below w.heap.size w w'
def OwnI(w:World)(xs:List Int)(e:Ending)(w':World):Prop:=∃v',e=.returned v'/\w'.ownsRow w.heap.size 3 1 v' xs.length (xs.map (fun x=>Value.int .i64 x))/\(∀x∈xs,I64 x)/\Below w.heap.size w w'
theorem zkO(xs:List Int)(A:Option Addr)(c:Nat)(S:Nat->Prop)(w:World)(hrow:RowI w S A xs)(hl:xs.length<=LI):Calls prog 70 #[.slice A xs.length c] w (OwnI w xs):=by
 obtain⟨i0,hi0,hz0,hz1,hz2⟩:=info_parts zlO;have hl':=zpr hl;rcases A with _|a
 ·have h0:xs=[]:=by
   cases xs with
   | nil=>rfl
   | cons v vs=>obtain⟨_,h,_⟩:=hrow 0 (by simp);cases h
  subst h0;have he:=zyU;clear hrow hl;go_enter func70,ntmps70;go_wp2_with fail;go_ret;exact⟨_,rfl,World.ownsRow_nil _ _ _ _,by simp,zr⟩
 ·obtain⟨hnc,hn1⟩:=(hrow.later ((zs w).alloc zl (.cells #[] 3))).news;have HF:=zh hrow.fits;have hown:(w.alloc (.cells #[] 3)).ownsRow w.heap.size 3 1 (.slice (some ⟨w.heap.size,0,none⟩) 0 0) 0 [] :=
   ⟨rfl,.inr ⟨w.heap.size,0,#[],rfl,zl,heap_alloc_new w _,zl,Nat.zero_le _,rfl,rfl⟩⟩
  have hnl:(xs.map (fun x=>Value.int .i64 x)).length=xs.length*1:=by simp
  have hm1:0+xs.length<=maxLen:=by unfold maxLen;omega
  have hm2:(0+xs.length)*8<=140737488355328:=by omega
  have hb0:=zy3;have he:=zzU;obtain⟨news,hnews⟩:=zX (xs.map (fun x=>Value.int .i64 x));rw[hnews]at hnc hn1 hnl;have vJ:=zh hnews;clear hrow hl hnews;go_enter func70,ntmps70;go_wp2_with (at_builtin;refine wpList_append_own_at (P:=prog) _ rfl (.tmp 5) (.tmp 6) 30 rfl w.heap.size 3 i0 _ 1 8 underlying30 hi0 hz0 hz1 hz2 rfl (by decide) (.slice (some ⟨w.heap.size,0,none⟩) 0 0) 0 [] rfl hown a xs.length c news rfl hnl hnc hn1 hm1 hm2 (by simp) ?_;intro v' w' h2 h3 h4 h5)
  have hbl:Below w.heap.size w w':=((zs w).alloc zl _).grown h3 (by simp) (fun g e=>by simp[Value.ownBlock]at e;omega);have h2':w'.ownsRow w.heap.size 3 1 v' xs.length (xs.map (fun x=>Value.int .i64 x)):=by
   have:=h2;rw[Nat.zero_add,List.nil_append,<-vJ.out]at this;exact this
  have HO:=zh h2';have HB:=zh hbl;have hsl:∃A' c',v'=.slice A' xs.length c':=by
   rcases h2'.2 with⟨rfl,h0⟩|⟨g,cap,cur,rfl,_⟩
   ·exact⟨none,0,by rw[h0]⟩
   ·exact⟨_,_,rfl⟩
  obtain⟨A',c',rfl⟩:=hsl;clear h2 h2' h3 h4 h5 hbl hnc hn1 hown;go_wp2_with fail;go_ret;exact⟨_,by simp,HO.out,HF.out,HB.out⟩
theorem ztl(xs:List Int)(A:Option Addr)(c:Nat)(S:Nat->Prop)(w:World)(hrow:RowI w S A xs)(hl:xs.length<=LI):Calls prog 70 #[.slice A xs.length c] w (NewI w xs) :=
 (zkO xs A c S w hrow hl).mono fun e w' ⟨v',he,ho,hf,hb⟩=>by
  obtain⟨A',c',rfl,hc,hr⟩:=zlA ho hf;exact⟨A',c',he,hr.mono fun b hb=>(ho.lt b hb).1,hc,hb⟩
end
section
open Go Go.RowKit
structure FR where
 vs:List VD
 cs:List Nat
 loc:Nat
structure ST where
 base:FR
 calls:List FR
 cell:Nat->List Int
 nc:Nat
 tin:List Int
 tout:List Int
def zmm(vs:List VD)(s:ByteArray):Nat->Option Nat
 | 0=>none
 | j+1=>if (vs[j]?.elim false fun v=>v.s.toList==s.toList)then some j else zmm vs s j
theorem zo9{vs:List VD}{j:Nat}(h:j<vs.length)(s:ByteArray):zmm vs s (j+1)=if vs[j].s.toList==s.toList then some j else zmm vs s j:=by simp[zmm,h]
theorem zsi{vs:List VD}{s:ByteArray}:∀ {j i:Nat},zmm vs s j=some i->i<j
 | 0,_,h=>by simp[zmm]at h
 | j+1,i,h=>by
  rw[zmm]at h
  split at h
  ·injection h with h;omega
  ·have:=zsi h;omega
def FR.at(f:FR)(s:ByteArray):Option Nat:=zmm f.vs s f.vs.length
theorem FR.at_lt{f:FR}{s:ByteArray}{i:Nat}(h:f.at s=some i):i<f.vs.length:=zsi h
def ST.cur(S:ST):FR:=S.calls.getLast?.getD S.base
def ST.num(S:ST)(s:ByteArray):Option Nat:=(S.cur.at s).bind fun i=>S.cur.cs[i]?
def ST.look(S:ST)(s:ByteArray):Option (List Int):=(S.num s).map S.cell
structure FR.WF(kd:Nat->Int×Int)(nc:Nat)(f:FR):Prop where
 len:f.cs.length=f.vs.length
 loc:f.loc<=f.vs.length
 lim:f.vs.length<=4398046511000
 fld:∀v∈f.vs,FldV v
 num:∀c∈f.cs,c<nc
 kind:∀i (h:i<f.vs.length) (h':i<f.cs.length),kd f.cs[i]=(f.vs[i].k,f.vs[i].n)
structure ST.WF(S:ST):Prop where
 ex:∃kd:Nat->Int×Int,S.base.WF kd S.nc/\(∀f∈S.calls,f.WF kd S.nc)/\∀i,i<S.nc->((kd i).1=1->(S.cell i).length=1)/\((kd i).1=2->((S.cell i).length:Int)=(kd i).2)/\((kd i).1=1\/(kd i).1=2\/(kd i).1=3)
 ncalls:S.calls.length<=100
 cells:∀i,i<S.nc->(S.cell i).length<=1000/\∀x∈S.cell i,I64 x
 tin:S.tin.length<=4096/\∀x∈S.tin,I64 x
 tout:S.tout.length<=4096/\∀x∈S.tout,I64 x
structure RowD where
 v:Value
 E:TypeId
 sz:Nat
 n:Nat
 xs:List Value
structure Rws{I:Type}(W:World)(n0:Nat)(d:I->RowD):Prop where
 row:∀i,W.ownsRow n0 (d i).E (d i).sz (d i).v (d i).n (d i).xs
 sep:∀i j b,i≠j->(d i).v.ownBlock=some b->(d j).v.ownBlock≠some b
def updR{I:Type}[DecidableEq I](d:I->RowD)(i:I)(r:RowD):I->RowD:=fun j=>if j=i then r else d j
section
variable {I:Type} [DecidableEq I] {W W':World} {n0:Nat} {d:I->RowD} {i j:I} {r:RowD}
@[simp] theorem zkt:updR d i r i=r:=by simp[updR]
theorem zkj(h:j≠i):updR d i r j=d j:=by simp[updR,h]
omit [DecidableEq I] in
theorem Rws.chg{C:Nat->Prop}(h:Rws W n0 d)(hc:Chg C W W')(hC:∀i b,(d i).v.ownBlock=some b->¬ C b):Rws W' n0 d:=by
 refine⟨fun i=>?_,h.sep⟩;obtain⟨e1,h2⟩:=h.row i;refine⟨e1,?_⟩;rcases h2 with h2|⟨g,cap,cur,hv,hb,hg,h3⟩
 ·exact .inl h2
 ·exact .inr ⟨g,cap,cur,hv,hb,hc.keep hg (hC i g (by rw[hv];rfl)),h3⟩
omit [DecidableEq I] in
theorem Rws.later(h:Rws W n0 d)(hb:Below W.heap.size W W'):Rws W' n0 d:=h.chg (C:=fun _=>False) (Chg.of_below hb) (fun _ _ _ h=>h)
omit [DecidableEq I] in
theorem Rws.lt(h:Rws W n0 d)(i:I):∀b,(d i).v.ownBlock=some b->n0<=b/\b<W.heap.size:=(h.row i).lt
theorem Rws.upd(h:Rws W n0 d)(i:I)(hc:Chg (fun b=>(d i).v.ownBlock=some b) W W')(ho:W'.ownsRow n0 r.E r.sz r.v r.n r.xs)(aj:∀b,r.v.ownBlock=some b->(d i).v.ownBlock=some b\/W.heap.size<=b):Rws W' n0 (updR d i r):=by
 have key:∀j,j≠i->∀b,(d j).v.ownBlock=some b->r.v.ownBlock≠some b:=fun j hj b hb hr=>by
  rcases aj b hr with h1|h1
  ·exact h.sep j i b hj hb h1
  ·have:=(h.lt j b hb).2;omega
 refine⟨fun j=>?_,fun j k b hjk hb=>?_⟩
 ·by_cases hj:j=i
  ·subst hj;simpa using ho
  ·rw[zkj hj];obtain⟨e1,h2⟩:=h.row j;refine⟨e1,?_⟩;rcases h2 with h2|⟨g,cap,cur,hv,hb,hg,h3⟩
   ·exact .inl h2
   ·exact .inr ⟨g,cap,cur,hv,hb,hc.keep hg (h.sep j i g hj (by rw[hv];rfl)),h3⟩
 ·by_cases hj:j=i
  ·subst hj;rw[zkj (Ne.symm hjk)];rw[zkt]at hb;exact fun hk=>key k (Ne.symm hjk) b hk hb
  ·rw[zkj hj]at hb;by_cases hk:k=i
   ·subst hk;rw[zkt];exact key j hj b hb
   ·rw[zkj hk];exact h.sep j k b hjk hb
omit [DecidableEq I] in
theorem Rws.cell(h:Rws W n0 d)(i:I){g:Nat}{u:Value}(hg:(d i).v.ownBlock=some g){o:Nat}(ho:(d i).xs[o]?=some u):W.cell? ⟨g,o,none⟩=some u:=by
 have hr:=h.row i;obtain⟨e1,h2⟩:=hr;rcases h2 with⟨h2,_⟩|⟨g',cap,cur,hv,hb,hg',hn,hm,hz,hx⟩
 ·rw[h2]at hg;simp[Value.ownBlock]at hg
 ·rw[hv]at hg;simp[Value.ownBlock]at hg;subst hg;refine zc hg' ?_;have hlt:o<(d i).xs.length:=(List.getElem?_eq_some_iff.1 ho).1;rw[<-hx]at ho;rw[List.getElem?_take_of_lt (by rw[e1]at hlt;exact hlt)]at ho;simpa using ho
omit [DecidableEq I] in
theorem Rws.frozen(h:Rws W n0 d)(i:I){g:Nat}(hg:(d i).v.ownBlock=some g)(o:Nat):W.frozen? ⟨g,o,none⟩=false:=by
 obtain⟨e1,h2⟩:=h.row i;rcases h2 with⟨h2,_⟩|⟨g',cap,cur,hv,hb,hg',_⟩
 ·rw[h2]at hg;simp[Value.ownBlock]at hg
 ·rw[hv]at hg;simp[Value.ownBlock]at hg;subst hg;exact zf hg'
theorem Rws.set(h:Rws W n0 d)(i:I){g:Nat}(hg:(d i).v.ownBlock=some g){o:Nat}(ho:o<(d i).xs.length)(u:Value) :
  Rws (W.setCell ⟨g,o,none⟩ u) n0 (updR d i { d i with xs:=(d i).xs.set o u }):=by
 have hc:Chg (fun b=>(d i).v.ownBlock=some b) W (W.setCell ⟨g,o,none⟩ u):=(Chg.refl _ _).setCell (.inl hg) u;refine h.upd i hc ?_ (fun b hb=>.inl hb);obtain⟨e1,h2⟩:=h.row i;rcases h2 with⟨h2,_⟩|⟨g',cap,cur,hv,hb,hg',hn,hm,hz,hx⟩
 ·rw[h2]at hg;simp[Value.ownBlock]at hg
 ·have hgg:g=g':=by rw[hv]at hg;simp[Value.ownBlock]at hg;exact hg.symm
  subst hgg;refine⟨by simpa using e1,.inr ⟨g,cap,cur.setIfInBounds o u,hv,hb,heap_setCell_same W g o cur _ u hg',hn,hm,by simpa using hz,?_⟩⟩;rw[Array.toList_setIfInBounds,<-hx,List.take_set]
end
inductive Res where
 | sb|tb|tin|tout|bv|bc|calls
 | fv (i:Nat)|fc (i:Nat)|cb (i:Nat)|ci (i:Nat)|x (i:Nat)
 deriving DecidableEq
structure Ph where
 sb:Nat
 tb:Nat
 vI:Value
 vO:Value
 vV:Value
 vC:Value
 vF:Value
 fV:Nat->Value
 fC:Nat->Value
 cb:Nat->Nat
 ci:Nat->Value
def zkS(vs:List VD):List Value:=vs.flatMap fun v=>[.string v.s,.int .u8 v.k,.int .i64 v.n]
def zkg(l:List Int):List Value:=l.map (Value.int .i64)
def ptrs(cb:Nat->Nat)(cs:List Nat):List Value:=cs.map fun i=>.pointer (some ⟨cb i,0,none⟩)
def zkR(P:Ph):Nat->List FR->List Value
 | _,[]=>[]
 | i,f::fs=>P.fV i::P.fC i :: .int .i64 f.loc::zkR P (i+1) fs
def nilR:RowD:=⟨.slice none 0 0,0,1,0,[]⟩
abbrev boxV(b:Nat):Value:=.slice (some ⟨b,0,none⟩) 1 1
def rows(P:Ph)(S:ST):Res->RowD
 | .sb=>⟨boxV P.sb,190,5,1,[P.vV,P.vC,.int .i64 S.base.loc,P.vF,.pointer (some ⟨P.tb,0,none⟩)]⟩
 | .tb=>⟨boxV P.tb,220,2,1,[P.vI,P.vO]⟩
 | .tin=>⟨P.vI,3,1,S.tin.length,zkg S.tin⟩
 | .tout=>⟨P.vO,3,1,S.tout.length,zkg S.tout⟩
 | .bv=>⟨P.vV,57,3,S.base.vs.length,zkS S.base.vs⟩
 | .bc=>⟨P.vC,192,1,S.base.cs.length,ptrs P.cb S.base.cs⟩
 | .calls=>⟨P.vF,187,3,S.calls.length,zkR P 0 S.calls⟩
 | .fv i=>match S.calls[i]? with
  | none=>nilR
  | some f=>⟨P.fV i,57,3,f.vs.length,zkS f.vs⟩
 | .fc i=>match S.calls[i]? with
  | none=>nilR
  | some f=>⟨P.fC i,192,1,f.cs.length,ptrs P.cb f.cs⟩
 | .cb i=>if i<S.nc then⟨boxV (P.cb i),194,1,1,[P.ci i]⟩else nilR
 | .ci i=>if i<S.nc then⟨P.ci i,3,1,(S.cell i).length,zkg (S.cell i)⟩else nilR
 | .x _=>nilR
structure SR(W:World)(n0:Nat)(P:Ph)(S:ST):Prop where
 rws:Rws W n0 (rows P S)
 wf:S.WF
theorem zox(P:Ph):∀(i:Nat) (fs:List FR),(zkR P i fs).length=fs.length*3
 | _,[]=>rfl
 | i,f::fs=>by simp[zkR,zox P (i+1) fs];omega
theorem zoy(P:Ph):∀(fs:List FR) (i j:Nat) (h:j<fs.length),(zkR P i fs)[j*3]?=some (P.fV (i+j))/\(zkR P i fs)[j*3+1]?=some (P.fC (i+j))/\(zkR P i fs)[j*3+2]?=some (.int .i64 fs[j].loc)
 | f::fs,i,0,_=>by simp[zkR]
 | f::fs,i,j+1,h=>by
  have:=zoy P fs (i+1) j (by simpa using h);rw[show(j+1)*3=j*3+1+1+1 by omega,show i+(j+1)=i+1+j by omega];simp only[zkR,List.getElem?_cons_succ,List.getElem_cons_succ];exact this
theorem zuD(vs:List VD):(zkS vs).length=vs.length*3:=by
 induction vs with
 | nil=>rfl
 | cons v vs ih=>simp[zkS]at *;omega
theorem zqA:∀(vs:List VD) (i:Nat) (h:i<vs.length),(zkS vs)[i*3]?=some (.string vs[i].s)/\(zkS vs)[i*3+1]?=some (.int .u8 vs[i].k)/\(zkS vs)[i*3+2]?=some (.int .i64 vs[i].n)
 | v::vs,0,_=>by simp[zkS]
 | v::vs,i+1,h=>by
  have:=zqA vs i (by simpa using h);rw[show(i+1)*3=i*3+1+1+1 by omega];simp only[zkS,List.flatMap_cons,List.cons_append,List.nil_append,List.getElem?_cons_succ,List.getElem_cons_succ];exact this
end
section
open Go.RowKit
def zlw:List VD->ByteArray->Option VD
 | [],_=>none
 | v::vs,s=>match zlw vs s with
  | some u=>some u
  | none=>if v.s.toList=s.toList then some v else none
theorem zs3(vs:List VD)(v:VD)(s:ByteArray):zlw (vs++[v]) s=if v.s.toList=s.toList then some v else zlw vs s:=by
 induction vs with
 | nil=>simp only[List.nil_append,zlw]
 | cons u us ih =>
  simp only[List.cons_append,zlw];rw[ih];by_cases h:v.s.toList=s.toList
  ·rw[if_pos h,if_pos h]
  ·rw[if_neg h,if_neg h]
theorem zpk{vs:List VD}{j:Nat}(h:j<vs.length)(s:ByteArray):zlw (vs.take (j+1)) s=if vs[j].s.toList=s.toList then some vs[j]else zlw (vs.take j) s:=by
 rw[List.take_succ_eq_append_getElem h,zs3]
abbrev fdV(v:Option VD):Value:=match v with
 | some v=>.tuple #[.agg #[.string v.s,.int .u8 v.k,.int .i64 v.n],.bool true]
 | none=>.tuple #[.agg #[.string ⟨#[]⟩,.int .u8 0,.int .i64 0],.bool false]
theorem zw0(w:World):(Instr.build 57 #[]).run prog w=.ok (.agg #[.string ⟨#[]⟩,.int .u8 0,.int .i64 0]) w:=by kernel_rfl
theorem zn9(vs:List VD)(A:Option Addr)(c:Nat)(s:ByteArray)(S:Nat->Prop)(w:World)(hrow:RowV w S A vs)(hl:vs.length<=LV) :
  Calls prog 110 #[.slice A vs.length c,.string s] w fun e w'=>e=.returned (fdV (zlw vs s))/\Below w.heap.size w w':=by
 have hl':=zlc hl;have af:=zh hrow;obtain⟨R,hR⟩:=zX (zlw vs s);rw[hR];have HR:=zh hR;clear hrow hl hR;have hb:=zw0;go_enter func110,ntmps110;go_wp2_with fail;have hr0:(w.alloc (.cells #[.string ⟨#[]⟩,.int .u8 0,.int .i64 0] 57)).heap[w.heap.size]?=some (.cells #[.string ⟨#[]⟩,.int .u8 0,.int .i64 0] 57 (0,0)):=heap_alloc_new w _;have hbl:Below w.heap.size w (w.alloc (.cells #[.string ⟨#[]⟩,.int .u8 0,.int .i64 0] 57)):=zr.alloc zl _;have ah:=zh hbl;clear hr0 hbl
 go_loopw [6] (fun i wr=>∃j:Nat,j<=vs.length/\i=.int .i64 ((j:Int)-1)/\wr=w.alloc (.cells #[.string ⟨#[]⟩,.int .u8 0,.int .i64 0] 57)/\Hid (zlw (vs.take j) s=R)) (fun i _=>((intOf i)+1).toNat)
 case atStart=>exact⟨vs.length,zl,by first|rfl|simp,by first|rfl|trivial,by rw[List.take_of_length_le zl];exact HR⟩
 case round =>
  obtain⟨j,hj,rfl,rfl,HJ⟩:=hrel;rcases j with _|m
  ·have e0:((0:Nat):Int)-1 = -1:=by omega
   rw[e0];have HN:=zh (show R=none by have:=HJ.out;simp[zlw]at this;exact this.symm);clear e0 HJ;go_wp2_with fail;exact bodyPost_ret (v:=fdV none) (by simp[results,results110,go_sem]) rfl ⟨by rw[HN.out],ah.out⟩
  ·rw[show((m+1:Nat):Int)-1=(m:Int) by omega];obtain⟨a,v,rfl,_,Hv,⟨q0,q1,q2⟩,hfv⟩:=(af.out.later ah.out).nd (i:=m) (by omega);have hm:m<vs.length:=by omega
   have hx:=HJ.out;rw[zpk hm,Hv.out]at hx;have HX:=zh hx;clear hx HJ;by_cases hs:v.s.toList=s.toList
   ·have HN:=zh (show R=some v by have:=HX.out;rw[if_pos hs]at this;exact this.symm);have e1:(v.s.toList==s.toList)=true:=by simpa using hs
    have nP:=zh (show Below w.heap.size w (w.alloc (.cells #[.string v.s,.int .u8 v.k,.int .i64 v.n] 57))from zr.alloc zl _);clear hs;go_wp2_with fail;exact bodyPost_ret (v:=fdV (some v)) (by simp[results,results110,go_sem]) rfl ⟨by rw[HN.out],nP.out⟩
   ·have e1:(v.s.toList==s.toList)=false:=by simpa using hs
    have HN:=zh (show zlw (vs.take m) s=R by have:=HX.out;rw[if_neg hs]at this;exact this);clear hs;go_wp2_with fail
    go_roundw
    case rel=>exact⟨m,by omega,by first|rfl|go_num,by first|rfl|trivial,HN⟩
    case measure=>simp[intOf]
end
section
open Go Go.RowKit
def numI(b:Bool):Int:=if b then 1 else 0
theorem zkF(b:Bool)(w:World):Calls prog 223 #[.bool b] w fun e w'=>e=.returned (.int .i64 (numI b))/\w'=w:=by
 cases b
 ·go_enter func223,ntmps223;go_wp2_with fail;go_ret;exact⟨rfl,rfl⟩
 ·go_enter func223,ntmps223;go_wp2_with fail;go_ret;exact⟨rfl,rfl⟩
def divE(k x y:Int):Int×Int:=if y=0 then(0,11)else if k=11 then(wrap64 (x.tdiv y),0)else(x.tmod y,0)
theorem zpo(k x y:Int)(w:World):Calls prog 224 #[.int .u8 k,.int .i64 x,.int .i64 y] w fun e w'=>e=.returned (.tuple #[.int .i64 (divE k x y).1,.int .i64 (divE k x y).2])/\w'=w:=by
 by_cases h0:y=0
 ·subst h0;rw[show divE k x 0=(0,11) by simp[divE]];go_enter func224,ntmps224;go_wp2_with fail;go_ret2;exact⟨rfl,rfl⟩
 ·by_cases hk:k=11
  ·subst hk;rw[show divE 11 x y=(wrap64 (x.tdiv y),0) by simp[divE,h0]];go_enter func224,ntmps224;go_wp2_with fail;go_ret2;exact⟨rfl,rfl⟩
  ·rw[show divE k x y=(x.tmod y,0) by simp[divE,h0,hk]];have hy:(y==0)=false:=by simpa using h0
   have hk':(k==11)=false:=by simpa using hk
   go_enter func224,ntmps224;go_wp2_with fail;go_ret2;exact⟨rfl,rfl⟩
def unE(k x:Int):Int×Int:=if k=6 then(wrap64 (-x),0)else(numI (x==0),0)
theorem zvg(k x:Int)(hk:k=6\/k=7)(w:World):Calls prog 210 #[.int .u8 k,.int .i64 x] w fun e w'=>e=.returned (.tuple #[.int .i64 (unE k x).1,.int .i64 (unE k x).2])/\w'=w:=by
 rcases hk with rfl|rfl
 ·rw[show unE 6 x=(wrap64 (-x),0) by simp[unE]];go_enter func210,ntmps210;go_wp2_with fail;go_ret2;exact⟨rfl,rfl⟩
 ·rw[show unE 7 x=(numI (x==0),0) by simp[unE]];go_enter func210,ntmps210;go_wp2_with fail;refine(zkF _ w).mono ?_;rintro e w' ⟨rfl,rfl⟩;go_wp2_with fail;go_ret2;exact⟨rfl,rfl⟩
def apE(k x y:Int):Int×Int :=
 if k=8 then(wrap64 (x+y),0)else
 if k=9 then(wrap64 (x-y),0)else
 if k=10 then(wrap64 (x*y),0)else
 if k=11 then divE 11 x y else
 if k=12 then divE 12 x y else
 if k=13 then(bits BinOp.and IntKind.i64 x y,0)else
 if k=14 then(bits BinOp.or IntKind.i64 x y,0)else
 if k=15 then(bits BinOp.xor IntKind.i64 x y,0)else
 if k=16 then(numI (x==y),0)else
 if k=17 then(numI (x != y),0)else
 if k=18 then(numI (decide (x<y)),0)else
 if k=19 then(numI (decide (x<=y)),0)else
 if k=20 then(numI (decide (y<x)),0)else
 if k=21 then(numI (decide (y<=x)),0)else
 if k=22 then(numI (x != 0&&y != 0),0)else
 if k=23 then(numI (x != 0||y != 0),0)else
 (0,0)
theorem zvI(k x y:Int)(hk:8<=k/\k<=23)(w:World):Calls prog 211 #[.int .u8 k,.int .i64 x,.int .i64 y] w fun e w'=>e=.returned (.tuple #[.int .i64 (apE k x y).1,.int .i64 (apE k x y).2])/\w'=w:=by
 have hc:k=8\/k=9\/k=10\/k=11\/k=12\/k=13\/k=14\/k=15\/k=16\/k=17\/k=18\/k=19\/k=20\/k=21\/k=22\/k=23:=by omega
 clear hk;rcases hc with rfl|rfl|rfl|rfl|rfl|rfl|rfl|rfl|rfl|rfl|rfl|rfl|rfl|rfl|rfl|rfl
 ·rw[show apE 8 x y=(wrap64 (x+y),0) by simp[apE]];go_enter func211,ntmps211;go_wp2_with fail;go_ret2;exact⟨rfl,rfl⟩
 ·rw[show apE 9 x y=(wrap64 (x-y),0) by simp[apE]];go_enter func211,ntmps211;go_wp2_with fail;go_ret2;exact⟨rfl,rfl⟩
 ·rw[show apE 10 x y=(wrap64 (x*y),0) by simp[apE]];go_enter func211,ntmps211;go_wp2_with fail;go_ret2;exact⟨rfl,rfl⟩
 ·rw[show apE 11 x y=divE 11 x y by simp[apE]];go_enter func211,ntmps211;go_wp2_with fail;refine(zpo 11 x y w).mono ?_;rintro e w' ⟨rfl,rfl⟩;go_wp2_with fail;go_ret2;exact⟨rfl,rfl⟩
 ·rw[show apE 12 x y=divE 12 x y by simp[apE]];go_enter func211,ntmps211;go_wp2_with fail;refine(zpo 12 x y w).mono ?_;rintro e w' ⟨rfl,rfl⟩;go_wp2_with fail;go_ret2;exact⟨rfl,rfl⟩
 ·rw[show apE 13 x y=(bits BinOp.and IntKind.i64 x y,0) by simp[apE]];go_enter func211,ntmps211;go_wp2_with fail;go_ret2;exact⟨rfl,rfl⟩
 ·rw[show apE 14 x y=(bits BinOp.or IntKind.i64 x y,0) by simp[apE]];go_enter func211,ntmps211;go_wp2_with fail;go_ret2;exact⟨rfl,rfl⟩
 ·rw[show apE 15 x y=(bits BinOp.xor IntKind.i64 x y,0) by simp[apE]];go_enter func211,ntmps211;go_wp2_with fail;go_ret2;exact⟨rfl,rfl⟩
 ·rw[show apE 16 x y=(numI (x==y),0) by simp[apE]];go_enter func211,ntmps211;go_wp2_with fail;refine(zkF _ w).mono ?_;rintro e w' ⟨rfl,rfl⟩;go_wp2_with fail;go_ret2;exact⟨rfl,rfl⟩
 ·rw[show apE 17 x y=(numI (x != y),0) by simp[apE]];go_enter func211,ntmps211;go_wp2_with fail;refine(zkF _ w).mono ?_;rintro e w' ⟨rfl,rfl⟩;go_wp2_with fail;go_ret2;exact⟨rfl,rfl⟩
 ·rw[show apE 18 x y=(numI (decide (x<y)),0) by simp[apE]];go_enter func211,ntmps211;go_wp2_with fail;refine(zkF _ w).mono ?_;rintro e w' ⟨rfl,rfl⟩;go_wp2_with fail;go_ret2;exact⟨rfl,rfl⟩
 ·rw[show apE 19 x y=(numI (decide (x<=y)),0) by simp[apE]];go_enter func211,ntmps211;go_wp2_with fail;refine(zkF _ w).mono ?_;rintro e w' ⟨rfl,rfl⟩;go_wp2_with fail;go_ret2;exact⟨rfl,rfl⟩
 ·rw[show apE 20 x y=(numI (decide (y<x)),0) by simp[apE]];go_enter func211,ntmps211;go_wp2_with fail;refine(zkF _ w).mono ?_;rintro e w' ⟨rfl,rfl⟩;go_wp2_with fail;go_ret2;exact⟨rfl,rfl⟩
 ·rw[show apE 21 x y=(numI (decide (y<=x)),0) by simp[apE]];go_enter func211,ntmps211;go_wp2_with fail;refine(zkF _ w).mono ?_;rintro e w' ⟨rfl,rfl⟩;go_wp2_with fail;go_ret2;exact⟨rfl,rfl⟩
 ·rw[show apE 22 x y=(numI (x != 0&&y != 0),0) by simp[apE]]
  cases hx:(x != 0)<;>cases hy:(y != 0)
  ·rw[show(false&&false)=false from rfl];go_enter func211,ntmps211;go_wp2_with fail;refine(zkF false w).mono ?_;rintro e w' ⟨rfl,rfl⟩;go_wp2_with fail;go_ret2;exact⟨rfl,rfl⟩
  ·rw[show(false&&true)=false from rfl];go_enter func211,ntmps211;go_wp2_with fail;refine(zkF false w).mono ?_;rintro e w' ⟨rfl,rfl⟩;go_wp2_with fail;go_ret2;exact⟨rfl,rfl⟩
  ·rw[show(true&&false)=false from rfl];go_enter func211,ntmps211;go_wp2_with fail;refine(zkF false w).mono ?_;rintro e w' ⟨rfl,rfl⟩;go_wp2_with fail;go_ret2;exact⟨rfl,rfl⟩
  ·rw[show(true&&true)=true from rfl];go_enter func211,ntmps211;go_wp2_with fail;refine(zkF true w).mono ?_;rintro e w' ⟨rfl,rfl⟩;go_wp2_with fail;go_ret2;exact⟨rfl,rfl⟩
 ·rw[show apE 23 x y=(numI (x != 0||y != 0),0) by simp[apE]]
  cases hx:(x != 0)<;>cases hy:(y != 0)
  ·rw[show(false||false)=false from rfl];go_enter func211,ntmps211;go_wp2_with fail;refine(zkF false w).mono ?_;rintro e w' ⟨rfl,rfl⟩;go_wp2_with fail;go_ret2;exact⟨rfl,rfl⟩
  ·rw[show(false||true)=true from rfl];go_enter func211,ntmps211;go_wp2_with fail;refine(zkF true w).mono ?_;rintro e w' ⟨rfl,rfl⟩;go_wp2_with fail;go_ret2;exact⟨rfl,rfl⟩
  ·rw[show(true||false)=true from rfl];go_enter func211,ntmps211;go_wp2_with fail;refine(zkF true w).mono ?_;rintro e w' ⟨rfl,rfl⟩;go_wp2_with fail;go_ret2;exact⟨rfl,rfl⟩
  ·rw[show(true||true)=true from rfl];go_enter func211,ntmps211;go_wp2_with fail;refine(zkF true w).mono ?_;rintro e w' ⟨rfl,rfl⟩;go_wp2_with fail;go_ret2;exact⟨rfl,rfl⟩
end
section
open Go.RowKit
theorem zly{W w1:World}(hb:Below W.heap.size W w1):(∀b o,b<W.heap.size->w1.cell? ⟨b,o,none⟩=W.cell? ⟨b,o,none⟩)/\(∀b o,b<W.heap.size->w1.frozen? ⟨b,o,none⟩=W.frozen? ⟨b,o,none⟩) :=
 ⟨fun b o h=>hb.cell (p:=⟨b,o,none⟩) h,fun b o h=>hb.frozen (p:=⟨b,o,none⟩) h⟩
theorem zkn(k n:Int)(s:ByteArray)(A:Option Addr)(l c:Nat)(w:World) :
  Calls prog 147 #[nv k n s A l c] w fun e w'=>e=.returned (.bool (zkr n s))/\Below w.heap.size w w':=by
 go_enter func147,ntmps147;go_wp2
 all_goals (go_ret;exact⟨by simp[zkr, *],zr.alloc zl _⟩)
theorem zkw(k n:Int)(s:ByteArray)(A:Option Addr)(l c:Nat)(w:World) :
  Calls prog 163 #[nv k n s A l c] w fun e w'=>e=.returned (.bool (zkC n s))/\Below w.heap.size w w':=by
 go_enter func163,ntmps163;by_cases hn:(n==0)=true
 ·go_wp2_with (go_at_call 67;refine(zp2 _ _).mono ?_;rintro e w' ⟨rfl,hb⟩)
  go_ret;exact⟨by simp[zkC,hn],(zr.alloc zl _).trans (hb.mono (by simp))⟩
 ·have hn':(n==0)=false:=by simpa using hn
  clear hn;go_wp2_with fail;go_ret;exact⟨by simp[zkC,hn'],zr.alloc zl _⟩
theorem zkM(t:T)(v:Value)(w:World)(hv:NV w Any t v)(b m:Nat)(F:Nat->FuncId)(G:Nat->Func)(p:Nat->T->Bool)(hm:m<=8)(hbl:b<w.heap.size)
  (hcell:∀i,i<m->w.cell? ⟨b,i,none⟩=some (.func (.func (F i)) #[] #[]))(hfn:∀i,i<m->IsFn prog (F i) (G i))
  (hc:t.ks.length=m->∀i (hi:i<t.ks.length) v1 w1,NV w1 Any t.ks[i] v1->Calls prog (F i) #[v1] w1 fun e w'=>e=.returned (.bool (p i t.ks[i]))/\Below w1.heap.size w1 w') :
  Calls prog 160 #[v,.slice (some ⟨b,0,none⟩) m m] w fun e w'=>e=.returned (.bool (zkG m p t.ks))/\Below w.heap.size w w':=by
 obtain⟨A,c,rfl,hf,hlk,hlc,hrow⟩:=hv.open_;have aA:=zkI hlk;have HC:=zh hc;have HCell:=zh hcell;have HFn:=zh hfn;clear hc hcell hfn hf hv hlk;generalize t.k=k,t.n=n,t.s=s,t.ks=ks at *
 by_cases hl:ks.length=m
 ·subst hl;have lT:=zh (HC.out rfl);clear HC;have hneq:((ks.length:Int) != (ks.length:Int))=false:=by simp
  go_enter func160,ntmps160;go_wp2
  go_loopw [4,5,6,15] (fun r _ _ i wr=>∃j:Nat,j<=ks.length/\i=.int .i64 j/\r=.bool false/\Hid (∀q (hq:q<ks.length),q<j->p q ks[q]=true)/\Below (w.heap.size+1) (w.alloc (.cells #[.int .u8 k,.int .i64 n,.string s,.slice A ks.length c] 41)) wr) (fun _ _ _ i _=>ks.length-(intOf i).toNat)
  case atStart=>exact⟨0,Nat.zero_le _,rfl,rfl,fun q hq h=>by omega,zr⟩
  case round =>
   obtain⟨j,hj,rfl,rfl,HP,hb⟩:=hrel;have hb0:Below w.heap.size w wr:=(zr.alloc zl _).trans (hb.mono (by omega));by_cases hlt:j<ks.length
   ·obtain⟨a,t',A',c',rfl,_,Ht,c0,c1,c2,c3,hn⟩:=(hrow.later hb0).get hlt;have hcall:=zkN (HFn.out j hlt);have hfc:wr.cell? ⟨b,j,none⟩=some (.func (.func (F j)) #[] #[]):=(hb0.cell (p:=⟨b,j,none⟩) hbl).trans (HCell.out j hlt);have hbox:wr.cell? ⟨w.heap.size,3,none⟩=some (.slice (some a) ks.length c):=(hb.cell (p:=⟨w.heap.size,3,none⟩) (Nat.lt_succ_self _)).trans (by simp);have hlt':j<8:=by omega
    have h0:=lT.out j hlt;rw[Ht.out]at h0;have H0:=zh h0;clear h0 hrow;go_wp2_with fail;refine(H0.out _ _ hn).mono ?_;rintro e w1 ⟨rfl,hb1⟩
    cases hp:p j t'
    ·go_wp2_with fail;go_ret;exact⟨by rw[zor hlt (by rw[Ht.out];exact hp)];rfl,hb0.trans (hb1.mono hb0.size)⟩
    ·have lM:=zh hp;clear hp;go_wp2_with fail
     go_roundw
     case rel =>
      refine⟨j+1,by omega,by go_num,rfl,?_,hb.trans (hb1.mono (by have:=hb.size;simpa using this))⟩;intro q hq hqj;by_cases e:q=j
      ·subst e;rw[Ht.out];exact lM.out
      ·exact HP.out q hq (by omega)
     case measure=>simp[intOf];omega
   ·have hlt':ks.length<=j:=by omega
    go_wp2_with fail;go_ret;exact⟨by rw[zsW rfl (fun q hq=>HP.out q hq (by omega))];rfl,hb0⟩
 ·have hneq:((ks.length:Int) != (m:Int))=true:=by simp;omega
  have hneq':(ks.length != m)=true:=by simpa using hl
  have HX:=zh (zuo (p:=p) hl);clear hl HC hrow;generalize ks.length=l at *
  go_enter func160,ntmps160;go_wp2;go_ret;exact⟨by rw[HX.out];rfl,zr.alloc zl _⟩
end
end Go.Proofs.YtembgnhbpmfhpaaGreat
