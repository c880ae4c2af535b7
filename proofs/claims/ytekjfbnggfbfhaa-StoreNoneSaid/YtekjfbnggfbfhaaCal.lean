/-
  A call as one step of a region that draws its order. No program stands here.
-/
import Derived.Test.YtekjfbnggfbfhaaLaws
import Derived.Test.YtekjfbnggfbfhaaTree
import Derived.BigQuiet
namespace Go.Proofs.Ytekjfbnggfbfhaa
open Go Go.RowKit

/-- A call of a function value, as one step of a region that draws its order. -/
theorem step_callv {P : Program} {ops : Array Oper} {o : Oper} {a : Act} {w : World} {K : Act → World → Prop} {Q : Exit → Act → World → Prop} {F : Prop} (hgd : o.guard = none) (x : Operand) (xs : Array Operand) (ats : Array TypeId)
    (ho : o.op = .call { callee := .value x, args := xs, argTypes := ats }) (f : FuncId) (fn : Func) (hf : IsFn P f fn) (cap : Array Value) (hv : a.eval x = .func (.func f) #[] cap) (args : Array Value) (hargs : xs.map a.eval ++ cap = args) (R : Value → World → Prop)
    (hc : Calls P f args w fun e w' => ∃ v, e = .returned v ∧ R v w') (h : ∀ v w', R v w' → K (a.put o.dst v) w') :
    if Region.wanted o (yielded ops a.tmps) = true then Oper.wp P o a w K Q else F := by
  have hw : Region.wanted o (yielded ops a.tmps) = true := by simp [Region.wanted, hgd]
  rw [if_pos hw]
  subst hargs
  have e : (execOp a.eval o).run P w = .ok (.enter f (xs.map a.eval ++ cap)) w := by
    unfold execOp
    simp only [ho, resolve, hv, Deferred.ofValue, Sem.run_bind, Sem.run_pure, Result.andThen_ok, invoke, run_callFunc hf, Array.empty_append]
  unfold Oper.wp
  rw [e, Oper.upon_enter]
  refine hc.mono ?_
  rintro e w' ⟨v, rfl, hR⟩
  exact h v w' hR
theorem step_callL {P : Program} {ops : Array Oper} {o : Oper} {a : Act} {w : World} {K : Act → World → Prop} {Q : Exit → Act → World → Prop} {F : Prop} (hgd : o.guard = none) (x : Operand) (xs : List Operand) (ats : Array TypeId)
    (ho : o.op = .call { callee := .value x, args := xs.toArray, argTypes := ats }) (f : FuncId) (fn : Func) (hf : IsFn P f fn) (hv : a.eval x = .func (.func f) #[] #[]) (l : List Value) (hargs : xs.map a.eval = l) (R : Value → World → Prop)
    (hc : Calls P f l.toArray w fun e w' => ∃ v, e = .returned v ∧ R v w') (h : ∀ v w', R v w' → K (a.put o.dst v) w') :
    if Region.wanted o (yielded ops a.tmps) = true then Oper.wp P o a w K Q else F :=
  step_callv hgd x xs.toArray ats ho f fn hf #[] hv l.toArray (by rw [List.map_toArray, hargs, Array.append_empty]) R hc h
theorem step_callC {P : Program} {ops : Array Oper} {o : Oper} {a : Act} {w : World} {K : Act → World → Prop} {Q : Exit → Act → World → Prop} {F : Prop} (hgd : o.guard = none) (x : Operand) (xs : List Operand) (ats : Array TypeId)
    (ho : o.op = .call { callee := .value x, args := xs.toArray, argTypes := ats }) (f : FuncId) (fn : Func) (hf : IsFn P f fn) (cap : Array Value) (hv : a.eval x = .func (.func f) #[] cap) (l : List Value) (hargs : xs.map a.eval = l) (R : Value → World → Prop)
    (hc : Calls P f (l.toArray ++ cap) w fun e w' => ∃ v, e = .returned v ∧ R v w') (h : ∀ v w', R v w' → K (a.put o.dst v) w') :
    if Region.wanted o (yielded ops a.tmps) = true then Oper.wp P o a w K Q else F :=
  step_callv hgd x xs.toArray ats ho f fn hf cap hv _ (by rw [List.map_toArray, hargs]) R hc h

/-- The slice address A leads to the strings ss. -/
def RowS (w : World) (A : Option Addr) (ss : List ByteArray) : Prop := ∀ i (hi : i < ss.length), ∃ a : Addr, A = some a ∧ w.cell? (a.add i) = some (.string ss[i])
theorem RowS.later {w w' : World} {A : Option Addr} {ss : List ByteArray} (h : RowS w A ss) (hb : Below w.heap.size w w') : RowS w' A ss := fun i hi =>
  let ⟨a, h1, h2⟩ := h i hi; ⟨a, h1, cell_bl hb h2⟩
theorem RowS.nd {w : World} {A : Option Addr} {ss : List ByteArray} (h : RowS w A ss) {i : Nat} (hi : i < ss.length) : ∃ (a : Addr) (s : ByteArray), A = some a ∧ Hid (ss[i] = s) ∧ w.cell? (a.add i) = some (.string s) :=
  let ⟨a, h1, h2⟩ := h i hi; ⟨a, ss[i], h1, rfl, h2⟩
/-- Draws alone. -/
theorem drewN_below {B : Nat} {w w' : World} (h : Below B w w') (n : Nat) : Below B w (w'.drewN n) := ⟨h.os, h.tape, h.output, h.size, h.block⟩

end Go.Proofs.Ytekjfbnggfbfhaa
