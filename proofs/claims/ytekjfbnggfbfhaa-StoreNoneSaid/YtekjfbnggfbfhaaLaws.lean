/-
  Laws of the walk that the kit lacks: a call through a function value that lies in a slot. No program stands here.
-/
import Derived.WalkKit
import Derived.WalkSpells
import Derived.WalkLawsBesides
import Derived.Lib.Hide
namespace Go.Proofs.Ytekjfbnggfbfhaa
open Go.RowKit

/-- Function f of P has a body (fn), and is called as any other. -/
structure IsFn (P : Program) (f : FuncId) (fn : Func) : Prop where
  at_ : P.funcs[f]? = some fn
  name : (fn.name == "runtime.NumGoroutine") = false
  body : fn.body.isNone = false

theorem run_callFunc {P : Program} {f : FuncId} {fn : Func} (h : IsFn P f fn) (args : Array Value) (w : World) : (callFunc f args).run P w = .ok (.enter f args) w := by
  have h1 := h.name
  have h2 := h.body
  unfold callFunc
  simp only [Sem.run_bind, program, Sem.run, Result.andThen_ok, h.at_, h1, h2]
  rfl

/-- A call of a function value that lies in slot t. -/
theorem wpList_call_val {P : Program} {ops : Array Oper} {rest : List Oper} {a : Act} {Q : Exit → Act → World → Prop} {w : World} (t : Tmp) {xs : Array Operand} {ats : Array TypeId} {dst : Option Tmp} {ty : TypeId} {pos : String} {after : Array Edge}
    {f : FuncId} {fn : Func} {cap : Array Value} (hf : IsFn P f fn) (hv : a.eval (.tmp t) = .func (.func f) #[] cap) {args : Array Value}
    (hargs : xs.map a.eval ++ cap = args) {R : Value → World → Prop}
    (hc : Calls P f args w fun e w' => ∃ v, e = .returned v ∧ R v w') (h : ∀ v w', R v w' → wpList P ops Q rest (a.put dst v) w') :
    wpList P ops Q ({ dst := dst, op := .call { callee := .value (.tmp t), args := xs, argTypes := ats }, type := ty, pos := pos, after := after, guard := none } :: rest) a w := by
  refine wpList_plain rfl fun K hK => ?_
  subst hargs
  have e : (execOp a.eval { dst := dst, op := .call { callee := .value (.tmp t), args := xs, argTypes := ats }, type := ty, pos := pos, after := after, guard := none }).run P w = .ok (.enter f (xs.map a.eval ++ cap)) w := by
    unfold execOp
    simp only [resolve, hv, Deferred.ofValue, Sem.run_bind, Sem.run_pure, Result.andThen_ok, invoke, run_callFunc hf, Array.empty_append]
  unfold Oper.wp
  rw [e, Oper.upon_enter]
  refine hc.mono ?_
  rintro e w' ⟨v, rfl, hR⟩
  exact hK _ _ (h v w' hR)

end Go.Proofs.Ytekjfbnggfbfhaa
