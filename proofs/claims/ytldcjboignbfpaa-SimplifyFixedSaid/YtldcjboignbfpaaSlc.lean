/-
  Reslicing a row of nodes.
-/
import Derived.Test.YtldcjboignbfpaaPot
import Derived.KernelRfl
namespace Go.Proofs.Ytldcjboignbfpaa
open Go.RowKit

theorem buildZ (w : World) : (Instr.buildSlice 22 0 #[]).run Try.prog w = .ok (.slice (some ⟨w.heap.size, 0, none⟩) 0 0) (w.alloc (.cells #[] 24)) := by kernel_rfl

theorem Src.takeR {w : World} {S : Nat → Prop} {A : Option Addr} {us : List T} (h : Src w S A us) (k : Nat) : Src w S A (us.take k) := fun i hi => by
  obtain ⟨a, u0, u1, u2, u3, h1, h2, h3⟩ := h i (by simp at hi; omega)
  exact ⟨a, u0, u1, u2, u3, h1, h2, by simpa using h3⟩
theorem Src.dropR {w : World} {S : Nat → Prop} {A : Option Addr} {us : List T} (h : Src w S A us) (k c : Nat) (hc : us.length ≤ c) : Src w S (if c = k then A else A.map (·.add (k * 4))) (us.drop k) := fun i hi => by
  have hi' : i < us.length - k := by simpa using hi
  obtain ⟨a, u0, u1, u2, u3, h1, h2, h3⟩ := h (k + i) (by omega)
  refine ⟨a.add (k * 4), u0, u1, u2, u3, ?_, ?_, by simpa using h3⟩
  · rw [if_neg (by omega), h1]; rfl
  · rw [add_add, show k * 4 + i * 4 = (k + i) * 4 by omega]; exact h2
theorem sizeNode : (sizeOf 24).run Try.prog = fun w => .ok 4 w := by kernel_rfl
theorem sliceHead (A : Option Addr) (l c k : Nat) (hk : k ≤ l) (hc : l ≤ c) (w : World) : (Instr.slice 22 (.slice A l c) none (some (.int .i64 (k : Int))) none).run Try.prog w = .ok (.slice A k c) w := by
  have h1 : (0 : Int) ≤ k ∧ (k : Int) ≤ c := ⟨by omega, by omega⟩
  unfold Instr.slice
  simp only [Sem.run_bind, run_underlying Try.underlying22, Result.andThen_ok, Instr.sliceBounds, Instr.sliceBound, Sem.run_pure, asIntOf, h1, and_self, if_true, sizeNode, Int.toNat_natCast, Nat.sub_zero, Nat.zero_mul]
  split
  · rfl
  · cases A <;> rfl
theorem sliceTail (A : Option Addr) (l c k : Nat) (hk : k ≤ l) (w : World) : (Instr.slice 22 (.slice A l c) (some (.int .i64 (k : Int))) none none).run Try.prog w = .ok (.slice (if c = k then A else A.map (·.add (k * 4))) (l - k) (c - k)) w := by
  have h1 : (0 : Int) ≤ k ∧ (k : Int) ≤ l := ⟨by omega, by omega⟩
  unfold Instr.slice
  simp only [Sem.run_bind, run_underlying Try.underlying22, Result.andThen_ok, Instr.sliceBounds, Instr.sliceBound, Sem.run_pure, asIntOf, h1, and_self, if_true, sizeNode, Int.toNat_natCast]

end Go.Proofs.Ytldcjboignbfpaa
