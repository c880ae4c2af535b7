/-
  Boxes that a call lays, carried from world to world. No program stands here.
-/
import Derived.Test.YtldcjboignbfpaaPi
namespace Go.Proofs.Ytldcjboignbfpaa
open Go.RowKit

section
variable {w w' : World} {b : Nat} {E : TypeId} {u0 u1 u2 u3 u4 u5 : Value}
theorem box4 (h : w.heap[b]? = some (.cells #[u0, u1, u2, u3] E (0, 0))) : w.cell? ⟨b, 0, none⟩ = some u0 ∧ w.cell? ⟨b, 1, none⟩ = some u1 ∧ w.cell? ⟨b, 2, none⟩ = some u2 ∧ w.cell? ⟨b, 3, none⟩ = some u3 :=
  ⟨cell_of_blk h rfl, cell_of_blk h rfl, cell_of_blk h rfl, cell_of_blk h rfl⟩
theorem box6 (h : w.heap[b]? = some (.cells #[u0, u1, u2, u3, u4, u5] E (0, 0))) : w.cell? ⟨b, 0, none⟩ = some u0 ∧ w.cell? ⟨b, 1, none⟩ = some u1 ∧ w.cell? ⟨b, 2, none⟩ = some u2 ∧ w.cell? ⟨b, 3, none⟩ = some u3 ∧ w.cell? ⟨b, 4, none⟩ = some u4 ∧ w.cell? ⟨b, 5, none⟩ = some u5 :=
  ⟨cell_of_blk h rfl, cell_of_blk h rfl, cell_of_blk h rfl, cell_of_blk h rfl, cell_of_blk h rfl, cell_of_blk h rfl⟩
theorem blk_bl {o : Obj} (h : w.heap[b]? = some o) (hb : Below w.heap.size w w') : w'.heap[b]? = some o := (hb.block _ (blk_lt h)).trans h
theorem blk_al {o : Obj} (h : w.heap[b]? = some o) (o' : Obj) : (w.alloc o').heap[b]? = some o := (Below.heap_alloc w o' b (blk_lt h)).trans h
/-- One more frame. -/
theorem bl_tr {B : Nat} {w0 : World} (h : Below B w0 w) (hb : Below w.heap.size w w') (hB : B ≤ w.heap.size) : Below B w0 w' := h.trans (hb.mono hB)
theorem bl_al {w0 : World} (h : Below w0.heap.size w0 w) (o : Obj) : Below w0.heap.size w0 (w.alloc o) := h.alloc h.size o
theorem bl_dr {w0 : World} (h : Below w0.heap.size w0 w) : Below w0.heap.size w0 w.drew := h.drew
theorem bl_tt {w0 : World} (h : Below w0.heap.size w0 w) (hb : Below w.heap.size w w') : Below w0.heap.size w0 w' := h.trans (hb.mono h.size)
end

end Go.Proofs.Ytldcjboignbfpaa
