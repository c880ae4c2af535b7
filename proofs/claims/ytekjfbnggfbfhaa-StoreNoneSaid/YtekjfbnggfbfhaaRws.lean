/-
  A family of rows of cells that a computation owns, each in a block of its own: what a change of one row leaves of the others. No program stands here.
-/
import Derived.Test.YtekjfbnggfbfhaaOwn
import Derived.Test.YtekjfbnggfbfhaaInvW
import Derived.Test.YtekjfbnggfbfhaaRf
set_option linter.unusedSimpArgs false
set_option linter.unusedVariables false
namespace Go.Proofs.Ytekjfbnggfbfhaa
open Go Go.RowKit

/-- A row: its slice value (a box of k cells counts as a row of one element of k cells), the element's type and number of cells, how many elements, all cells. -/
structure RowD where
  v : Value
  E : TypeId
  sz : Nat
  n : Nat
  xs : List Value

/-- The rows of the family d lie in W, each in a block of its own, from block n0 on. -/
structure Rws {I : Type} (W : World) (n0 : Nat) (d : I → RowD) : Prop where
  row : ∀ i, W.ownsRow n0 (d i).E (d i).sz (d i).v (d i).n (d i).xs
  sep : ∀ i j b, i ≠ j → (d i).v.ownBlock = some b → (d j).v.ownBlock ≠ some b

/-- The family with one row put in. -/
def updR {I : Type} [DecidableEq I] (d : I → RowD) (i : I) (r : RowD) : I → RowD := fun j => if j = i then r else d j

section
variable {I : Type} [DecidableEq I] {W W' : World} {n0 : Nat} {d : I → RowD} {i j : I} {r : RowD}
@[simp] theorem updR_same : updR d i r i = r := by simp [updR]
theorem updR_other (h : j ≠ i) : updR d i r j = d j := by simp [updR, h]

omit [DecidableEq I] in
theorem Rws.chg {C : Nat → Prop} (h : Rws W n0 d) (hc : Chg C W W') (hC : ∀ i b, (d i).v.ownBlock = some b → ¬ C b) : Rws W' n0 d := by
  refine ⟨fun i => ?_, h.sep⟩
  obtain ⟨e1, h2⟩ := h.row i
  refine ⟨e1, ?_⟩
  rcases h2 with h2 | ⟨g, cap, cur, hv, hb, hg, h3⟩
  · exact .inl h2
  · exact .inr ⟨g, cap, cur, hv, hb, hc.keep hg (hC i g (by rw [hv]; rfl)), h3⟩
omit [DecidableEq I] in
theorem Rws.later (h : Rws W n0 d) (hb : Below W.heap.size W W') : Rws W' n0 d := h.chg (C := fun _ => False) (Chg.of_below hb) (fun _ _ _ h => h)
omit [DecidableEq I] in
theorem Rws.lt (h : Rws W n0 d) (i : I) : ∀ b, (d i).v.ownBlock = some b → n0 ≤ b ∧ b < W.heap.size := (h.row i).lt

/-- One row has turned (its block alone has turned; or it lies in a new block). -/
theorem Rws.upd (h : Rws W n0 d) (i : I) (hc : Chg (fun b => (d i).v.ownBlock = some b) W W') (ho : W'.ownsRow n0 r.E r.sz r.v r.n r.xs) (hob : ∀ b, r.v.ownBlock = some b → (d i).v.ownBlock = some b ∨ W.heap.size ≤ b) : Rws W' n0 (updR d i r) := by
  have key : ∀ j, j ≠ i → ∀ b, (d j).v.ownBlock = some b → r.v.ownBlock ≠ some b := fun j hj b hb hr => by
    rcases hob b hr with h1 | h1
    · exact h.sep j i b hj hb h1
    · have := (h.lt j b hb).2; omega
  refine ⟨fun j => ?_, fun j k b hjk hb => ?_⟩
  · by_cases hj : j = i
    · subst hj; simpa using ho
    · rw [updR_other hj]
      obtain ⟨e1, h2⟩ := h.row j
      refine ⟨e1, ?_⟩
      rcases h2 with h2 | ⟨g, cap, cur, hv, hb, hg, h3⟩
      · exact .inl h2
      · exact .inr ⟨g, cap, cur, hv, hb, hc.keep hg (h.sep j i g hj (by rw [hv]; rfl)), h3⟩
  · by_cases hj : j = i
    · subst hj
      rw [updR_other (Ne.symm hjk)]
      rw [updR_same] at hb
      exact fun hk => key k (Ne.symm hjk) b hk hb
    · rw [updR_other hj] at hb
      by_cases hk : k = i
      · subst hk
        rw [updR_same]
        exact key j hj b hb
      · rw [updR_other hk]
        exact h.sep j k b hjk hb

omit [DecidableEq I] in
/-- A cell of a row is read. -/
theorem Rws.cell (h : Rws W n0 d) (i : I) {g : Nat} {u : Value} (hg : (d i).v.ownBlock = some g) {o : Nat} (ho : (d i).xs[o]? = some u) : W.cell? ⟨g, o, none⟩ = some u := by
  have hr := h.row i
  obtain ⟨e1, h2⟩ := hr
  rcases h2 with ⟨h2, _⟩ | ⟨g', cap, cur, hv, hb, hg', hn, hm, hz, hx⟩
  · rw [h2] at hg; simp [Value.ownBlock] at hg
  · rw [hv] at hg
    simp [Value.ownBlock] at hg
    subst hg
    refine cell_of_blk hg' ?_
    have hlt : o < (d i).xs.length := (List.getElem?_eq_some_iff.1 ho).1
    rw [← hx] at ho
    rw [List.getElem?_take_of_lt (by rw [e1] at hlt; exact hlt)] at ho
    simpa using ho
omit [DecidableEq I] in
theorem Rws.frozen (h : Rws W n0 d) (i : I) {g : Nat} (hg : (d i).v.ownBlock = some g) (o : Nat) : W.frozen? ⟨g, o, none⟩ = false := by
  obtain ⟨e1, h2⟩ := h.row i
  rcases h2 with ⟨h2, _⟩ | ⟨g', cap, cur, hv, hb, hg', _⟩
  · rw [h2] at hg; simp [Value.ownBlock] at hg
  · rw [hv] at hg
    simp [Value.ownBlock] at hg
    subst hg
    exact frozen_of_blk hg'

/-- A cell of a row is stored into. -/
theorem Rws.set (h : Rws W n0 d) (i : I) {g : Nat} (hg : (d i).v.ownBlock = some g) {o : Nat} (ho : o < (d i).xs.length) (u : Value) :
    Rws (W.setCell ⟨g, o, none⟩ u) n0 (updR d i { d i with xs := (d i).xs.set o u }) := by
  have hc : Chg (fun b => (d i).v.ownBlock = some b) W (W.setCell ⟨g, o, none⟩ u) := (Chg.refl _ _).setCell (.inl hg) u
  refine h.upd i hc ?_ (fun b hb => .inl hb)
  obtain ⟨e1, h2⟩ := h.row i
  rcases h2 with ⟨h2, _⟩ | ⟨g', cap, cur, hv, hb, hg', hn, hm, hz, hx⟩
  · rw [h2] at hg; simp [Value.ownBlock] at hg
  · have hgg : g = g' := by rw [hv] at hg; simp [Value.ownBlock] at hg; exact hg.symm
    subst hgg
    refine ⟨by simpa using e1, .inr ⟨g, cap, cur.setIfInBounds o u, hv, hb, heap_setCell_same W g o cur _ u hg', hn, hm, by simpa using hz, ?_⟩⟩
    rw [Array.toList_setIfInBounds, ← hx, List.take_set]
end

end Go.Proofs.Ytekjfbnggfbfhaa
