/-
  Rows of integers, and the contract of slices.Clone at them.
-/
import Derived.Test.YtekjfbnggfbfhaaPi
import Derived.Test.YtekjfbnggfbfhaaApp
namespace Go.Proofs.Ytekjfbnggfbfhaa
open Go.RowKit

/-- An int fits. -/
def I64 (x : Int) : Prop := -9223372036854775808 ≤ x ∧ x ≤ 9223372036854775807
/-- The slice address A leads to the integers xs. -/
def RowI (w : World) (S : Nat → Prop) (A : Option Addr) (xs : List Int) : Prop :=
  ∀ i (hi : i < xs.length), ∃ a : Addr, A = some a ∧ S a.block ∧ w.cell? (a.add i) = some (.int .i64 xs[i]) ∧ I64 xs[i]
/-- The greatest number of integers: 2^47 bytes together. -/
def LI : Nat := 17592186044416
theorem LI_int {n : Nat} (h : n ≤ LI) : n ≤ 17592186044416 := h

section
variable {w w' : World} {S S' : Nat → Prop} {A : Option Addr} {xs : List Int}
theorem RowI.keep (h : RowI w S A xs) (hS : ∀ b, S b → b < w.heap.size → S' b) (hk : ∀ b, S b → b < w.heap.size → w'.heap[b]? = w.heap[b]?) : RowI w' S' A xs := fun i hi => by
  obtain ⟨a, hA, hSa, h0, hf⟩ := h i hi
  have hlt : a.block < w.heap.size := by have := World.block_lt_of_cell? w _ h0; rwa [block_add] at this
  refine ⟨a, hA, hS _ hSa hlt, cell_kp h0 ?_, hf⟩
  simp only [block_add]; exact hk _ hSa hlt
theorem RowI.later (h : RowI w S A xs) (hb : Below w.heap.size w w') : RowI w' S A xs := h.keep (fun _ hb _ => hb) fun b _ hlt => hb.block b hlt
theorem RowI.mono (h : RowI w S A xs) (hS : ∀ b, S b → S' b) : RowI w S' A xs := h.keep (fun b hb _ => hS b hb) fun _ _ _ => rfl
theorem RowI.any (h : RowI w S A xs) : RowI w Any A xs := h.mono fun _ _ => trivial
theorem RowI.fits (h : RowI w S A xs) : ∀ x ∈ xs, I64 x := fun x hx => by
  obtain ⟨i, hi, rfl⟩ := List.getElem_of_mem hx
  obtain ⟨_, _, _, _, h⟩ := h i hi
  exact h
theorem RowI.news {a : Addr} (h : RowI w S (some a) xs) : (∀ (j : Nat) u, (xs.map (fun x => Value.int .i64 x))[j]? = some u → w.cell? (a.add j) = some u) ∧ (∀ u ∈ xs.map (fun x => Value.int .i64 x), u.oneCell' = true) := by
  refine ⟨fun j u hj => ?_, fun u hu => ?_⟩
  · simp only [List.getElem?_map, Option.map_eq_some_iff] at hj
    obtain ⟨x, hx, rfl⟩ := hj
    obtain ⟨hlt, rfl⟩ := List.getElem?_eq_some_iff.1 hx
    obtain ⟨a', e, _, hc, _⟩ := h j hlt
    injection e with e
    subst e
    exact hc
  · simp only [List.mem_map] at hu
    obtain ⟨x, _, rfl⟩ := hu
    rfl
/-- An owned row of integers, read. -/
theorem ownsRow_rowI {base : Nat} {E : TypeId} {v : Value} (h : w.ownsRow base E 1 v xs.length (xs.map (fun x => Value.int .i64 x))) (hf : ∀ x ∈ xs, I64 x) : ∃ A c, v = .slice A xs.length c ∧ xs.length ≤ c ∧ RowI w (fun b => v.ownBlock = some b) A xs := by
  rcases h.2 with ⟨rfl, h0⟩ | ⟨g, cap, cur, rfl, hb, hg, hc, hm, hz, hx⟩
  · exact ⟨none, 0, by rw [h0], by omega, fun i hi => absurd hi (by omega)⟩
  · refine ⟨some ⟨g, 0, none⟩, cap, rfl, hc, fun i hi => ?_⟩
    have ha : (⟨g, 0, none⟩ : Addr).add i = ⟨g, i, none⟩ := by unfold Addr.add; split <;> simp_all
    refine ⟨⟨g, 0, none⟩, rfl, rfl, ?_, hf _ (List.getElem_mem hi)⟩
    rw [ha]
    have := h.cellAt i (by omega)
    rw [this]
    simp [hi]
end

theorem intInfo : (Try.prog.info? 3).map (fun i => (i.zero, i.size, i.bytes)) = some (some (.int .i64 0), 1, 8) := by kernel_rfl
theorem buildI0 (w : World) : (Instr.buildSlice 26 0 #[]).run Try.prog w = .ok (.slice (some ⟨w.heap.size, 0, none⟩) 0 0) (w.alloc (.cells #[] 3)) := by kernel_rfl
theorem buildI1 (x : Int) (w : World) : (Instr.buildSlice 26 1 #[(0, .int .i64 x)]).run Try.prog w = .ok (.slice (some ⟨w.heap.size, 0, none⟩) 1 1) (w.alloc (.cells #[.int .i64 x] 3)) := by kernel_rfl
theorem eqNilI (a : Addr) (l c : Nat) (w : World) : (binOp BinOp.eql 26 (.slice (some a) l c) (.slice none 0 0)).run Try.prog w = .ok (.bool false) w := by kernel_rfl
theorem eqNilI0 (l c : Nat) (w : World) : (binOp BinOp.eql 26 (.slice none l c) (.slice none 0 0)).run Try.prog w = .ok (.bool true) w := by kernel_rfl

/-- A row of integers that the call has made. -/
def NewI (w : World) (xs : List Int) (e : Ending) (w' : World) : Prop := ∃ A' c', e = .returned (.slice A' xs.length c') ∧ RowI w' (From w.heap.size) A' xs ∧ xs.length ≤ c' ∧ Below w.heap.size w w'

/-- A row of integers that the call has made and owns. -/
def OwnI (w : World) (xs : List Int) (e : Ending) (w' : World) : Prop := ∃ v', e = .returned v' ∧ w'.ownsRow w.heap.size 3 1 v' xs.length (xs.map (fun x => Value.int .i64 x)) ∧ (∀ x ∈ xs, I64 x) ∧ Below w.heap.size w w'
set_option maxHeartbeats 2000000 in
set_option maxRecDepth 100000 in
theorem CloneI_own (xs : List Int) (A : Option Addr) (c : Nat) (S : Nat → Prop) (w : World) (hrow : RowI w S A xs) (hl : xs.length ≤ LI) : Calls Try.prog 33 #[.slice A xs.length c] w (OwnI w xs) := by
  obtain ⟨i0, hi0, hz0, hz1, hz2⟩ := info_parts intInfo
  have hl' := LI_int hl
  rcases A with _ | a
  · have h0 : xs = [] := by
      cases xs with
      | nil => rfl
      | cons v vs => obtain ⟨_, h, _⟩ := hrow 0 (by simp); cases h
    subst h0
    have he := eqNilI0
    clear hrow hl
    go_enter Try.func33, Try.ntmps33
    go_wp2_with fail
    go_ret
    exact ⟨_, rfl, World.ownsRow_nil _ _ _ _, by simp, Below.refl _ _⟩
  · obtain ⟨hnc, hn1⟩ := (hrow.later ((Below.refl w.heap.size w).alloc (Nat.le_refl _) (.cells #[] 3))).news
    have HF := Lib.hid hrow.fits
    have hown : (w.alloc (.cells #[] 3)).ownsRow w.heap.size 3 1 (.slice (some ⟨w.heap.size, 0, none⟩) 0 0) 0 [] :=
      ⟨rfl, .inr ⟨w.heap.size, 0, #[], rfl, Nat.le_refl _, heap_alloc_new w _, Nat.le_refl _, Nat.zero_le _, rfl, rfl⟩⟩
    have hnl : (xs.map (fun x => Value.int .i64 x)).length = xs.length * 1 := by simp
    have hm1 : 0 + xs.length ≤ maxLen := by unfold maxLen; omega
    have hm2 : (0 + xs.length) * 8 ≤ 140737488355328 := by omega
    have hb0 := buildI0
    have he := eqNilI
    obtain ⟨news, hnews⟩ : ∃ news, xs.map (fun x => Value.int .i64 x) = news := ⟨_, rfl⟩
    rw [hnews] at hnc hn1 hnl
    have HNW := Lib.hid hnews
    clear hrow hl hnews
    go_enter Try.func33, Try.ntmps33
    go_wp2_with (at_builtin; refine wpList_append_own_at (P := Try.prog) _ rfl (.tmp 5) (.tmp 6) 26 rfl w.heap.size 3 i0 _ 1 8 Try.underlying26 hi0 hz0 hz1 hz2 rfl (by decide) (.slice (some ⟨w.heap.size, 0, none⟩) 0 0) 0 [] rfl hown a xs.length c news rfl hnl hnc hn1 hm1 hm2 (by simp) ?_; intro v' w' h2 h3 h4 h5)
    have hbl : Below w.heap.size w w' := ((Below.refl w.heap.size w).alloc (Nat.le_refl _) _).grown h3 (by simp) (fun g e => by simp [Value.ownBlock] at e; omega)
    have h2' : w'.ownsRow w.heap.size 3 1 v' xs.length (xs.map (fun x => Value.int .i64 x)) := by
      have := h2
      rw [Nat.zero_add, List.nil_append, ← HNW.out] at this
      exact this
    have HO := Lib.hid h2'
    have HB := Lib.hid hbl
    have hsl : ∃ A' c', v' = .slice A' xs.length c' := by
      rcases h2'.2 with ⟨rfl, h0⟩ | ⟨g, cap, cur, rfl, _⟩
      · exact ⟨none, 0, by rw [h0]⟩
      · exact ⟨_, _, rfl⟩
    obtain ⟨A', c', rfl⟩ := hsl
    clear h2 h2' h3 h4 h5 hbl hnc hn1 hown
    go_wp2_with fail
    go_ret
    exact ⟨_, by simp, HO.out, HF.out, HB.out⟩

theorem CloneI_any (xs : List Int) (A : Option Addr) (c : Nat) (S : Nat → Prop) (w : World) (hrow : RowI w S A xs) (hl : xs.length ≤ LI) : Calls Try.prog 33 #[.slice A xs.length c] w (NewI w xs) :=
  (CloneI_own xs A c S w hrow hl).mono fun e w' ⟨v', he, ho, hf, hb⟩ => by
    obtain ⟨A', c', rfl, hc, hr⟩ := ownsRow_rowI ho hf
    exact ⟨A', c', he, hr.mono fun b hb => (ho.lt b hb).1, hc, hb⟩

end Go.Proofs.Ytekjfbnggfbfhaa
