/-
  The contract of slices.Clone at declarations.
-/
import Derived.Test.YtldcjboignbfpaaPi
import Derived.Test.YtldcjboignbfpaaApp
namespace Go.Proofs.Ytldcjboignbfpaa
open Go.RowKit

theorem vdInfo : (Try.prog.info? 56).map (fun i => (i.zero, i.size, i.bytes)) = some (some (.agg #[.string ⟨#[]⟩, .int .u8 0, .int .i64 0]), 3, 32) := by kernel_rfl
theorem buildV0 (w : World) : (Instr.buildSlice 35 0 #[]).run Try.prog w = .ok (.slice (some ⟨w.heap.size, 0, none⟩) 0 0) (w.alloc (.cells #[] 56)) := by kernel_rfl

theorem eqNilV (a : Addr) (l c : Nat) (w : World) : (binOp BinOp.eql 35 (.slice (some a) l c) (.slice none 0 0)).run Try.prog w = .ok (.bool false) w := by kernel_rfl
theorem eqNilV0 (l c : Nat) (w : World) : (binOp BinOp.eql 35 (.slice none l c) (.slice none 0 0)).run Try.prog w = .ok (.bool true) w := by kernel_rfl

/-- The cells of a row of declarations, as one list. -/
theorem RowV.news {w : World} {S : Nat → Prop} {a : Addr} : ∀ {vs : List VD}, RowV w S (some a) vs → ∃ news : List Value, news.length = vs.length * 3 ∧ (∀ j u, news[j]? = some u → w.cell? (a.add j) = some u) ∧ (∀ u ∈ news, u.oneCell' = true) ∧
    ∀ i (hi : i < vs.length), news[i * 3]? = some (.string vs[i].s) ∧ news[i * 3 + 1]? = some (.int .u8 vs[i].k) ∧ news[i * 3 + 2]? = some (.int .i64 vs[i].n) := by
  intro vs
  induction vs generalizing a with
  | nil => exact fun _ => ⟨[], rfl, fun j u h => by simp at h, fun u h => by simp at h, fun i hi => absurd hi (by simp)⟩
  | cons t us ih =>
    intro h
    obtain ⟨a', e, hS, hc, _⟩ := h 0 (by simp)
    injection e with e
    subst e
    obtain ⟨news, hl, hcell, h1, hns⟩ := ih (a := a.add 3) (fun i hi => by
      obtain ⟨a'', e, hS', hc, hf⟩ := h (i + 1) (by simpa using hi)
      injection e with e
      subst e
      refine ⟨_, rfl, by rw [block_add]; exact hS', ?_, by simpa using hf⟩
      rw [add_add, show 3 + i * 3 = (i + 1) * 3 by omega]
      simpa using hc)
    obtain ⟨c0, c1, c2⟩ := hc
    simp only [Nat.zero_mul] at c0 c1 c2
    refine ⟨.string t.s :: .int .u8 t.k :: .int .i64 t.n :: news, by simp [hl]; omega, fun j u hj => ?_, fun u hu => ?_, fun i hi => ?_⟩
    · rcases j with _ | _ | _ | j
      · simp at hj; subst hj; exact c0
      · simp at hj; subst hj; exact c1
      · simp at hj; subst hj; exact c2
      · have := hcell j u (by simpa using hj)
        rw [add_add] at this
        rw [show j + 1 + 1 + 1 = 3 + j by omega]
        exact this
    · simp only [List.mem_cons] at hu
      rcases hu with rfl | rfl | rfl | hu
      · rfl
      · rfl
      · rfl
      · exact h1 u hu
    · rcases i with _ | i
      · exact ⟨rfl, rfl, rfl⟩
      · obtain ⟨e0, e1, e2⟩ := hns i (by simpa using hi)
        refine ⟨?_, ?_, ?_⟩
        · rw [show (i + 1) * 3 = i * 3 + 1 + 1 + 1 by omega]; simpa using e0
        · rw [show (i + 1) * 3 + 1 = i * 3 + 1 + 1 + 1 + 1 by omega]; simpa using e1
        · rw [show (i + 1) * 3 + 2 = i * 3 + 2 + 1 + 1 + 1 by omega]; simpa using e2

/-- A row of declarations that the call has made. -/
def NewRow (w : World) (vs : List VD) (e : Ending) (w' : World) : Prop := ∃ A' c', e = .returned (.slice A' vs.length c') ∧ RowV w' (From w.heap.size) A' vs ∧ vs.length ≤ c' ∧ Below w.heap.size w w'

set_option maxHeartbeats 2000000 in
set_option maxRecDepth 100000 in
theorem CloneV_any (vs : List VD) (A : Option Addr) (c : Nat) (S : Nat → Prop) (w : World) (hrow : RowV w S A vs) (hl : vs.length ≤ LV) : Calls Try.prog 43 #[.slice A vs.length c] w (NewRow w vs) := by
  obtain ⟨i0, hi0, hz0, hz1, hz2⟩ := info_parts vdInfo
  have hl' := LV_int hl
  rcases A with _ | a
  · have h0 : vs = [] := by
      cases vs with
      | nil => rfl
      | cons v vs => obtain ⟨_, h, _⟩ := hrow 0 (by simp); cases h
    subst h0
    have he := eqNilV0
    clear hrow hl
    go_enter Try.func43, Try.ntmps43
    go_wp2_with fail
    go_ret
    exact ⟨none, 0, rfl, fun i hi => absurd hi (by simp), Nat.le_refl _, Below.refl _ _⟩
  · obtain ⟨news, hnl, hnc, hn1, hnv⟩ := (hrow.later ((Below.refl w.heap.size w).alloc (Nat.le_refl _) (.cells #[] 56))).news
    have HF := Lib.hid (show ∀ i (hi : i < vs.length), FldV vs[i] from fun i hi => (hrow i hi).choose_spec.2.2.2)
    have HNV := Lib.hid hnv
    have hown : (w.alloc (.cells #[] 56)).ownsRow w.heap.size 56 3 (.slice (some ⟨w.heap.size, 0, none⟩) 0 0) 0 [] :=
      ⟨rfl, .inr ⟨w.heap.size, 0, #[], rfl, Nat.le_refl _, heap_alloc_new w _, Nat.le_refl _, Nat.zero_le _, rfl, rfl⟩⟩
    have hm1 : 0 + vs.length ≤ maxLen := by unfold maxLen; omega
    have hm2 : (0 + vs.length) * 32 ≤ 140737488355328 := by omega
    have hb0 := buildV0
    have he := eqNilV
    clear hrow hl hnv
    go_enter Try.func43, Try.ntmps43
    go_wp2_with (at_builtin; refine wpList_append_own_at (P := Try.prog) _ rfl (.tmp 5) (.tmp 6) 35 rfl w.heap.size 56 i0 _ 3 32 Try.underlying35 hi0 hz0 hz1 hz2 rfl (by decide) (.slice (some ⟨w.heap.size, 0, none⟩) 0 0) 0 [] rfl hown a vs.length c news rfl hnl hnc hn1 hm1 hm2 (by simp) ?_; intro v' w' h2 h3 h4 h5)
    have hbl : Below w.heap.size w w' := ((Below.refl w.heap.size w).alloc (Nat.le_refl _) _).grown h3 (by simp) (fun g e => by simp [Value.ownBlock] at e; omega)
    rcases h2.2 with ⟨hnil, _⟩ | ⟨g, cap, cur, rfl, hbg, hg, hc, hm, hz, hx⟩
    · exact absurd (h4.1 hnil).1 (by simp)
    · have HR := Lib.hid (show RowV w' (From w.heap.size) (some ⟨g, 0, none⟩) vs from fun i hi => by
        have ha : (⟨g, 0, none⟩ : Addr).add (i * 3) = ⟨g, i * 3, none⟩ := by unfold Addr.add; split <;> simp_all
        obtain ⟨e0, e1, e2⟩ := HNV.out i hi
        refine ⟨⟨g, 0, none⟩, rfl, hbg, ?_, HF.out i hi⟩
        rw [ha]
        refine ⟨?_, ?_, ?_⟩
        · rw [h2.cellAt (i * 3) (by omega)]; simpa using e0
        · rw [h2.cellAt (i * 3 + 1) (by omega)]; simpa using e1
        · rw [h2.cellAt (i * 3 + 2) (by omega)]; simpa using e2)
      have HB := Lib.hid hbl
      have HC := Lib.hid (show vs.length ≤ cap by omega)
      clear h2 h3 h4 h5 hx hz hg hbl hnc hn1 hown
      go_wp2_with fail
      go_ret
      exact ⟨some ⟨g, 0, none⟩, cap, by simp, HR.out, HC.out, HB.out⟩

end Go.Proofs.Ytldcjboignbfpaa
