/-
  The contract of slices.Reverse at nodes.
-/
import Derived.Test.YtldcjboignbfpaaClone
import Derived.RegionTactic
import Derived.BigRegion
namespace Go.Proofs.Ytldcjboignbfpaa
open Go.RowKit

/-- After j rounds of a reversal. -/
def RevTo (ts L : List T) (j : Nat) : Prop := L.length = ts.length ∧ ∀ q (h : q < L.length) (h1 : q < ts.length) (h2 : ts.length - 1 - q < ts.length), L[q] = if q < j ∨ ts.length - j ≤ q then ts[ts.length - 1 - q] else ts[q]
theorem RevTo.zero (ts : List T) : RevTo ts ts 0 := ⟨rfl, fun q h h1 h2 => by rw [if_neg (by omega)]⟩
theorem RevTo.done {ts L : List T} {j : Nat} (h : RevTo ts L j) (hj : ts.length ≤ j + j + 1) : L = ts.reverse := by
  refine List.ext_getElem (by simp [h.1]) fun q hq hq' => ?_
  have h1 : q < ts.length := by simpa using hq'
  rw [h.2 q hq h1 (by omega), List.getElem_reverse]
  split
  · rfl
  · have e : ts.length - 1 - q = q := by omega
    simp only [e]
theorem RevTo.swap {ts L : List T} {j m : Nat} (h : RevTo ts L j) (hm : m + j + 1 = ts.length) (hjm : j < m) (hj : j < L.length) (hml : m < L.length) : RevTo ts ((L.set j L[m]).set m L[j]) (j + 1) := by
  refine ⟨by simp [h.1], fun q hq h1 h2 => ?_⟩
  have hl := h.1
  rw [List.getElem_set]
  split
  · rename_i e
    subst e
    rw [h.2 j hj (by omega) (by omega), if_neg (by omega), if_pos (by omega)]
    have e : ts.length - 1 - m = j := by omega
    simp only [e]
  · rw [List.getElem_set]
    split
    · rename_i e
      subst e
      rw [h.2 m hml (by omega) (by omega), if_neg (by omega), if_pos (by omega)]
      have e : ts.length - 1 - j = m := by omega
      simp only [e]
    · rw [h.2 q (by omega) h1 h2]
      split
      · rw [if_pos (by omega)]
      · rw [if_neg (by omega)]

set_option maxHeartbeats 1000000 in
theorem Reverse_any (w : World) (base : Nat) (S : Nat → Prop) (g l cap : Nat) (ts : List T) (hown : OwnN w base 24 S (.slice (some ⟨g, 0, none⟩) l cap) ts) :
    Calls Try.prog 59 #[.slice (some ⟨g, 0, none⟩) l cap] w fun e w' => e = .returned (.tuple #[]) ∧ OwnN w' base 24 S (.slice (some ⟨g, 0, none⟩) l cap) ts.reverse ∧ w.grownBy w' (some g) := by
  have hlk := LK_int hown.lk
  obtain ⟨hl, hcap, _, _⟩ := hown.len
  have HL := Lib.hid hl
  have hl' : l ≤ 2513169434916 := by omega
  clear hl hlk
  go_enter Try.func59, Try.ntmps59
  go_wp2
  go_loopw [2, 3] (fun i k wr => ∃ (j : Nat) (L : List T), j ≤ l ∧ i = .int .i64 j ∧ k = .int .i64 ((l : Int) - 1 - j) ∧ Hid (RevTo ts L j) ∧ OwnN wr base 24 S (.slice (some ⟨g, 0, none⟩) l cap) L ∧ w.grownBy wr (some g)) (fun i _ _ => l - (intOf i).toNat)
  case atStart => exact ⟨0, ts, Nat.zero_le _, rfl, by simp, RevTo.zero ts, hown, only_refl _ _⟩
  case round =>
    obtain ⟨j, L, hjl, rfl, rfl, HR, ho, hg⟩ := hrel
    clear hown
    by_cases hlt : (j : Int) < (l : Int) - 1 - j
    · obtain ⟨m, hm⟩ : ∃ m : Nat, m + j + 1 = l := ⟨l - 1 - j, by omega⟩
      have hp : (l : Int) - 1 - j = (m : Int) := by omega
      have hm1 : m < l := by omega
      have hj1 : j < m := by omega
      have hj : j < l := by omega
      have i1 : (0 : Int) ≤ (j : Int) := by omega
      have i2 : (j : Int) < (l : Int) := by omega
      have i3 : (m : Int) < (l : Int) := by omega
      have i4 : (0 : Int) ≤ (m : Int) := by omega
      have hmL : m < L.length := by rw [ho.len.1]; exact hm1
      have hjL : j < L.length := by rw [ho.len.1]; exact hj
      obtain ⟨t1, A1, c1, H1, a0, a1, a2, a3, hn1⟩ := ho.nd hmL
      obtain ⟨t2, A2, c2, H2, b0, b1, b2, b3, hn2⟩ := ho.nd hjL
      have fz := ho.frozen
      rw [hp] at *
      have HM := Lib.hid hm
      clear hm hlt hp
      go_wp2_with fail
      go_region
      go_wp2_with fail
      have hw1 := ho.set4 hjL hn1
      have hk : ∀ b, S b ∧ some b ≠ some g → b < wr.heap.size → ((((wr.setCell ⟨g, j * 4, none⟩ (.int .u8 t1.k)).setCell ⟨g, j * 4 + 1, none⟩ (.int .i64 t1.n)).setCell ⟨g, j * 4 + 2, none⟩ (.string t1.s)).setCell ⟨g, j * 4 + 3, none⟩ (.slice A1 t1.ks.length c1)).heap[b]? = wr.heap[b]? := by
        intro b hb _
        have hne : b ≠ g := fun e => hb.2 (by rw [e])
        rw [Below.heap_setCell _ _ _ _ hne, Below.heap_setCell _ _ _ _ hne, Below.heap_setCell _ _ _ _ hne, Below.heap_setCell _ _ _ _ hne]
      have hw2 := hw1.set4 (i := m) (by simpa using hmL) (hn2.keep (fun _ h _ => h) hk)
      have hsw := HR.out.swap (m := m) (by rw [HL.out]; exact HM.out) hj1 hjL hmL
      rw [H1.out, H2.out] at hsw
      go_roundw
      case rel => exact ⟨j + 1, _, by omega, by go_num, by have := HM.out; congr 1; omega, hsw, hw2.drew, only_draw (only_set (only_set (only_set (only_set (only_set (only_set (only_set (only_set hg rfl _) rfl _) rfl _) rfl _) rfl _) rfl _) rfl _) rfl _)⟩
      case measure => simp [intOf]; omega
    · go_wp2_with fail
      go_end0
      have e : L = ts.reverse := HR.out.done (by rw [HL.out]; omega)
      exact ⟨rfl, by rw [← e]; exact ho, hg⟩
end Go.Proofs.Ytldcjboignbfpaa
