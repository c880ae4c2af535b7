/-
  slices.Equal at integers; backstepref10.Ints. Printed by wip/gen/sf_eq.py.
-/
import Derived.Test.YtekjfbnggfbfhaaRowI
import Derived.Test.YtekjfbnggfbfhaaEv
import Derived.Deep.RegionHeld3
import Derived.Deep.DeepCutAuto
namespace Go.Proofs.Ytekjfbnggfbfhaa
open Go Go.RowKit

set_option maxHeartbeats 4000000 in
set_option maxRecDepth 100000 in
theorem SEqual_any (xs ys : List Int) (A B : Option Addr) (c d : Nat) (w : World) (hx : RowI w Any A xs) (hy : RowI w Any B ys) (hl : xs.length ≤ 1000000) (hm : ys.length ≤ 1000000) :
    Calls Try.prog 43 #[.slice A xs.length c, .slice B ys.length d] w fun e w' => e = .returned (.bool (decide (xs = ys))) ∧ Below w.heap.size w w' := by
  obtain ⟨R, hR⟩ : ∃ R, decide (xs = ys) = R := ⟨_, rfl⟩
  rw [hR]
  have HR := Lib.hid hR
  have HX := Lib.hid hx
  have HY := Lib.hid hy
  clear hR hx hy
  by_cases hlen : xs.length = ys.length
  · have HL := Lib.hid hlen
    rw [← hlen]
    clear hlen
    go_enter Try.func43, Try.ntmps43
    go_wp2_with fail
    go_loopw [5, 13] (fun _ i wr => ∃ j : Nat, j ≤ xs.length ∧ i = .int .i64 j ∧ Below w.heap.size w wr ∧ Hid (xs.take j = ys.take j)) (fun _ i _ => xs.length - (intOf i).toNat)
    case atStart => exact ⟨0, Nat.zero_le _, rfl, Below.refl _ _, Lib.hid rfl⟩
    case round =>
      obtain ⟨j, hj, rfl, hbl, HJ⟩ := hrel
      have HBL := Lib.hid hbl
      by_cases hlt : j < xs.length
      · have hlt2 : j < ys.length := by rw [← HL.out]; exact hlt
        obtain ⟨a, rfl, h1⟩ := (HX.out.later hbl).nd hlt
        obtain ⟨b, rfl, h2⟩ := (HY.out.later hbl).nd hlt2
        obtain ⟨x, hx⟩ : ∃ x, xs.getD j 0 = x := ⟨_, rfl⟩
        obtain ⟨y, hy⟩ : ∃ y, ys.getD j 0 = y := ⟨_, rfl⟩
        rw [hx] at h1
        rw [hy] at h2
        have hx' : xs[j] = x := by rw [← hx]; simp [hlt]
        have hy' : ys[j] = y := by rw [← hy]; simp [hlt2]
        have HS := Lib.hid (show (fun w' : World => w'.cell? (a.add j) = some (.int .i64 x) ∧ w'.cell? (b.add j) = some (.int .i64 y)) wr.drew from ⟨h1, h2⟩)
        have hj1 : (j : Int) < (xs.length : Int) := by omega
        have HXJ := Lib.hid hx'
        have HYJ := Lib.hid hy'
        clear hbl hx hy hx' hy' h1 h2
        go_upto_region 6 with fail
        go_region_held3 (fun w' : World => w'.cell? (a.add j) = some (.int .i64 x) ∧ w'.cell? (b.add j) = some (.int .i64 y))
          (with_reducible exact HS.out)
          (first | fail)
        by_cases hxy : x = y
        · subst hxy
          have HJ2 : Hid (xs.take (j + 1) = ys.take (j + 1)) := Lib.hid (by rw [List.take_succ_eq_append_getElem hlt, List.take_succ_eq_append_getElem hlt2, HJ.out, HXJ.out, HYJ.out])
          go_wp2_with fail
          go_roundw
          case rel => exact ⟨j + 1, by omega, by go_num, HBL.out.drew, HJ2⟩
          case measure => simp [intOf]; omega
        · have e1 : (x == y) = false := by simpa using hxy
          have e2 : (x != y) = true := by simpa using hxy
          have HF := Lib.hid (show R = false by rw [← HR.out]; exact decide_eq_false fun h => hxy (by subst h; rw [← HXJ.out, ← HYJ.out]))
          clear hxy
          go_wp2_with fail
          go_ret
          exact ⟨by rw [HF.out]; rfl, HBL.out.drew⟩
      · obtain rfl : j = xs.length := by omega
        have HF := Lib.hid (show R = true by
          have h1 := HJ.out
          rw [List.take_of_length_le (Nat.le_refl _), List.take_of_length_le (by rw [HL.out]; exact Nat.le_refl _)] at h1
          rw [← HR.out]
          exact decide_eq_true h1)
        clear hbl
        go_wp2_with fail
        go_ret
        exact ⟨by rw [HF.out]; rfl, HBL.out⟩
  · have HF := Lib.hid (show R = false by rw [← HR.out]; exact decide_eq_false fun h => hlen (by rw [h]))
    have e1 : ((xs.length : Int) == (ys.length : Int)) = false := by simp; omega
    have e2 : ((xs.length : Int) != (ys.length : Int)) = true := by simp; omega
    go_enter Try.func43, Try.ntmps43
    go_wp2_with fail
    go_ret
    exact ⟨by rw [HF.out]; rfl, Below.refl _ _⟩

set_option maxHeartbeats 4000000 in
set_option maxRecDepth 100000 in
theorem Ints_any (xs ys : List Int) (A B : Option Addr) (c d : Nat) (w : World) (hx : RowI w Any A xs) (hy : RowI w Any B ys) (hl : xs.length ≤ 1000000) (hm : ys.length ≤ 1000000) :
    Calls Try.prog 21 #[.slice A xs.length c, .slice B ys.length d] w fun e w' => e = .returned (.bool (decide (xs = ys))) ∧ Below w.heap.size w w' := by
  obtain ⟨R, hR⟩ : ∃ R, decide (xs = ys) = R := ⟨_, rfl⟩
  rw [hR]
  have HR := Lib.hid hR
  have HX := Lib.hid hx
  have HY := Lib.hid hy
  clear hR hx hy
  by_cases hlen : xs.length = ys.length
  · have HL := Lib.hid hlen
    rw [← hlen]
    clear hlen
    go_enter Try.func21, Try.ntmps21
    go_wp2_with fail
    go_loopw [5] (fun i wr => ∃ j : Nat, j ≤ xs.length ∧ i = .int .i64 j ∧ Below w.heap.size w wr ∧ Hid (xs.take j = ys.take j)) (fun i _ => xs.length - (intOf i).toNat)
    case atStart => exact ⟨0, Nat.zero_le _, rfl, Below.refl _ _, Lib.hid rfl⟩
    case round =>
      obtain ⟨j, hj, rfl, hbl, HJ⟩ := hrel
      have HBL := Lib.hid hbl
      by_cases hlt : j < xs.length
      · have hlt2 : j < ys.length := by rw [← HL.out]; exact hlt
        obtain ⟨a, rfl, h1⟩ := (HX.out.later hbl).nd hlt
        obtain ⟨b, rfl, h2⟩ := (HY.out.later hbl).nd hlt2
        obtain ⟨x, hx⟩ : ∃ x, xs.getD j 0 = x := ⟨_, rfl⟩
        obtain ⟨y, hy⟩ : ∃ y, ys.getD j 0 = y := ⟨_, rfl⟩
        rw [hx] at h1
        rw [hy] at h2
        have hx' : xs[j] = x := by rw [← hx]; simp [hlt]
        have hy' : ys[j] = y := by rw [← hy]; simp [hlt2]
        have HS := Lib.hid (show (fun w' : World => w'.cell? (a.add j) = some (.int .i64 x) ∧ w'.cell? (b.add j) = some (.int .i64 y)) wr.drew from ⟨h1, h2⟩)
        have hj1 : (j : Int) < (xs.length : Int) := by omega
        have HXJ := Lib.hid hx'
        have HYJ := Lib.hid hy'
        clear hbl hx hy hx' hy' h1 h2
        go_upto_region 5 with fail
        go_region_held3 (fun w' : World => w'.cell? (a.add j) = some (.int .i64 x) ∧ w'.cell? (b.add j) = some (.int .i64 y))
          (with_reducible exact HS.out)
          (first | fail)
        by_cases hxy : x = y
        · subst hxy
          have HJ2 : Hid (xs.take (j + 1) = ys.take (j + 1)) := Lib.hid (by rw [List.take_succ_eq_append_getElem hlt, List.take_succ_eq_append_getElem hlt2, HJ.out, HXJ.out, HYJ.out])
          go_wp2_with fail
          go_roundw
          case rel => exact ⟨j + 1, by omega, by go_num, HBL.out.drew, HJ2⟩
          case measure => simp [intOf]; omega
        · have e1 : (x == y) = false := by simpa using hxy
          have e2 : (x != y) = true := by simpa using hxy
          have HF := Lib.hid (show R = false by rw [← HR.out]; exact decide_eq_false fun h => hxy (by subst h; rw [← HXJ.out, ← HYJ.out]))
          clear hxy
          go_wp2_with fail
          go_ret
          exact ⟨by rw [HF.out]; rfl, HBL.out.drew⟩
      · obtain rfl : j = xs.length := by omega
        have HF := Lib.hid (show R = true by
          have h1 := HJ.out
          rw [List.take_of_length_le (Nat.le_refl _), List.take_of_length_le (by rw [HL.out]; exact Nat.le_refl _)] at h1
          rw [← HR.out]
          exact decide_eq_true h1)
        clear hbl
        go_wp2_with fail
        go_ret
        exact ⟨by rw [HF.out]; rfl, HBL.out⟩
  · have HF := Lib.hid (show R = false by rw [← HR.out]; exact decide_eq_false fun h => hlen (by rw [h]))
    have e1 : ((xs.length : Int) == (ys.length : Int)) = false := by simp; omega
    have e2 : ((xs.length : Int) != (ys.length : Int)) = true := by simp; omega
    go_enter Try.func21, Try.ntmps21
    go_wp2_with fail
    go_ret
    exact ⟨by rw [HF.out]; rfl, Below.refl _ _⟩

end Go.Proofs.Ytekjfbnggfbfhaa
