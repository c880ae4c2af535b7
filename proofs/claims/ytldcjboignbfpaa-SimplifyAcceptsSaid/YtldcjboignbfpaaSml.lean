/-
  The contract of the laws' own helper small.
-/
import Derived.Test.YtldcjboignbfpaaVal
namespace Go.Proofs.Ytldcjboignbfpaa
open Go.RowKit

/-- backsteplaw46.small. -/
def smallB (p : PG) : Bool := decide (p.prs.length ≤ 4) && validB p && decide (wrap64 (size p.m) ≤ 100) && p.prs.all (fun r => decide (wrap64 (size r.b) ≤ 100))

set_option maxHeartbeats 4000000 in
set_option maxRecDepth 100000 in
theorem small_any (p : PG) (S : Nat → Prop) (v : Value) (w : World) (hv : PV w S p v) : Calls Try.prog 25 #[v] w fun e w' => e = .returned (.int .i64 (if smallB p then 1 else 0)) ∧ Below w.heap.size w w' := by
  obtain ⟨R, hR⟩ : ∃ R, (if smallB p = true then (1 : Int) else 0) = R := ⟨_, rfl⟩
  rw [hR]
  have HRR := Lib.hid hR
  clear hR
  have HV := Lib.hid hv
  obtain ⟨A1, c1, A2, c2, A3, c3, rfl, hr⟩ := hv
  have HR := Lib.hid hr
  have hv2 := LV_int hr.lp
  have HX := Lib.hid (show smallB p = (decide (p.prs.length ≤ 4) && validB p && decide (wrap64 (size p.m) ≤ 100) && p.prs.all (fun r => decide (wrap64 (size r.b) ≤ 100))) from rfl)
  have hlc2 := hr.lpc
  obtain ⟨L1, hL1⟩ : ∃ L, p.vs.length = L := ⟨_, rfl⟩
  obtain ⟨L2, hL2⟩ : ∃ L, p.prs.length = L := ⟨_, rfl⟩
  obtain ⟨k, hk⟩ : ∃ k, p.m.k = k := ⟨_, rfl⟩
  obtain ⟨n, hn⟩ : ∃ n, p.m.n = n := ⟨_, rfl⟩
  obtain ⟨s, hs⟩ : ∃ s, p.m.s = s := ⟨_, rfl⟩
  obtain ⟨l3, hl3⟩ : ∃ l, p.m.ks.length = l := ⟨_, rfl⟩
  have HL2 := Lib.hid hL2
  have hm := hr.main
  rw [hk, hn, hs, hl3] at hm
  have HM := Lib.hid hm
  have hx := HX.out
  rw [hL2] at hx hv2 hlc2
  have hvv := HV.out
  rw [hL1, hL2, hk, hn, hs, hl3] at hvv
  rw [hL1, hL2, hk, hn, hs, hl3]
  clear hr hm HX HV hL1 hL2 hk hn hs hl3
  have HX := Lib.hid hx
  have HV := Lib.hid hvv
  clear hx hvv
  have hb0 : ∀ o, Below w.heap.size w (w.alloc o) := fun o => (Below.refl _ _).alloc (Nat.le_refl _) _
  have HB0 := Lib.hid hb0
  clear hb0
  by_cases h4 : 4 < L2
  · have HF := Lib.hid (show smallB p = false by rw [HX.out]; simp; intro h; omega)
    have h4' : (4 : Int) < (L2 : Int) := by omega
    go_enter Try.func25, Try.ntmps25
    go_wp2_with fail
    go_ret
    exact ⟨by rw [← HRR.out, HF.out]; rfl, HB0.out _⟩
  have h4' : (L2 : Int) ≤ 4 := by omega
  have hx := HX.out
  rw [decide_eq_true (show L2 ≤ 4 by omega), Bool.true_and] at hx
  clear HX h4
  have HX := Lib.hid hx
  clear hx
  go_enter Try.func25, Try.ntmps25
  go_wp2_with fail
  refine (Valid_any p S _ _ (HV.out.later (HB0.out _))).mono ?_
  rintro e w1 ⟨rfl, bw1⟩
  have q1 : Below w.heap.size w w1 := (HB0.out _).trans (bw1.mono (by simp))
  have hbx : w1.heap[w.heap.size]? = some (.cells #[.slice A1 L1 c1, .slice A2 L2 c2, .int .u8 k, .int .i64 n, .string s, .slice A3 l3 c3] 38 (0, 0)) := (bw1.block _ (by simp)).trans (heap_alloc_new w _)
  have x2 : w1.cell? ⟨w.heap.size, 2, none⟩ = some (.int .u8 k) := cell_of_blk hbx rfl
  have x3 : w1.cell? ⟨w.heap.size, 3, none⟩ = some (.int .i64 n) := cell_of_blk hbx rfl
  have x4 : w1.cell? ⟨w.heap.size, 4, none⟩ = some (.string s) := cell_of_blk hbx rfl
  have x5 : w1.cell? ⟨w.heap.size, 5, none⟩ = some (.slice A3 l3 c3) := cell_of_blk hbx rfl
  have HBX := Lib.hid hbx
  have hx := HX.out
  clear bw1 hbx
  cases hvl : validB p
  · rw [hvl] at hx
    have HF := Lib.hid (show smallB p = false by rw [hx]; rfl)
    clear hx
    go_wp2_with fail
    go_ret
    exact ⟨by rw [← HRR.out, HF.out]; rfl, q1⟩
  rw [hvl, Bool.true_and] at hx
  have HX2 := Lib.hid hx
  clear hx HX hvl
  go_wp2_with fail
  refine (Size_any p.m _ _ (HM.out.later q1).any).mono ?_
  rintro e w2 ⟨rfl, bw2⟩
  have q2 : Below w.heap.size w w2 := q1.trans (bw2.mono q1.size)
  have hbx : w2.heap[w.heap.size]? = some (.cells #[.slice A1 L1 c1, .slice A2 L2 c2, .int .u8 k, .int .i64 n, .string s, .slice A3 l3 c3] 38 (0, 0)) := (bw2.block _ (blk_lt HBX.out)).trans HBX.out
  have y1 : w2.cell? ⟨w.heap.size, 1, none⟩ = some (.slice A2 L2 c2) := cell_of_blk hbx rfl
  have HBX2 := Lib.hid hbx
  have hx := HX2.out
  obtain ⟨z, hz⟩ : ∃ z, wrap64 (size p.m) = z := ⟨_, rfl⟩
  rw [hz] at hx ⊢
  clear hbx bw2 hz HX2 HBX x2 x3 x4 x5
  by_cases h100 : 100 < z
  · have HF := Lib.hid (show smallB p = false by rw [hx, decide_eq_false (show ¬ z ≤ 100 by omega)]; rfl)
    clear hx
    go_wp2_with fail
    go_ret
    exact ⟨by rw [← HRR.out, HF.out]; rfl, q2⟩
  rw [decide_eq_true (show z ≤ 100 by omega), Bool.true_and] at hx
  have h100' : z ≤ 100 := by omega
  have HX3 := Lib.hid hx
  clear hx h100
  go_wp2_with fail
  go_loopw [3] (fun i wr => ∃ j : Nat, j ≤ L2 ∧ i = .int .i64 j ∧ Below w2.heap.size w2 wr ∧ Hid ((p.prs.take j).all (fun r => decide (wrap64 (size r.b) ≤ 100)) = true)) (fun i _ => L2 - (intOf i).toNat)
  case atStart => exact ⟨0, Nat.zero_le _, rfl, Below.refl _ _, Lib.hid (by simp)⟩
  case round =>
    obtain ⟨j, hj, rfl, hb, HA⟩ := hrel
    clear y1
    have hq : Below w.heap.size w wr := q2.trans (hb.mono q2.size)
    have y1 : wr.cell? ⟨w.heap.size, 1, none⟩ = some (.slice A2 L2 c2) := cell_bl hb (cell_of_blk HBX2.out rfl)
    by_cases hlt : j < L2
    · have hlt' : j < p.prs.length := by rw [HL2.out]; exact hlt
      obtain ⟨a, r, B1, d1, B2, d2, rfl, _, Hr, ⟨z0, z1, z2, z3, z4, z5⟩, hrr⟩ := (HR.out.procs.later hq).nd hlt'
      have HBD := Lib.hid hrr.body.any
      have HT := Lib.hid (show (p.prs.take (j + 1)).all (fun r => decide (wrap64 (size r.b) ≤ 100)) = decide (wrap64 (size r.b) ≤ 100) by rw [pall_take hlt' HA.out, Hr.out])
      have HN := Lib.hid (show decide (wrap64 (size r.b) ≤ 100) = false → smallB p = false from fun h => by rw [HX3.out, pall_none hlt' (by rw [Hr.out]; exact h)])
      clear hrr z0 z1
      go_wp2_with fail
      refine (Size_any r.b _ _ HBD.out).mono ?_
      rintro e w4 ⟨rfl, bw4⟩
      obtain ⟨y, hy⟩ : ∃ y, wrap64 (size r.b) = y := ⟨_, rfl⟩
      have HN' := HN.out
      have HT' := HT.out
      rw [hy] at HN' HT' ⊢
      have HQ4 := Lib.hid (hb.trans (bw4.mono hb.size))
      have HQ5 := Lib.hid (hq.trans (bw4.mono hq.size))
      clear hy
      by_cases g100 : 100 < y
      · have HF := Lib.hid (HN' (decide_eq_false (show ¬ y ≤ 100 by omega)))
        clear HN' HT'
        go_wp2_with fail
        go_ret
        exact ⟨by rw [← HRR.out, HF.out]; rfl, HQ5.out⟩
      · have g100' : y ≤ 100 := by omega
        have HG := Lib.hid (HT'.trans (decide_eq_true g100'))
        clear HN' HT' g100
        go_wp2_with fail
        go_roundw
        case rel => exact ⟨j + 1, by omega, by go_num, HQ4.out, HG⟩
        case measure => simp [intOf]; omega
    · obtain rfl : j = L2 := by omega
      have HF := Lib.hid (show smallB p = true by rw [HX3.out]; have := HA.out; rw [List.take_of_length_le (by rw [HL2.out]; omega)] at this; exact this)
      go_wp2_with fail
      go_ret
      exact ⟨by rw [← HRR.out, HF.out]; rfl, hq⟩

theorem valid_len {p : PG} (h : validB p = true) : p.prs.length ≤ 64 := by
  unfold validB at h
  simp only [Bool.and_eq_true, decide_eq_true_eq] at h
  exact h.1.1.1.2
theorem small_valid {p : PG} (h : smallB p = true) : validB p = true := by
  unfold smallB at h
  simp only [Bool.and_eq_true] at h
  exact h.1.1.2
theorem small_yes {p : PG} {v : Value} {w : World} (h : smallB p = true) (hv : PV w Any p v) : Calls Try.prog 25 #[v] w fun e w' => e = .returned (.int .i64 1) ∧ Below w.heap.size w w' :=
  (small_any p Any v w hv).mono fun e w' ⟨he, hb⟩ => ⟨by rw [he, h]; rfl, hb⟩
theorem small_not {p : PG} {v : Value} {w : World} (h : smallB p = false) (hv : PV w Any p v) : Calls Try.prog 25 #[v] w fun e w' => e = .returned (.int .i64 0) ∧ Below w.heap.size w w' :=
  (small_any p Any v w hv).mono fun e w' ⟨he, hb⟩ => ⟨by rw [he, h]; rfl, hb⟩
theorem wrap_small {n : Nat} (h : n ≤ 2000) : wrap64 (n : Int) = n := by unfold wrap64; omega
theorem Valid_yes {p : PG} {S : Nat → Prop} {v : Value} {w : World} (h : validB p = true) (hv : PV w S p v) : Calls Try.prog 23 #[v] w fun e w' => e = .returned (.bool true) ∧ Below w.heap.size w w' :=
  (Valid_any p S v w hv).mono fun e w' ⟨he, hb⟩ => ⟨by rw [he, h], hb⟩

end Go.Proofs.Ytldcjboignbfpaa
