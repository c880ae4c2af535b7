/-
  The law SimplifyInverts, walked.
-/
import Derived.Test.YtldcjboignbfpaaAwake
import Derived.Test.YtldcjboignbfpaaPure
import Derived.Test.YtldcjboignbfpaaEqualR
namespace Go.Proofs.Ytldcjboignbfpaa
open Go.RowKit

set_option maxHeartbeats 2000000 in
theorem Inverts_walk (t : T) (v : Value) (w : World) (hv : NV w Any t v) : Calls Try.prog 4 #[v] w fun e w' => e = .returned (.bool true) ∧ Below w.heap.size w w' := by
  have HV := Lib.hid hv
  obtain ⟨A, c, rfl, hf, hlk, hlc, hrow⟩ := hv.open_
  clear hf hlk hrow hv hlc
  generalize t.k = k, t.n = n, t.s = s, t.ks.length = l at *
  have hb0 : ∀ o, Below w.heap.size w (w.alloc o) := fun o => (Below.refl _ _).alloc (Nat.le_refl _) _
  have HB0 := Lib.hid hb0
  clear hb0
  obtain ⟨z, hz⟩ : ∃ z, wrap64 (size t) = z := ⟨_, rfl⟩
  have HZ := Lib.hid hz
  clear hz
  go_enter Try.func4, Try.ntmps4
  go_wp2_with fail
  refine (awake_any _).mono ?_
  rintro e w1 ⟨rfl, bw1⟩
  have q1 : Below w.heap.size w w1 := (HB0.out _).trans (bw1.mono (by simp))
  obtain ⟨hc1, hf1⟩ := bcell bw1
  go_wp2_with fail
  refine (Size_any t _ _ (HV.out.later q1)).mono ?_
  rintro e w2 ⟨rfl, bw2⟩
  rw [HZ.out]
  have hs1 : w.heap.size + 1 ≤ w1.heap.size := by have := bw1.size; simpa using this
  have b12 := bw1.trans (bw2.mono (by simpa using hs1))
  have q2 : Below w.heap.size w w2 := q1.trans (bw2.mono q1.size)
  clear hc1 hf1
  obtain ⟨hc1, hf1⟩ := bcell b12
  by_cases h100 : 100 < z
  · go_wp2_with fail
    go_ret
    exact ⟨rfl, q2⟩
  · have h100' : z ≤ 100 := by omega
    clear h100
    cases hB : isB t
    · go_wp2_with fail
      refine (IsBlock_any t _ _ (HV.out.later q2)).mono ?_
      rintro e w3 ⟨rfl, bw3⟩
      have q3 : Below w.heap.size w w3 := q2.trans (bw3.mono q2.size)
      go_wp2_with fail
      go_ret
      exact ⟨rfl, q3⟩
    · have HBk := Lib.hid hB
      go_wp2_with fail
      refine (IsBlock_any t _ _ (HV.out.later q2)).mono ?_
      rintro e w3 ⟨rfl, bw3⟩
      have q3 : Below w.heap.size w w3 := q2.trans (bw3.mono q2.size)
      have hs2 : w.heap.size + 1 ≤ w2.heap.size := by have := b12.size; simpa using this
      have b13 := b12.trans (bw3.mono (by simpa using hs2))
      clear hc1 hf1
      obtain ⟨hc1, hf1⟩ := bcell b13
      go_wp2_with fail
      refine (Stmt_ok t _ _ (HV.out.later q3) (.inr HBk.out)).mono ?_
      rintro e w4 ⟨k4, n4, s4, A4, l4, c4, rfl, hn4, bw4⟩
      have q4 : Below w.heap.size w w4 := q3.trans (bw4.mono q3.size)
      have hs3 : w.heap.size + 1 ≤ w3.heap.size := by have := b13.size; simpa using this
      have b14 := b13.trans (bw4.mono (by simpa using hs3))
      have z0 := cell_al (cell_bl b14 (p := ⟨w.heap.size, 0, none⟩) (u := .int .u8 k) (by simp))
      have z1 := cell_al (cell_bl b14 (p := ⟨w.heap.size, 1, none⟩) (u := .int .i64 n) (by simp))
      have z2 := cell_al (cell_bl b14 (p := ⟨w.heap.size, 2, none⟩) (u := .string s) (by simp))
      have z3 := cell_al (cell_bl b14 (p := ⟨w.heap.size, 3, none⟩) (u := .slice A l c) (by simp))
      clear hc1 hf1
      go_wp2_with fail
      refine (Block_any t _ _ (HV.out.later (q4.alloc q4.size _))).mono ?_
      rintro e w5 ⟨k5, n5, s5, A5, l5, c5, rfl, hn5, bw5⟩
      have hbF : blockF t = simp t := by unfold blockF; rw [HBk.out]; rfl
      rw [hbF] at hn5
      go_wp2_with fail
      refine (Stmt_ok (simp t) _ _ hn5.any (.inr (isB_simp HBk.out))).mono ?_
      rintro e w6 ⟨k6, n6, s6, A6, l6, c6, rfl, hn6, bw6⟩
      clear hn5 hbF z0 z1 z2 z3
      have b46 := bw5.trans (bw6.mono bw5.size)
      have y0 := cell_al (cell_bl b46 (p := ⟨w4.heap.size, 0, none⟩) (u := .int .u8 k4) (by simp))
      have y1 := cell_al (cell_bl b46 (p := ⟨w4.heap.size, 1, none⟩) (u := .int .i64 n4) (by simp))
      have y2 := cell_al (cell_bl b46 (p := ⟨w4.heap.size, 2, none⟩) (u := .string s4) (by simp))
      have y3 := cell_al (cell_bl b46 (p := ⟨w4.heap.size, 3, none⟩) (u := .slice A4 l4 c4) (by simp))
      have hn4' := (hn4.any.later ((Below.refl w4.heap.size w4).alloc (Nat.le_refl _) (.cells #[.int .u8 k4, .int .i64 n4, .string s4, .slice A4 l4 c4] 24))).later b46
      have q6 : Below w.heap.size w w6 := (q4.alloc q4.size _).trans (b46.mono (by have := q4.size; simp; omega))
      have HN4 := Lib.hid hn4'
      have HN6 := Lib.hid hn6.any
      have HF : simp (inv false t) = inv false (simp t) := simp_inv HBk.out
      have HFF := Lib.hid (show blockF (inv false t) = inv false (simp t) by unfold blockF; rw [isB_inv HBk.out]; exact HF)
      clear hn4 hn4' hn6 HF
      have HS : ∀ w', Below (w6.heap.size + 1) (w6.alloc (.cells #[.int .u8 k6, .int .i64 n6, .string s6, .slice A6 l6 c6] 24)) w' → ((w'.cell? ⟨w4.heap.size, 0, none⟩ = some (.int .u8 k4) ∧ w'.cell? ⟨w4.heap.size, 1, none⟩ = some (.int .i64 n4) ∧ w'.cell? ⟨w4.heap.size, 2, none⟩ = some (.string s4) ∧ w'.cell? ⟨w4.heap.size, 3, none⟩ = some (.slice A4 l4 c4)) ∧
          (w'.cell? ⟨w6.heap.size, 0, none⟩ = some (.int .u8 k6) ∧ w'.cell? ⟨w6.heap.size, 1, none⟩ = some (.int .i64 n6) ∧ w'.cell? ⟨w6.heap.size, 2, none⟩ = some (.string s6) ∧ w'.cell? ⟨w6.heap.size, 3, none⟩ = some (.slice A6 l6 c6))) := by
        intro w' h
        have hh : Below (w6.alloc (.cells #[.int .u8 k6, .int .i64 n6, .string s6, .slice A6 l6 c6] 24)).heap.size (w6.alloc (.cells #[.int .u8 k6, .int .i64 n6, .string s6, .slice A6 l6 c6] 24)) w' := h.mono (by simp)
        exact ⟨⟨cell_bl hh (y0 _), cell_bl hh (y1 _), cell_bl hh (y2 _), cell_bl hh (y3 _)⟩, cell_bl hh (by simp), cell_bl hh (by simp), cell_bl hh (by simp), cell_bl hh (by simp)⟩
      have HS1 := Lib.hid HS
      clear HS
      go_wp2_with fail
      go_region_held3 (fun w' => ((w'.cell? ⟨w4.heap.size, 0, none⟩ = some (.int .u8 k4) ∧ w'.cell? ⟨w4.heap.size, 1, none⟩ = some (.int .i64 n4) ∧ w'.cell? ⟨w4.heap.size, 2, none⟩ = some (.string s4) ∧ w'.cell? ⟨w4.heap.size, 3, none⟩ = some (.slice A4 l4 c4)) ∧
          (w'.cell? ⟨w6.heap.size, 0, none⟩ = some (.int .u8 k6) ∧ w'.cell? ⟨w6.heap.size, 1, none⟩ = some (.int .i64 n6) ∧ w'.cell? ⟨w6.heap.size, 2, none⟩ = some (.string s6) ∧ w'.cell? ⟨w6.heap.size, 3, none⟩ = some (.slice A6 l6 c6))))
        (first | exact HS1.out _ (Below.refl _ _).drew | exact HS1.out _ ((Below.refl _ _).drew.trans ((bw8.mono (by simp)).trans (bw9.mono (by have := bw8.size; simp at *; omega)))) | exact HS1.out _ ((Below.refl _ _).drew.trans (bw8.mono (by simp))))
        (first
          | (go_at_call 17; refine (Block_any (inv false t) _ _ (HN4.out.later ((Below.refl _ _).alloc (Nat.le_refl _) _).drew)).mono ?_; rintro e w8 ⟨k8, n8, s8, A8, l8, c8, rfl, hn8, bw8⟩)
          | (go_at_call 18; refine (refEqual_any (blockF (inv false t)) (inv false (simp t)) _ _ _ hn8.any ((HN6.out.later ((Below.refl _ _).alloc (Nat.le_refl _) _).drew).later bw8)).mono ?_; rintro e w9 ⟨rfl, bw9⟩))
      have e9 : teq (blockF (inv false t)) (inv false (simp t)) = true := by rw [HFF.out]; exact teq_refl _
      rw [e9]
      have q9 : Below w.heap.size w w9 := (q6.alloc q6.size _).drew.trans ((bw8.trans (bw9.mono bw8.size)).mono (by have := q6.size; simp; omega))
      go_wp2_with fail
      go_ret
      exact ⟨rfl, q9⟩

end Go.Proofs.Ytldcjboignbfpaa
