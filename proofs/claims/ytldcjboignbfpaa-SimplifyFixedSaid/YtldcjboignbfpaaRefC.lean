/-
  The contract of the reference's Cancels, and the law SimplifyCancels, walked.
-/
import Derived.Test.YtldcjboignbfpaaRefI
import Derived.Test.YtldcjboignbfpaaEqualR
namespace Go.Proofs.Ytldcjboignbfpaa
open Go.RowKit

theorem inv_k56 {a : T} (ha : isS a = true) (h : a.k ≠ 56) : (inv false a).k ≠ 56 := by
  rcases a with ⟨k, n, s, ks⟩
  simp only [T.k_nd] at h
  rcases isS_cases ha with ⟨hk, h57⟩ | ⟨hk, hp, x0, x1, x2, x3, rfl, e0, e1, e2, e3⟩ | ⟨rfl, hp, x0, x1, x2, rfl, e0, e1, e2⟩ | ⟨rfl, hp, x0, rfl, e0⟩
  · rw [inv_simple hk h57]
    show exch k ≠ 56
    unfold exch
    repeat' split
    all_goals omega
  · rw [inv_if hk e0 e1 e2 e3]; show k ≠ 56; omega
  · rw [inv_local e0 e1 e2]; show (54 : Int) ≠ 56; omega
  · rw [inv_lstack e0]; show (55 : Int) ≠ 56; omega
theorem canc_comm (a b : T) : canc a b = canc b a := by
  have h : ∀ a b, canc a b = true → canc b a = true := fun a b h => by
    obtain ⟨h1, h2, h3, rfl⟩ := (canc_iff a b).1 h
    exact (canc_iff _ _).2 ⟨h2, h1, inv_k56 h1 h3, (inv_inv h1).symm⟩
  cases h1 : canc a b <;> cases h2 : canc b a
  · rfl
  · rw [h b a h2] at h1; cases h1
  · rw [h a b h1] at h2; cases h2
  · rfl
theorem teq_comm (a b : T) : teq a b = teq b a := by
  cases h1 : teq a b <;> cases h2 : teq b a
  · rfl
  · rw [(teq_iff b a).1 h2, teq_refl] at h1; cases h1
  · rw [(teq_iff a b).1 h1, teq_refl] at h2; cases h2
  · rfl

theorem drewN_below {B : Nat} {w w' : World} (h : Below B w w') (n : Nat) : Below B w (w'.drewN n) := ⟨h.os, h.tape, h.output, h.size, h.block⟩

set_option maxHeartbeats 4000000 in
set_option maxRecDepth 100000 in
theorem refCancels_any (a b : T) (v1 v2 : Value) (w : World) (hv1 : NV w Any a v1) (hv2 : NV w Any b v2) (ha : isS a = true) :
    Calls Try.prog 13 #[v1, v2] w fun e w' => e = .returned (.bool (!(a.k == 56) && teq (inv false a) b)) ∧ Below w.heap.size w w' := by
  have HV1 := Lib.hid hv1
  have HV2 := Lib.hid hv2
  have HA := Lib.hid ha
  obtain ⟨A, c, rfl, hf, hlk, hlc, hrow⟩ := hv1.open_
  obtain ⟨A', c', rfl, hf', hlk', hlc', hrow'⟩ := hv2.open_
  clear hf hlk hrow hv1 hlc hf' hlk' hrow' hv2 hlc' ha
  generalize a.k = k, a.n = n, a.s = s, a.ks.length = l at *
  generalize b.k = k', b.n = n', b.s = s', b.ks.length = l' at *
  have hb2 : ∀ o o', Below w.heap.size w ((w.alloc o).alloc o') := fun o o' => ((Below.refl _ _).alloc (Nat.le_refl _) _).alloc (by simp) _
  have HB2 := Lib.hid hb2
  clear hb2
  cases hk : (k == 56)
  · have hkb : (k != 56) = true := by simpa using hk
    go_enter Try.func13, Try.ntmps13
    go_wp2_with fail
    obtain ⟨W1, hW1⟩ : ∃ W1, (w.alloc (.cells #[.int .u8 k, .int .i64 n, .string s, .slice A l c] 24)).alloc (.cells #[.int .u8 k', .int .i64 n', .string s', .slice A' l' c'] 24) = W1 := ⟨_, rfl⟩
    have hc : (W1.cell? ⟨w.heap.size, 0, none⟩ = some (.int .u8 k) ∧ W1.cell? ⟨w.heap.size, 1, none⟩ = some (.int .i64 n) ∧ W1.cell? ⟨w.heap.size, 2, none⟩ = some (.string s) ∧ W1.cell? ⟨w.heap.size, 3, none⟩ = some (.slice A l c)) ∧
        (W1.cell? ⟨w.heap.size + 1, 0, none⟩ = some (.int .u8 k') ∧ W1.cell? ⟨w.heap.size + 1, 1, none⟩ = some (.int .i64 n') ∧ W1.cell? ⟨w.heap.size + 1, 2, none⟩ = some (.string s') ∧ W1.cell? ⟨w.heap.size + 1, 3, none⟩ = some (.slice A' l' c')) := by
      subst hW1
      exact ⟨⟨by simp, by simp, by simp, by simp⟩, by simp, by simp, by simp, by simp⟩
    have q1 : Below w.heap.size w W1 := by subst hW1; exact HB2.out _ _
    have HS1 := Lib.hid (show ∀ w', Below W1.heap.size W1 w' → (w'.cell? ⟨w.heap.size, 0, none⟩ = some (.int .u8 k) ∧ w'.cell? ⟨w.heap.size, 1, none⟩ = some (.int .i64 n) ∧ w'.cell? ⟨w.heap.size, 2, none⟩ = some (.string s) ∧ w'.cell? ⟨w.heap.size, 3, none⟩ = some (.slice A l c)) ∧
        (w'.cell? ⟨w.heap.size + 1, 0, none⟩ = some (.int .u8 k') ∧ w'.cell? ⟨w.heap.size + 1, 1, none⟩ = some (.int .i64 n') ∧ w'.cell? ⟨w.heap.size + 1, 2, none⟩ = some (.string s') ∧ w'.cell? ⟨w.heap.size + 1, 3, none⟩ = some (.slice A' l' c')) from
      fun w' h => ⟨⟨cell_bl h hc.1.1, cell_bl h hc.1.2.1, cell_bl h hc.1.2.2.1, cell_bl h hc.1.2.2.2⟩, cell_bl h hc.2.1, cell_bl h hc.2.2.1, cell_bl h hc.2.2.2.1, cell_bl h hc.2.2.2.2⟩)
    rw [hW1]
    clear hW1 hc
    go_region_held3 (fun w' => (w'.cell? ⟨w.heap.size, 0, none⟩ = some (.int .u8 k) ∧ w'.cell? ⟨w.heap.size, 1, none⟩ = some (.int .i64 n) ∧ w'.cell? ⟨w.heap.size, 2, none⟩ = some (.string s) ∧ w'.cell? ⟨w.heap.size, 3, none⟩ = some (.slice A l c)) ∧
        (w'.cell? ⟨w.heap.size + 1, 0, none⟩ = some (.int .u8 k') ∧ w'.cell? ⟨w.heap.size + 1, 1, none⟩ = some (.int .i64 n') ∧ w'.cell? ⟨w.heap.size + 1, 2, none⟩ = some (.string s') ∧ w'.cell? ⟨w.heap.size + 1, 3, none⟩ = some (.slice A' l' c')))
      (first | exact HS1.out _ (Below.refl _ _).drew | exact HS1.out _ bz)
      (first
        | (go_at_call 38; refine (Inverse_any a Any _ _ (HV1.out.later (q1.trans (Below.refl _ _).drew)) (.inl HA.out)).mono ?_; rintro e w2 ⟨k1, n1, s1, A1, l1, c1, rfl, hn2, bw2⟩; have bz := (Below.refl W1.heap.size W1).drew.trans (bw2.mono (by simp)))
        | (go_at_call 18; refine (refEqual_any (inv false a) b _ _ _ hn2.any ((HV2.out.later q1).later bz)).mono ?_; rintro e w3 ⟨rfl, bw3⟩; have bz' := bz.trans (bw3.mono bz.size); clear bz; have bz := bz')
        | fail)
    go_wp2_with fail
    go_ret
    exact ⟨rfl, q1.trans (bz.mono q1.size)⟩
  · obtain rfl : k = 56 := by simpa using hk
    clear hk
    go_enter Try.func13, Try.ntmps13
    go_wp2_with fail
    go_quiet (fail)
    go_wp2_with fail
    go_ret
    exact ⟨rfl, drewN_below (HB2.out _ _) nq⟩

set_option maxHeartbeats 4000000 in
set_option maxRecDepth 100000 in
theorem Cancels_walk (a b : T) (v1 v2 : Value) (w : World) (hv1 : NV w Any a v1) (hv2 : NV w Any b v2) : Calls Try.prog 3 #[v1, v2] w fun e w' => e = .returned (.bool true) ∧ Below w.heap.size w w' := by
  have HV1 := Lib.hid hv1
  have HV2 := Lib.hid hv2
  obtain ⟨A, c, rfl, hf, hlk, hlc, hrow⟩ := hv1.open_
  obtain ⟨A', c', rfl, hf', hlk', hlc', hrow'⟩ := hv2.open_
  clear hf hlk hrow hv1 hlc hf' hlk' hrow' hv2 hlc'
  have HX := Lib.hid (show canc a b = (isS a && isS b && (!(a.k == 56) && teq (inv false a) b)) by unfold canc; rw [teq_comm b]; simp [Bool.and_assoc])
  obtain ⟨z0, hz0⟩ : ∃ z, (!(a.k == 56) && teq (inv false a) b) = z := ⟨_, rfl⟩
  have HZ0 := Lib.hid hz0
  clear hz0
  generalize a.n = n, a.s = s, a.ks.length = l at *
  generalize b.k = k', b.n = n', b.s = s', b.ks.length = l' at *
  obtain ⟨k, hk⟩ : ∃ k, a.k = k := ⟨_, rfl⟩
  have hv1 := HV1.out
  rw [hk] at hv1 ⊢
  clear hk HV1
  have HV1 := Lib.hid hv1
  clear hv1
  have hb2 : ∀ o o', Below w.heap.size w ((w.alloc o).alloc o') := fun o o' => ((Below.refl _ _).alloc (Nat.le_refl _) _).alloc (by simp) _
  have HB2 := Lib.hid hb2
  clear hb2
  obtain ⟨z, hz⟩ : ∃ z, wrap64 (size a) = z := ⟨_, rfl⟩
  have HZ := Lib.hid hz
  obtain ⟨y, hy⟩ : ∃ y, wrap64 (size b) = y := ⟨_, rfl⟩
  have HY := Lib.hid hy
  clear hz hy
  go_enter Try.func3, Try.ntmps3
  go_wp2_with fail
  refine (awake_any _).mono ?_
  rintro e w1 ⟨rfl, bw1⟩
  have q1 : Below w.heap.size w w1 := (HB2.out _ _).trans (bw1.mono (by simp; omega))
  obtain ⟨hc1, hf1⟩ := bcell bw1
  go_wp2_with fail
  refine (Size_any a _ _ (HV1.out.later q1)).mono ?_
  rintro e w2 ⟨rfl, bw2⟩
  rw [HZ.out]
  have hs1 : w.heap.size + 2 ≤ w1.heap.size := by have := bw1.size; simpa using this
  have b12 := bw1.trans (bw2.mono (by simpa using hs1))
  have q2 : Below w.heap.size w w2 := q1.trans (bw2.mono q1.size)
  clear hc1 hf1
  obtain ⟨hc1, hf1⟩ := bcell b12
  by_cases h60 : 60 < z
  · go_wp2_with fail
    go_ret
    exact ⟨rfl, q2⟩
  have h60' : z ≤ 60 := by omega
  clear h60
  go_wp2_with fail
  refine (Size_any b _ _ (HV2.out.later q2)).mono ?_
  rintro e w3 ⟨rfl, bw3⟩
  rw [HY.out]
  have hs2 : w.heap.size + 2 ≤ w2.heap.size := by have := b12.size; simpa using this
  have b13 := b12.trans (bw3.mono (by simpa using hs2))
  have q3 : Below w.heap.size w w3 := q2.trans (bw3.mono q2.size)
  clear hc1 hf1
  obtain ⟨hc1, hf1⟩ := bcell b13
  by_cases g60 : 60 < y
  · go_wp2_with fail
    go_ret
    exact ⟨rfl, q3⟩
  have g60' : y ≤ 60 := by omega
  clear g60
  have hs3 : w.heap.size + 2 ≤ w3.heap.size := by have := b13.size; simpa using this
  cases ha : isS a
  · have HC := Lib.hid (show canc a b = false by rw [HX.out, ha]; rfl)
    go_wp2_with fail
    refine (IsStmt_any a _ _ (HV1.out.later q3)).mono ?_
    rintro e w4 ⟨rfl, bw4⟩
    rw [ha]
    have q4 : Below w.heap.size w w4 := q3.trans (bw4.mono q3.size)
    have b14 := b13.trans (bw4.mono (by simpa using hs3))
    have hs4 : w.heap.size + 2 ≤ w4.heap.size := by have := b14.size; simpa using this
    clear hc1 hf1
    obtain ⟨hc1, hf1⟩ := bcell b14
    go_wp2_with fail
    refine (Cancels_any a b _ _ _ (HV1.out.later q4) (HV2.out.later q4)).mono ?_
    rintro e w5 ⟨rfl, bw5⟩
    rw [HC.out]
    have q5 : Below w.heap.size w w5 := q4.trans (bw5.mono q4.size)
    have b15 := b14.trans (bw5.mono (by simpa using hs4))
    clear hc1 hf1
    obtain ⟨hc1, hf1⟩ := bcell b15
    go_wp2_with fail
    refine (Cancels_any b a _ _ _ (HV2.out.later q5) (HV1.out.later q5)).mono ?_
    rintro e w6 ⟨rfl, bw6⟩
    rw [← canc_comm, HC.out]
    go_wp2_with fail
    go_ret
    exact ⟨rfl, q5.trans (bw6.mono q5.size)⟩
  have HA := Lib.hid ha
  go_wp2_with fail
  refine (IsStmt_any a _ _ (HV1.out.later q3)).mono ?_
  rintro e w4 ⟨rfl, bw4⟩
  rw [HA.out]
  have q4 : Below w.heap.size w w4 := q3.trans (bw4.mono q3.size)
  have b14 := b13.trans (bw4.mono (by simpa using hs3))
  have hs4 : w.heap.size + 2 ≤ w4.heap.size := by have := b14.size; simpa using this
  clear hc1 hf1
  obtain ⟨hc1, hf1⟩ := bcell b14
  cases hb : isS b
  · have HC := Lib.hid (show canc a b = false by rw [HX.out, hb]; simp)
    go_wp2_with fail
    refine (IsStmt_any b _ _ (HV2.out.later q4)).mono ?_
    rintro e w5 ⟨rfl, bw5⟩
    rw [hb]
    have q5 : Below w.heap.size w w5 := q4.trans (bw5.mono q4.size)
    have b15 := b14.trans (bw5.mono (by simpa using hs4))
    have hs5 : w.heap.size + 2 ≤ w5.heap.size := by have := b15.size; simpa using this
    clear hc1 hf1
    obtain ⟨hc1, hf1⟩ := bcell b15
    go_wp2_with fail
    refine (Cancels_any a b _ _ _ (HV1.out.later q5) (HV2.out.later q5)).mono ?_
    rintro e w6 ⟨rfl, bw6⟩
    rw [HC.out]
    have q6 : Below w.heap.size w w6 := q5.trans (bw6.mono q5.size)
    have b16 := b15.trans (bw6.mono (by simpa using hs5))
    clear hc1 hf1
    obtain ⟨hc1, hf1⟩ := bcell b16
    go_wp2_with fail
    refine (Cancels_any b a _ _ _ (HV2.out.later q6) (HV1.out.later q6)).mono ?_
    rintro e w7 ⟨rfl, bw7⟩
    rw [← canc_comm, HC.out]
    go_wp2_with fail
    go_ret
    exact ⟨rfl, q6.trans (bw7.mono q6.size)⟩
  have HC := Lib.hid (show canc a b = z0 by rw [HX.out, hb, ha, HZ0.out]; simp)
  have HB := Lib.hid hb
  go_wp2_with fail
  refine (IsStmt_any b _ _ (HV2.out.later q4)).mono ?_
  rintro e w5 ⟨rfl, bw5⟩
  rw [HB.out]
  have q5 : Below w.heap.size w w5 := q4.trans (bw5.mono q4.size)
  have b15 := b14.trans (bw5.mono (by simpa using hs4))
  have hs5 : w.heap.size + 2 ≤ w5.heap.size := by have := b15.size; simpa using this
  clear hc1 hf1
  obtain ⟨hc1, hf1⟩ := bcell b15
  go_wp2_with fail
  refine (refCancels_any a b _ _ _ (HV1.out.later q5) (HV2.out.later q5) HA.out).mono ?_
  rintro e w6 ⟨rfl, bw6⟩
  rw [HZ0.out]
  have q6 : Below w.heap.size w w6 := q5.trans (bw6.mono q5.size)
  have b16 := b15.trans (bw6.mono (by simpa using hs5))
  have hs6 : w.heap.size + 2 ≤ w6.heap.size := by have := b16.size; simpa using this
  clear hc1 hf1
  obtain ⟨hc1, hf1⟩ := bcell b16
  go_wp2_with fail
  refine (Cancels_any a b _ _ _ (HV1.out.later q6) (HV2.out.later q6)).mono ?_
  rintro e w7 ⟨rfl, bw7⟩
  rw [HC.out]
  have q7 : Below w.heap.size w w7 := q6.trans (bw7.mono q6.size)
  have b17 := b16.trans (bw7.mono (by simpa using hs6))
  clear hc1 hf1
  obtain ⟨hc1, hf1⟩ := bcell b17
  go_wp2_with fail
  refine (Cancels_any b a _ _ _ (HV2.out.later q7) (HV1.out.later q7)).mono ?_
  rintro e w8 ⟨rfl, bw8⟩
  rw [← canc_comm, HC.out]
  cases z0
  · go_wp2_with fail
    go_ret
    exact ⟨rfl, q7.trans (bw8.mono q7.size)⟩
  · go_wp2_with fail
    go_ret
    exact ⟨rfl, q7.trans (bw8.mono q7.size)⟩

end Go.Proofs.Ytldcjboignbfpaa
