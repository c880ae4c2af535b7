/-
  The law SimplifyBlocks, walked.
-/
import Derived.Test.YtldcjboignbfpaaAwake
import Derived.Test.YtldcjboignbfpaaEqualR
import Derived.Test.YtldcjboignbfpaaPrg
import Derived.Test.YtldcjboignbfpaaRefP
import Derived.Test.YtldcjboignbfpaaSame
import Derived.Test.YtldcjboignbfpaaSml
import Derived.Test.YtldcjboignbfpaaPi
namespace Go.Proofs.Ytldcjboignbfpaa
open Go.RowKit

theorem valid_main {p : PG} (h : validB p = true) : isB p.m = true := by
  unfold validB at h
  simp only [Bool.and_eq_true] at h
  have := h.2
  unfold isBodyB at this
  simp only [Bool.and_eq_true] at this
  exact this.2
theorem valid_procs {p : PG} (h : validB p = true) : ∀ r ∈ p.prs, isB r.b = true := fun r hr => by
  unfold validB at h
  simp only [Bool.and_eq_true, List.all_eq_true] at h
  have := h.1.2 r hr
  unfold procB isBodyB at this
  simp only [Bool.and_eq_true] at this
  exact this.2.2
theorem valid_len {p : PG} (h : validB p = true) : p.prs.length ≤ 64 := by
  unfold validB at h
  simp only [Bool.and_eq_true, decide_eq_true_eq] at h
  exact h.1.1.1.2
theorem small_valid {p : PG} (h : smallB p = true) : validB p = true := by
  unfold smallB at h
  simp only [Bool.and_eq_true] at h
  exact h.1.1.2
theorem progF_simpG {p : PG} (h : validB p = true) : progF p = simpG p := by
  rw [progF_yes h]; rfl

theorem fnSmall : IsFn Try.prog 25 Try.f25 := ⟨Try.func25, by kernel_rfl, by kernel_rfl⟩
/-- A value and a frame. -/
def IsV (x : Value) (w : World) (v : Value) (w' : World) : Prop := v = x ∧ Below w.heap.size w w'
theorem small_no {p : PG} {v : Value} {w : World} (h : smallB p = false) (hv : PV w Any p v) : Calls Try.prog 25 #[v] w fun e w' => ∃ v, e = .returned v ∧ IsV (.int .i64 0) w v w' :=
  (small_any p Any v w hv).mono fun e w' ⟨he, hb⟩ => ⟨_, he, by rw [h]; rfl, hb⟩

theorem Same_eq {p q : PG} {S S' : Nat → Prop} {v1 v2 : Value} {w : World} (h : p = q) (hv1 : PV w S p v1) (hv2 : PV w S' q v2) : Calls Try.prog 24 #[v1, v2] w fun e w' => e = .returned (.bool true) ∧ Below w.heap.size w w' :=
  (Same_any p q S S' v1 v2 w hv1 hv2).mono fun e w' ⟨r, he, hr, hb⟩ => ⟨by rw [he, hr.2 h], hb⟩

set_option maxHeartbeats 8000000 in
set_option maxRecDepth 100000 in
theorem Blocks_walk (p : PG) (t : T) (v1 v2 : Value) (w : World) (hv1 : PV w Any p v1) (hv2 : NV w Any t v2) : Calls Try.prog 7 #[v1, v2] w fun e w' => e = .returned (.bool true) ∧ Below w.heap.size w w' := by
  have hvv := hv1
  obtain ⟨A1, c1, A2, c2, A3, c3, rfl, hr⟩ := hv1
  have hmm := hr.main
  obtain ⟨L1, hL1⟩ : ∃ L, p.vs.length = L := ⟨_, rfl⟩
  obtain ⟨L2, hL2⟩ : ∃ L, p.prs.length = L := ⟨_, rfl⟩
  obtain ⟨k, hk⟩ : ∃ k, p.m.k = k := ⟨_, rfl⟩
  obtain ⟨n, hn⟩ : ∃ n, p.m.n = n := ⟨_, rfl⟩
  obtain ⟨s, hs⟩ : ∃ s, p.m.s = s := ⟨_, rfl⟩
  obtain ⟨l3, hl3⟩ : ∃ l, p.m.ks.length = l := ⟨_, rfl⟩
  rw [hk, hn, hs, hl3] at hmm
  rw [hL1, hL2, hk, hn, hs, hl3]
  rw [hL1, hL2, hk, hn, hs, hl3] at hvv
  have HL2 := Lib.hid hL2
  have HM := Lib.hid hmm
  have HV := Lib.hid hvv
  have HN := Lib.hid hv2
  obtain ⟨B, tc, rfl, -⟩ := hv2.open_
  clear hr hmm hvv hL1 hL2 hk hn hs hl3 hv2
  generalize t.k = tk, t.n = tn, t.s = ts, t.ks.length = tl at *
  obtain ⟨z, hz⟩ : ∃ z, wrap64 (size t) = z := ⟨_, rfl⟩
  have HZ := Lib.hid hz
  clear hz
  go_enter Try.func7, Try.ntmps7
  go_wp2_with fail
  refine (awake_any _).mono ?_
  rintro e w1 ⟨rfl, bw1⟩
  have q1 : Below w.heap.size w w1 := bl_tt (bl_al (bl_al (Below.refl _ _) _) _) bw1
  have hP := blk_bl (blk_al (heap_alloc_new w (.cells #[.slice A1 L1 c1, .slice A2 L2 c2, .int .u8 k, .int .i64 n, .string s, .slice A3 l3 c3] 38)) _) bw1
  have hN := blk_bl (heap_alloc_new (w.alloc (.cells #[.slice A1 L1 c1, .slice A2 L2 c2, .int .u8 k, .int .i64 n, .string s, .slice A3 l3 c3] 38)) (.cells #[.int .u8 tk, .int .i64 tn, .string ts, .slice B tl tc] 24)) bw1
  simp only [World.size_alloc] at hN
  obtain ⟨a0, a1, a2, a3, a4, a5⟩ := box6 hP
  obtain ⟨b0, b1, b2, b3⟩ := box4 hN
  have HP := Lib.hid hP
  have HNB := Lib.hid hN
  clear bw1 hP hN
  by_cases h4 : 4 < L2
  · have h4' : (4 : Int) < (L2 : Int) := by omega
    go_wp2_with fail
    go_ret
    exact ⟨rfl, q1⟩
  have h4' : (L2 : Int) ≤ 4 := by omega
  go_wp2_with fail
  refine (Size_any t _ _ (HN.out.later q1)).mono ?_
  rintro e w2 ⟨rfl, bw2⟩
  rw [HZ.out]
  by_cases h100 : 100 < z
  · have q2 := bl_tt q1 bw2
    clear bw2
    go_wp2_with fail
    go_ret
    exact ⟨rfl, q2⟩
  have h100' : z ≤ 100 := by omega
  have q2 := bl_tt q1 bw2
  have hP := blk_bl HP.out bw2
  have hN := blk_bl HNB.out bw2
  clear h100 a0 a1 a2 a3 a4 a5 b0 b1 b2 b3 HP HNB bw2 q1
  obtain ⟨b0, b1, b2, b3⟩ := box4 hN
  have HP := Lib.hid hP
  have HNB := Lib.hid hN
  clear hP hN
  go_wp2_with fail
  refine (Block_any t _ _ (HN.out.later q2)).mono ?_
  rintro e w3 ⟨k3, n3, s3, A4, l4, c4, rfl, hn3, bw3⟩
  have q3 := bl_tt q2 bw3
  have hP := blk_al (blk_bl HP.out bw3) (.cells #[.int .u8 k3, .int .i64 n3, .string s3, .slice A4 l4 c4] 24)
  have hN := blk_al (blk_bl HNB.out bw3) (.cells #[.int .u8 k3, .int .i64 n3, .string s3, .slice A4 l4 c4] 24)
  have hM := heap_alloc_new w3 (.cells #[.int .u8 k3, .int .i64 n3, .string s3, .slice A4 l4 c4] 24)
  have q4 := bl_al q3 (.cells #[.int .u8 k3, .int .i64 n3, .string s3, .slice A4 l4 c4] 24)
  have hn4 := hn3.any.later ((Below.refl w3.heap.size w3).alloc (Nat.le_refl _) (.cells #[.int .u8 k3, .int .i64 n3, .string s3, .slice A4 l4 c4] 24))
  clear b0 b1 b2 b3 HP HNB
  obtain ⟨b0, b1, b2, b3⟩ := box4 hN
  have HN4 := Lib.hid hn4
  have HP := Lib.hid hP
  have HNB := Lib.hid hN
  have HMB := Lib.hid hM
  clear hn3 bw3 hP hN hM hn4 q2 q3
  go_wp2_with fail
  refine (IsBlock_any t _ _ (HN.out.later q4)).mono ?_
  rintro e w5 ⟨rfl, bw5⟩
  have q5 := bl_tt q4 bw5
  have HN5 := Lib.hid (HN4.out.later bw5)
  have hN := blk_bl HNB.out bw5
  have hM := blk_bl HMB.out bw5
  have HP5 := Lib.hid (blk_bl HP.out bw5)
  clear b0 b1 b2 b3 HP HNB HMB q4 bw5 HN4
  obtain ⟨b0, b1, b2, b3⟩ := box4 hN
  obtain ⟨m0, m1, m2, m3⟩ := box4 hM
  have HQ5 := Lib.hid q5
  clear q5
  cases hB : isB t
  case' false =>
    have HBk := Lib.hid hB
    clear hN hM
    go_wp2_with fail
    refine (refEqual_any (blockF t) t _ _ _ HN5.out (HN.out.later HQ5.out)).mono ?_
    rintro e w7 ⟨rfl, bw7⟩
    have e7 : teq (blockF t) t = true := by unfold blockF; rw [HBk.out]; exact teq_refl _
    rw [e7]
    have q7 := bl_tt HQ5.out bw7
    have hP := blk_bl HP5.out bw7
    clear b0 b1 b2 b3 m0 m1 m2 m3 bw7 HP5 HQ5 e7 HN5
    obtain ⟨a0, a1, a2, a3, a4, a5⟩ := box6 hP
    have HP := Lib.hid hP
    clear hP
    go_wp2_with fail
  case' true =>
    have HBk := Lib.hid hB
    have HS1 := Lib.hid (show ∀ w', Below w5.heap.size w5 w' → ((w'.cell? ⟨w.heap.size + 1, 0, none⟩ = some (.int .u8 tk) ∧ w'.cell? ⟨w.heap.size + 1, 1, none⟩ = some (.int .i64 tn) ∧ w'.cell? ⟨w.heap.size + 1, 2, none⟩ = some (.string ts) ∧ w'.cell? ⟨w.heap.size + 1, 3, none⟩ = some (.slice B tl tc)) ∧
      (w'.cell? ⟨w3.heap.size, 0, none⟩ = some (.int .u8 k3) ∧ w'.cell? ⟨w3.heap.size, 1, none⟩ = some (.int .i64 n3) ∧ w'.cell? ⟨w3.heap.size, 2, none⟩ = some (.string s3) ∧ w'.cell? ⟨w3.heap.size, 3, none⟩ = some (.slice A4 l4 c4))) from fun w' h => ⟨box4 (blk_bl hN h), box4 (blk_bl hM h)⟩)
    have HK0 := Lib.hid (HS1.out _ (Below.refl _ _).drew)
    clear hN hM
    go_wp2_with fail
    go_region_held3 (fun w' => ((w'.cell? ⟨w.heap.size + 1, 0, none⟩ = some (.int .u8 tk) ∧ w'.cell? ⟨w.heap.size + 1, 1, none⟩ = some (.int .i64 tn) ∧ w'.cell? ⟨w.heap.size + 1, 2, none⟩ = some (.string ts) ∧ w'.cell? ⟨w.heap.size + 1, 3, none⟩ = some (.slice B tl tc)) ∧
      (w'.cell? ⟨w3.heap.size, 0, none⟩ = some (.int .u8 k3) ∧ w'.cell? ⟨w3.heap.size, 1, none⟩ = some (.int .i64 n3) ∧ w'.cell? ⟨w3.heap.size, 2, none⟩ = some (.string s3) ∧ w'.cell? ⟨w3.heap.size, 3, none⟩ = some (.slice A4 l4 c4))))
      (first | with_reducible exact HK2.out | with_reducible exact HK1.out | with_reducible exact HK0.out)
      (first
        | (go_at_call 20; refine (refBlock_any t HBk.out Any _ _ (HN.out.later HQ5.out.drew)).mono ?_; rintro e w6 ⟨k6, n6, s6, A6, l6, c6, rfl, hn6, bw6⟩; have b56 := bl_tt (Below.refl w5.heap.size w5).drew bw6; have HK1 := Lib.hid (HS1.out _ b56))
        | (go_at_call 18; refine (refEqual_any (blockF t) (simp t) _ _ _ (HN5.out.later b56) hn6.any).mono ?_; rintro e w7 ⟨rfl, bw7⟩; have b57 := bl_tt b56 bw7; have HK2 := Lib.hid (HS1.out _ b57))
        | fail)
    have e7 : teq (blockF t) (simp t) = true := by unfold blockF; rw [HBk.out]; exact teq_refl _
    rw [e7]
    have q7 := bl_tt HQ5.out b57
    have hP := blk_bl HP5.out b57
    clear b0 b1 b2 b3 m0 m1 m2 m3 bw7 HP5 HQ5 e7 HN5 b57 b56 bw6 hn6 HS1 HK0 HK1 HK2
    obtain ⟨a0, a1, a2, a3, a4, a5⟩ := box6 hP
    have HP := Lib.hid hP
    clear hP
    go_wp2_with fail
  all_goals
    refine (Clone_any p.m _ _ (HM.out.later q7)).mono ?_
    rintro e w8 ⟨k8, n8, s8, A8, l8, c8, rfl, hn8, bw8⟩
    have q8 := bl_al (bl_tt q7 bw8) (.cells #[.int .u8 k8, .int .i64 n8, .string s8, .slice A8 l8 c8] 24)
    have hP := blk_al (blk_bl HP.out bw8) (.cells #[.int .u8 k8, .int .i64 n8, .string s8, .slice A8 l8 c8] 24)
    have HC := Lib.hid (heap_alloc_new w8 (.cells #[.int .u8 k8, .int .i64 n8, .string s8, .slice A8 l8 c8] 24))
    have HN8 := Lib.hid (hn8.any.later ((Below.refl w8.heap.size w8).alloc (Nat.le_refl _) (.cells #[.int .u8 k8, .int .i64 n8, .string s8, .slice A8 l8 c8] 24)))
    clear a0 a1 a2 a3 a4 a5 HP q7 bw8 hn8
    obtain ⟨a0, a1, a2, a3, a4, a5⟩ := box6 hP
    have HP := Lib.hid hP
    have HQ8 := Lib.hid q8
    clear hP q8
    go_wp2_with fail
    refine (Program_any p Any _ _ (HV.out.later HQ8.out) (by have := HL2.out; omega)).mono ?_
    rintro e w9 ⟨v9, rfl, hv9, bw9⟩
    obtain ⟨G, hG⟩ : ∃ G, progF p = G := ⟨_, rfl⟩
    rw [hG] at hv9
    have HG := Lib.hid hG
    have hv9' := hv9
    obtain ⟨D1, e1, D2, e2, D3, e3, rfl, -⟩ := hv9
    have q9 := bl_al (bl_tt HQ8.out bw9) (.cells #[.slice D1 G.vs.length e1, .slice D2 G.prs.length e2, .int .u8 G.m.k, .int .i64 G.m.n, .string G.m.s, .slice D3 G.m.ks.length e3] 38)
    have hP := blk_al (blk_bl HP.out bw9) (.cells #[.slice D1 G.vs.length e1, .slice D2 G.prs.length e2, .int .u8 G.m.k, .int .i64 G.m.n, .string G.m.s, .slice D3 G.m.ks.length e3] 38)
    have hC := blk_al (blk_bl HC.out bw9) (.cells #[.slice D1 G.vs.length e1, .slice D2 G.prs.length e2, .int .u8 G.m.k, .int .i64 G.m.n, .string G.m.s, .slice D3 G.m.ks.length e3] 38)
    have HQB := Lib.hid (heap_alloc_new w9 (.cells #[.slice D1 G.vs.length e1, .slice D2 G.prs.length e2, .int .u8 G.m.k, .int .i64 G.m.n, .string G.m.s, .slice D3 G.m.ks.length e3] 38))
    have hal := (Below.refl w9.heap.size w9).alloc (Nat.le_refl _) (.cells #[.slice D1 G.vs.length e1, .slice D2 G.prs.length e2, .int .u8 G.m.k, .int .i64 G.m.n, .string G.m.s, .slice D3 G.m.ks.length e3] 38)
    have HN9 := Lib.hid ((HN8.out.later bw9).later hal)
    have HV9 := Lib.hid ((hv9'.later hal).mono fun _ _ => (trivial : Any _))
    clear a0 a1 a2 a3 a4 a5 HP HQ8 bw9 hv9' hG HC HN8 hal
    obtain ⟨a0, a1, a2, a3, a4, a5⟩ := box6 hP
    obtain ⟨b0, b1, b2, b3⟩ := box4 hC
    have HP := Lib.hid hP
    have HQ9 := Lib.hid q9
    clear hP q9 hC
    go_wp2_with fail
    refine (refEqual_any p.m p.m _ _ _ (HM.out.later HQ9.out) HN9.out).mono ?_
    rintro e w10 ⟨rfl, bw10⟩
    rw [teq_refl]
    have q10 := bl_tt HQ9.out bw10
    have hP := blk_bl HP.out bw10
    have HQB' := Lib.hid (blk_bl HQB.out bw10)
    have HV10 := Lib.hid (HV9.out.later bw10)
    clear a0 a1 a2 a3 a4 a5 b0 b1 b2 b3 HP HQ9 bw10 HQB HN9 HV9
    obtain ⟨a0, a1, a2, a3, a4, a5⟩ := box6 hP
    have HP := Lib.hid hP
    have HQ10 := Lib.hid q10
    clear hP q10
    obtain ⟨vb, hvb⟩ : ∃ vb, validB p = vb := ⟨_, rfl⟩
    have HVB := Lib.hid hvb
    clear hvb
    go_wp2_with fail
    refine (Valid_any p Any _ _ (HV.out.later HQ10.out)).mono ?_
    rintro e w11 ⟨rfl, bw11⟩
    rw [HVB.out]
    have q11 := bl_tt HQ10.out bw11
    have hP := blk_bl HP.out bw11
    have hQ := blk_bl HQB'.out bw11
    have HV11 := Lib.hid (HV10.out.later bw11)
    clear a0 a1 a2 a3 a4 a5 HP HQ10 bw11 HQB' HV10
    have HQ11 := Lib.hid q11
    clear q11
    cases vb
    · obtain ⟨a0, a1, a2, a3, a4, a5⟩ := box6 hP
      obtain ⟨d0, d1, d2, d3, d4, d5⟩ := box6 hQ
      clear hP hQ
      have HEQ := Lib.hid (show G = p by rw [← HG.out]; unfold progF; rw [if_neg (by rw [HVB.out]; decide)])
      go_wp2_with fail
      refine (Same_eq HEQ.out HV11.out (HV.out.later HQ11.out)).mono ?_
      rintro e w12 ⟨rfl, bw12⟩
      have q12 := bl_tt HQ11.out bw12
      clear bw12 a0 a1 a2 a3 a4 a5 d0 d1 d2 d3 d4 d5
      go_wp2_with fail
      go_ret
      exact ⟨rfl, q12⟩
    · have HS1 := Lib.hid (show ∀ w', Below w11.heap.size w11 w' → (w'.cell? ⟨w.heap.size, 0, none⟩ = some (.slice A1 L1 c1) ∧ w'.cell? ⟨w.heap.size, 1, none⟩ = some (.slice A2 L2 c2) ∧ w'.cell? ⟨w.heap.size, 2, none⟩ = some (.int .u8 k) ∧ w'.cell? ⟨w.heap.size, 3, none⟩ = some (.int .i64 n) ∧ w'.cell? ⟨w.heap.size, 4, none⟩ = some (.string s) ∧ w'.cell? ⟨w.heap.size, 5, none⟩ = some (.slice A3 l3 c3)) ∧ (w'.cell? ⟨w9.heap.size, 0, none⟩ = some (.slice D1 G.vs.length e1) ∧ w'.cell? ⟨w9.heap.size, 1, none⟩ = some (.slice D2 G.prs.length e2) ∧ w'.cell? ⟨w9.heap.size, 2, none⟩ = some (.int .u8 G.m.k) ∧ w'.cell? ⟨w9.heap.size, 3, none⟩ = some (.int .i64 G.m.n) ∧ w'.cell? ⟨w9.heap.size, 4, none⟩ = some (.string G.m.s) ∧ w'.cell? ⟨w9.heap.size, 5, none⟩ = some (.slice D3 G.m.ks.length e3)) from fun w' h => ⟨box6 (blk_bl hP h), box6 (blk_bl hQ h)⟩)
      have HK0 := Lib.hid (HS1.out _ (Below.refl _ _).drew)
      clear hP hQ
      cases hsm : smallB p
      · have HSM := Lib.hid hsm
        clear hsm
        go_wp2_with fail
        have hSS : ((fun w' => (w'.cell? ⟨w.heap.size, 0, none⟩ = some (.slice A1 L1 c1) ∧ w'.cell? ⟨w.heap.size, 1, none⟩ = some (.slice A2 L2 c2) ∧ w'.cell? ⟨w.heap.size, 2, none⟩ = some (.int .u8 k) ∧ w'.cell? ⟨w.heap.size, 3, none⟩ = some (.int .i64 n) ∧ w'.cell? ⟨w.heap.size, 4, none⟩ = some (.string s) ∧ w'.cell? ⟨w.heap.size, 5, none⟩ = some (.slice A3 l3 c3)) ∧ (w'.cell? ⟨w9.heap.size, 0, none⟩ = some (.slice D1 G.vs.length e1) ∧ w'.cell? ⟨w9.heap.size, 1, none⟩ = some (.slice D2 G.prs.length e2) ∧ w'.cell? ⟨w9.heap.size, 2, none⟩ = some (.int .u8 G.m.k) ∧ w'.cell? ⟨w9.heap.size, 3, none⟩ = some (.int .i64 G.m.n) ∧ w'.cell? ⟨w9.heap.size, 4, none⟩ = some (.string G.m.s) ∧ w'.cell? ⟨w9.heap.size, 5, none⟩ = some (.slice D3 G.m.ks.length e3))) w11.drew ∧ (fun _ : World => True) w11.drew) := ⟨HK0.out, trivial⟩
        refine wp_region_noPanic ?_
        refine wp_region_G (fun w' => (w'.cell? ⟨w.heap.size, 0, none⟩ = some (.slice A1 L1 c1) ∧ w'.cell? ⟨w.heap.size, 1, none⟩ = some (.slice A2 L2 c2) ∧ w'.cell? ⟨w.heap.size, 2, none⟩ = some (.int .u8 k) ∧ w'.cell? ⟨w.heap.size, 3, none⟩ = some (.int .i64 n) ∧ w'.cell? ⟨w.heap.size, 4, none⟩ = some (.string s) ∧ w'.cell? ⟨w.heap.size, 5, none⟩ = some (.slice A3 l3 c3)) ∧ (w'.cell? ⟨w9.heap.size, 0, none⟩ = some (.slice D1 G.vs.length e1) ∧ w'.cell? ⟨w9.heap.size, 1, none⟩ = some (.slice D2 G.prs.length e2) ∧ w'.cell? ⟨w9.heap.size, 2, none⟩ = some (.int .u8 G.m.k) ∧ w'.cell? ⟨w9.heap.size, 3, none⟩ = some (.int .i64 G.m.n) ∧ w'.cell? ⟨w9.heap.size, 4, none⟩ = some (.string G.m.s) ∧ w'.cell? ⟨w9.heap.size, 5, none⟩ = some (.slice D3 G.m.ks.length e3))) (fun _ => True) 20 (by kernel_rfl) ?_
        refine wpG_take1 (i := 0) (v := ?_) rfl (by kernel_rfl) (by kernel_rfl) (by kernel_rfl) (by decide) (fun _ _ _ h => h) (Or.inl ⟨by rfl, ?_⟩) hSS ?_
        rotate_left 1
        · (intro w hSw; (try dsimp only at hSw); (try simp only [List.getElem_toArray, List.getElem_cons_succ, List.getElem_cons_zero]); go_simp; (try with_reducible rfl))
        (try simp only [Act.put, List.getElem_toArray, List.getElem_cons_succ, List.getElem_cons_zero, List.setIfInBounds_toArray, List.set_cons_zero, List.set_cons_succ])
        refine wpG_one (i := 1) (by kernel_rfl) rfl (fun K hK => ?_)
        refine step_call1 (by rfl) (.func 25) (.tmp 48) _ (by rfl) 25 _ fnSmall (by rfl) _ (by rfl) _ (small_no HSM.out (HV.out.later HQ11.out.drew)) ?_
        rintro v2 w12 ⟨rfl, bw12⟩
        have b12 := bl_tt (Below.refl w11.heap.size w11).drew bw12
        have hSS2 : ((fun w' => (w'.cell? ⟨w.heap.size, 0, none⟩ = some (.slice A1 L1 c1) ∧ w'.cell? ⟨w.heap.size, 1, none⟩ = some (.slice A2 L2 c2) ∧ w'.cell? ⟨w.heap.size, 2, none⟩ = some (.int .u8 k) ∧ w'.cell? ⟨w.heap.size, 3, none⟩ = some (.int .i64 n) ∧ w'.cell? ⟨w.heap.size, 4, none⟩ = some (.string s) ∧ w'.cell? ⟨w.heap.size, 5, none⟩ = some (.slice A3 l3 c3)) ∧ (w'.cell? ⟨w9.heap.size, 0, none⟩ = some (.slice D1 G.vs.length e1) ∧ w'.cell? ⟨w9.heap.size, 1, none⟩ = some (.slice D2 G.prs.length e2) ∧ w'.cell? ⟨w9.heap.size, 2, none⟩ = some (.int .u8 G.m.k) ∧ w'.cell? ⟨w9.heap.size, 3, none⟩ = some (.int .i64 G.m.n) ∧ w'.cell? ⟨w9.heap.size, 4, none⟩ = some (.string G.m.s) ∧ w'.cell? ⟨w9.heap.size, 5, none⟩ = some (.slice D3 G.m.ks.length e3))) w12 ∧ (fun _ : World => True) w12) := ⟨HS1.out _ b12, trivial⟩
        refine hK.out _ _ hSS2 ?_
        clear hK K hSS
        (try simp only [Act.put, List.getElem_toArray, List.getElem_cons_succ, List.getElem_cons_zero, List.setIfInBounds_toArray, List.set_cons_zero, List.set_cons_succ])
        refine wpG_take1 (i := 2) (v := ?_) rfl (by kernel_rfl) (by kernel_rfl) (by kernel_rfl) (by decide) (fun _ _ _ h => h) (Or.inl ⟨by rfl, ?_⟩) hSS2 ?_
        rotate_left 1
        · (intro w hSw; (try dsimp only at hSw); (try simp only [List.getElem_toArray, List.getElem_cons_succ, List.getElem_cons_zero]); go_simp; (try with_reducible rfl))
        (try simp only [Act.put, List.getElem_toArray, List.getElem_cons_succ, List.getElem_cons_zero, List.setIfInBounds_toArray, List.set_cons_zero, List.set_cons_succ])
        refine wpG_take1 (i := 3) (v := ?_) rfl (by kernel_rfl) (by kernel_rfl) (by kernel_rfl) (by decide) (fun _ _ _ h => h) (Or.inl ⟨by rfl, ?_⟩) hSS2 ?_
        rotate_left 1
        · (intro w hSw; (try dsimp only at hSw); (try simp only [List.getElem_toArray, List.getElem_cons_succ, List.getElem_cons_zero]); go_simp; (try with_reducible rfl))
        (try simp only [Act.put, List.getElem_toArray, List.getElem_cons_succ, List.getElem_cons_zero, List.setIfInBounds_toArray, List.set_cons_zero, List.set_cons_succ])
        refine wpG_take1 (i := 4) (v := undef) rfl (by kernel_rfl) (by kernel_rfl) (by kernel_rfl) (by decide) (fun _ _ _ h => h) (Or.inr ⟨by rfl, rfl⟩) hSS2 ?_
        (try simp only [Act.put, List.getElem_toArray, List.getElem_cons_succ, List.getElem_cons_zero, List.setIfInBounds_toArray, List.set_cons_zero, List.set_cons_succ])
        refine wpG_take1 (i := 5) (v := undef) rfl (by kernel_rfl) (by kernel_rfl) (by kernel_rfl) (by decide) (fun _ _ _ h => h) (Or.inr ⟨by rfl, rfl⟩) hSS2 ?_
        (try simp only [Act.put, List.getElem_toArray, List.getElem_cons_succ, List.getElem_cons_zero, List.setIfInBounds_toArray, List.set_cons_zero, List.set_cons_succ])
        refine wpG_take1 (i := 6) (v := undef) rfl (by kernel_rfl) (by kernel_rfl) (by kernel_rfl) (by decide) (fun _ _ _ h => h) (Or.inr ⟨by rfl, rfl⟩) hSS2 ?_
        (try simp only [Act.put, List.getElem_toArray, List.getElem_cons_succ, List.getElem_cons_zero, List.setIfInBounds_toArray, List.set_cons_zero, List.set_cons_succ])
        refine wpG_take1 (i := 7) (v := undef) rfl (by kernel_rfl) (by kernel_rfl) (by kernel_rfl) (by decide) (fun _ _ _ h => h) (Or.inr ⟨by rfl, rfl⟩) hSS2 ?_
        (try simp only [Act.put, List.getElem_toArray, List.getElem_cons_succ, List.getElem_cons_zero, List.setIfInBounds_toArray, List.set_cons_zero, List.set_cons_succ])
        refine wpG_take1 (i := 8) (v := ?_) rfl (by kernel_rfl) (by kernel_rfl) (by kernel_rfl) (by decide) (fun _ _ _ h => h) (Or.inl ⟨by rfl, ?_⟩) hSS2 ?_
        rotate_left 1
        · (intro w hSw; (try dsimp only at hSw); (try simp only [List.getElem_toArray, List.getElem_cons_succ, List.getElem_cons_zero]); go_simp; (try with_reducible rfl))
        (try simp only [Act.put, List.getElem_toArray, List.getElem_cons_succ, List.getElem_cons_zero, List.setIfInBounds_toArray, List.set_cons_zero, List.set_cons_succ])
        refine wpG_take1 (i := 9) (v := ?_) rfl (by kernel_rfl) (by kernel_rfl) (by kernel_rfl) (by decide) (fun _ _ _ h => h) (Or.inl ⟨by rfl, ?_⟩) hSS2 ?_
        rotate_left 1
        · (intro w hSw; (try dsimp only at hSw); (try simp only [List.getElem_toArray, List.getElem_cons_succ, List.getElem_cons_zero]); go_simp; (try with_reducible rfl))
        (try simp only [Act.put, List.getElem_toArray, List.getElem_cons_succ, List.getElem_cons_zero, List.setIfInBounds_toArray, List.set_cons_zero, List.set_cons_succ])
        refine wpG_done (by kernel_rfl) ?_
        refine NoPanic.normal ?_
        have q12 := bl_tt HQ11.out b12
        go_wp2_with fail
        go_ret
        exact ⟨rfl, q12⟩
      · have HSM := Lib.hid hsm
        clear hsm
        have HEQ := Lib.hid (show G = simpG p by rw [← HG.out]; exact progF_simpG HVB.out)
        go_wp2_with fail
        go_region_held3 (fun w' => (w'.cell? ⟨w.heap.size, 0, none⟩ = some (.slice A1 L1 c1) ∧ w'.cell? ⟨w.heap.size, 1, none⟩ = some (.slice A2 L2 c2) ∧ w'.cell? ⟨w.heap.size, 2, none⟩ = some (.int .u8 k) ∧ w'.cell? ⟨w.heap.size, 3, none⟩ = some (.int .i64 n) ∧ w'.cell? ⟨w.heap.size, 4, none⟩ = some (.string s) ∧ w'.cell? ⟨w.heap.size, 5, none⟩ = some (.slice A3 l3 c3)) ∧ (w'.cell? ⟨w9.heap.size, 0, none⟩ = some (.slice D1 G.vs.length e1) ∧ w'.cell? ⟨w9.heap.size, 1, none⟩ = some (.slice D2 G.prs.length e2) ∧ w'.cell? ⟨w9.heap.size, 2, none⟩ = some (.int .u8 G.m.k) ∧ w'.cell? ⟨w9.heap.size, 3, none⟩ = some (.int .i64 G.m.n) ∧ w'.cell? ⟨w9.heap.size, 4, none⟩ = some (.string G.m.s) ∧ w'.cell? ⟨w9.heap.size, 5, none⟩ = some (.slice D3 G.m.ks.length e3)))
          (first | with_reducible exact HK3.out | with_reducible exact HK2.out | with_reducible exact HK1.out | with_reducible exact HK0.out)
          (first
            | (go_at_call 25; refine (small_any p Any _ _ (HV.out.later HQ11.out.drew)).mono ?_; rintro e w12 ⟨rfl, bw12⟩; rw [HSM.out, if_pos (by decide)]; have b12 := bl_tt (Below.refl w11.heap.size w11).drew bw12; have HK1 := Lib.hid (HS1.out _ b12))
            | (go_at_call 26; refine (RProgram_any p Any _ _ (HV.out.later (bl_tt HQ11.out b12)) (valid_main HVB.out) (valid_procs HVB.out) (by have := HL2.out; omega)).mono ?_; rintro e w13 ⟨v13, rfl, hv13, bw13⟩; have b13 := bl_tt b12 bw13; have HK2 := Lib.hid (HS1.out _ b13); obtain ⟨G', hG'⟩ : ∃ G', simpG p = G' := ⟨_, rfl⟩; rw [hG'] at hv13; have HG' := Lib.hid hG'; clear hG'; have hv14 := hv13; obtain ⟨F1, f1, F2, f2, F3, f3, rfl, -⟩ := hv13)
            | (go_at_call 24; refine (Same_eq (show G = G' by rw [HEQ.out, HG'.out]) (HV11.out.later b13) hv14).mono ?_; rintro e w14 ⟨rfl, bw14⟩; have b14 := bl_tt b13 bw14; have HK3 := Lib.hid (HS1.out _ b14))
            | fail)
        have q14 := bl_tt HQ11.out b14
        clear hv14 bw14 bw13 bw12 HK0 HK1 HK2 HK3
        go_wp2_with fail
        go_ret
        exact ⟨rfl, q14⟩

end Go.Proofs.Ytldcjboignbfpaa
