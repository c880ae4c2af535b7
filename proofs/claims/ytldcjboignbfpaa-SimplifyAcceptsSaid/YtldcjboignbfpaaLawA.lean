/-
  The law SimplifyAccepts, walked.
-/
import Derived.Test.YtldcjboignbfpaaAwake
import Derived.Test.YtldcjboignbfpaaPrg
import Derived.Test.YtldcjboignbfpaaSml
import Derived.Test.YtldcjboignbfpaaAc
namespace Go.Proofs.Ytldcjboignbfpaa
open Go Go.RowKit

set_option maxHeartbeats 8000000 in
set_option maxRecDepth 100000 in
theorem Accepts_walk (p : PG) (v1 : Value) (w : World) (hv1 : PV w Any p v1) : Calls Try.prog 9 #[v1] w fun e w' => e = .returned (.bool true) ∧ Below w.heap.size w w' := by
  have hvv := hv1
  obtain ⟨A1, c1, A2, c2, A3, c3, rfl, hr⟩ := hv1
  obtain ⟨L1, hL1⟩ : ∃ L, p.vs.length = L := ⟨_, rfl⟩
  obtain ⟨L2, hL2⟩ : ∃ L, p.prs.length = L := ⟨_, rfl⟩
  obtain ⟨k, hk⟩ : ∃ k, p.m.k = k := ⟨_, rfl⟩
  obtain ⟨n, hn⟩ : ∃ n, p.m.n = n := ⟨_, rfl⟩
  obtain ⟨s, hs⟩ : ∃ s, p.m.s = s := ⟨_, rfl⟩
  obtain ⟨l3, hl3⟩ : ∃ l, p.m.ks.length = l := ⟨_, rfl⟩
  rw [hL1, hL2, hk, hn, hs, hl3]
  rw [hL1, hL2, hk, hn, hs, hl3] at hvv
  have HV := Lib.hid hvv
  clear hr hvv hL1 hL2 hk hn hs hl3
  go_enter Try.func9, Try.ntmps9
  go_wp2_with fail
  refine (awake_any _).mono ?_
  rintro e w1 ⟨rfl, bw1⟩
  have q1 : Below w.heap.size w w1 := bl_tt (bl_al (Below.refl _ _) _) bw1
  have hP := blk_bl (heap_alloc_new w (.cells #[.slice A1 L1 c1, .slice A2 L2 c2, .int .u8 k, .int .i64 n, .string s, .slice A3 l3 c3] 38)) bw1
  obtain ⟨a0, a1, a2, a3, a4, a5⟩ := box6 hP
  have HP := Lib.hid hP
  clear bw1 hP
  go_wp2_with fail
  cases hsm : smallB p
  · refine (small_not hsm (HV.out.later q1)).mono ?_
    rintro e w2 ⟨rfl, bw2⟩
    have q2 := bl_tt q1 bw2
    clear a0 a1 a2 a3 a4 a5 HP bw2
    go_wp2_with fail
    go_ret
    exact ⟨rfl, q2⟩
  · have HVAL := Lib.hid (small_valid hsm)
    obtain ⟨G, hG⟩ : ∃ G, progF p = G := ⟨_, rfl⟩
    obtain ⟨bp, hbp⟩ : ∃ b, okB p = b := ⟨_, rfl⟩
    obtain ⟨bq, hbq⟩ : ∃ b, okB G = b := ⟨_, rfl⟩
    obtain ⟨Np, hNp⟩ : ∃ N, chkN p = N := ⟨_, rfl⟩
    obtain ⟨Nq, hNq⟩ : ∃ N, chkN G = N := ⟨_, rfl⟩
    have HOK := Lib.hid (show bp = true → bq = true from fun h => by rw [← hbq, ← hG]; exact ok_simp (hbp.trans h))
    have HCH := Lib.hid (show Np = 0 → Nq = 0 from fun h => by rw [← hNq, ← hG]; exact chk_simp HVAL.out (hNp.trans h))
    have HVG := Lib.hid (show validB G = true by rw [← hG]; exact valid_simp HVAL.out)
    have HG := Lib.hid hG
    have HBP := Lib.hid (show ∀ v w, PV w Any p v → Calls Try.prog 28 #[v] w fun e w' => e = .returned (.bool bp) ∧ Below w.heap.size w w' from fun v w h => hbp ▸ OK_any p v w h)
    have HBQ := Lib.hid (show ∀ v w, PV w Any G v → Calls Try.prog 28 #[v] w fun e w' => e = .returned (.bool bq) ∧ Below w.heap.size w w' from fun v w h => hbq ▸ OK_any G v w h)
    have HSP := Lib.hid (show ∀ v w, PV w Any p v → Calls Try.prog 29 #[v] w fun e w' => ∃ A c, e = .returned (.slice A Np c) ∧ Below w.heap.size w w' from fun v w h => by
      have := SCheck_any p Any v w h
      rwa [if_pos HVAL.out, hNp] at this)
    have HSQ := Lib.hid (show ∀ v w, PV w Any G v → Calls Try.prog 29 #[v] w fun e w' => ∃ A c, e = .returned (.slice A Nq c) ∧ Below w.heap.size w w' from fun v w h => by
      have := SCheck_any G Any v w h
      rwa [if_pos HVG.out, hNq] at this)
    clear hG hbp hbq hNp hNq
    refine (small_yes hsm (HV.out.later q1)).mono ?_
    rintro e w2 ⟨rfl, bw2⟩
    have q2 := bl_tt q1 bw2
    have hP := blk_bl HP.out bw2
    clear a0 a1 a2 a3 a4 a5 HP bw2 hsm q1
    obtain ⟨a0, a1, a2, a3, a4, a5⟩ := box6 hP
    have HP := Lib.hid hP
    clear hP
    go_wp2_with fail
    refine (Program_any p Any _ _ (HV.out.later q2) (valid_len HVAL.out)).mono ?_
    rintro e w3 ⟨v3, rfl, hv3, bw3⟩
    rw [HG.out] at hv3
    have hv3' := hv3
    obtain ⟨D1, e1, D2, e2, D3, e3, rfl, hr3⟩ := hv3
    have hal := (Below.refl w3.heap.size w3).alloc (Nat.le_refl _) (.cells #[.slice D1 G.vs.length e1, .slice D2 G.prs.length e2, .int .u8 G.m.k, .int .i64 G.m.n, .string G.m.s, .slice D3 G.m.ks.length e3] 38)
    have HQ4 := Lib.hid (bl_al (bl_tt q2 bw3) (.cells #[.slice D1 G.vs.length e1, .slice D2 G.prs.length e2, .int .u8 G.m.k, .int .i64 G.m.n, .string G.m.s, .slice D3 G.m.ks.length e3] 38))
    have HV4 := Lib.hid ((hv3'.later hal).mono fun _ _ => (trivial : Any _))
    have hP := blk_al (blk_bl HP.out bw3) (.cells #[.slice D1 G.vs.length e1, .slice D2 G.prs.length e2, .int .u8 G.m.k, .int .i64 G.m.n, .string G.m.s, .slice D3 G.m.ks.length e3] 38)
    have hQ := heap_alloc_new w3 (.cells #[.slice D1 G.vs.length e1, .slice D2 G.prs.length e2, .int .u8 G.m.k, .int .i64 G.m.n, .string G.m.s, .slice D3 G.m.ks.length e3] 38)
    obtain ⟨W4, hW4⟩ : ∃ W4, w3.alloc (.cells #[.slice D1 G.vs.length e1, .slice D2 G.prs.length e2, .int .u8 G.m.k, .int .i64 G.m.n, .string G.m.s, .slice D3 G.m.ks.length e3] 38) = W4 := ⟨_, rfl⟩
    rw [hW4] at hP hQ HQ4 HV4
    have HALL := Lib.hid (show ∀ w', Below W4.heap.size W4 w' → (w'.cell? ⟨w.heap.size, 0, none⟩ = some (.slice A1 L1 c1) ∧ w'.cell? ⟨w.heap.size, 1, none⟩ = some (.slice A2 L2 c2) ∧ w'.cell? ⟨w.heap.size, 2, none⟩ = some (.int .u8 k) ∧ w'.cell? ⟨w.heap.size, 3, none⟩ = some (.int .i64 n) ∧ w'.cell? ⟨w.heap.size, 4, none⟩ = some (.string s) ∧ w'.cell? ⟨w.heap.size, 5, none⟩ = some (.slice A3 l3 c3)) ∧ (w'.cell? ⟨w3.heap.size, 0, none⟩ = some (.slice D1 G.vs.length e1) ∧ w'.cell? ⟨w3.heap.size, 1, none⟩ = some (.slice D2 G.prs.length e2) ∧ w'.cell? ⟨w3.heap.size, 2, none⟩ = some (.int .u8 G.m.k) ∧ w'.cell? ⟨w3.heap.size, 3, none⟩ = some (.int .i64 G.m.n) ∧ w'.cell? ⟨w3.heap.size, 4, none⟩ = some (.string G.m.s) ∧ w'.cell? ⟨w3.heap.size, 5, none⟩ = some (.slice D3 G.m.ks.length e3)) from fun w' h => ⟨box6 (blk_bl hP h), box6 (blk_bl hQ h)⟩)
    obtain ⟨⟨y0, y1, y2, y3, y4, y5⟩, ⟨z0, z1, z2, z3, z4, z5⟩⟩ := HALL.out _ (Below.refl _ _)
    clear hP hQ hal hv3' hr3 bw3 a0 a1 a2 a3 a4 a5 HP q2
    go_wp2_with fail
    refine (HBP.out _ _ (HV.out.later HQ4.out)).mono ?_
    rintro e w5 ⟨rfl, bw5⟩
    have r5 := bw5
    clear bw5 y0 y1 y2 y3 y4 y5 z0 z1 z2 z3 z4 z5
    cases bp
    · obtain ⟨⟨y0, y1, y2, y3, y4, y5⟩, ⟨z0, z1, z2, z3, z4, z5⟩⟩ := HALL.out _ r5
      go_wp2_with fail
      refine (HSP.out _ _ (HV.out.later (bl_tt HQ4.out r5))).mono ?_
      rintro e w7 ⟨B7, d7, rfl, bw7⟩
      have r7 := bl_tt r5 bw7
      clear y0 y1 y2 y3 y4 y5 z0 z1 z2 z3 z4 z5 bw7
      by_cases hN : Np = 0
      · have hq0 := HCH.out hN
        subst hN hq0
        obtain ⟨⟨y0, y1, y2, y3, y4, y5⟩, ⟨z0, z1, z2, z3, z4, z5⟩⟩ := HALL.out _ r7
        go_wp2_with fail
        refine (HSQ.out _ _ (HV4.out.later r7)).mono ?_
        rintro e w8 ⟨B8, d8, rfl, bw8⟩
        have r8 := bl_tt r7 bw8
        clear y0 y1 y2 y3 y4 y5 z0 z1 z2 z3 z4 z5 bw8
        go_wp2_with fail
        go_ret
        exact ⟨rfl, bl_tt HQ4.out r8⟩
      · have hN1 : (0 : Int) < (Np : Int) := by omega
        have hN2 : 0 < Np := by omega
        clear hN
        go_wp2_with fail
        go_ret
        exact ⟨rfl, bl_tt HQ4.out r7⟩
    · have hbq := HOK.out rfl
      subst hbq
      obtain ⟨⟨y0, y1, y2, y3, y4, y5⟩, ⟨z0, z1, z2, z3, z4, z5⟩⟩ := HALL.out _ r5
      go_wp2_with fail
      refine (HBQ.out _ _ (HV4.out.later r5)).mono ?_
      rintro e w6 ⟨rfl, bw6⟩
      have r6 := bl_tt r5 bw6
      clear bw6 y0 y1 y2 y3 y4 y5 z0 z1 z2 z3 z4 z5
      obtain ⟨⟨y0, y1, y2, y3, y4, y5⟩, ⟨z0, z1, z2, z3, z4, z5⟩⟩ := HALL.out _ r6
      go_wp2_with fail
      refine (HSP.out _ _ (HV.out.later (bl_tt HQ4.out r6))).mono ?_
      rintro e w7 ⟨B7, d7, rfl, bw7⟩
      have r7 := bl_tt r6 bw7
      clear y0 y1 y2 y3 y4 y5 z0 z1 z2 z3 z4 z5 bw7
      by_cases hN : Np = 0
      · have hq0 := HCH.out hN
        subst hN hq0
        obtain ⟨⟨y0, y1, y2, y3, y4, y5⟩, ⟨z0, z1, z2, z3, z4, z5⟩⟩ := HALL.out _ r7
        go_wp2_with fail
        refine (HSQ.out _ _ (HV4.out.later r7)).mono ?_
        rintro e w8 ⟨B8, d8, rfl, bw8⟩
        have r8 := bl_tt r7 bw8
        clear y0 y1 y2 y3 y4 y5 z0 z1 z2 z3 z4 z5 bw8
        go_wp2_with fail
        go_ret
        exact ⟨rfl, bl_tt HQ4.out r8⟩
      · have hN1 : (0 : Int) < (Np : Int) := by omega
        have hN2 : 0 < Np := by omega
        clear hN
        go_wp2_with fail
        go_ret
        exact ⟨rfl, bl_tt HQ4.out r7⟩

end Go.Proofs.Ytldcjboignbfpaa
