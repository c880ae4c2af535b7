/-
  The law SimplifyEmpties, walked.
-/
import Derived.Test.YtldcjboignbfpaaAwake
import Derived.Test.YtldcjboignbfpaaPure
import Derived.Test.YtldcjboignbfpaaEqualR
import Derived.Test.YtldcjboignbfpaaPot
import Derived.Deep.DeepCutAuto
namespace Go.Proofs.Ytldcjboignbfpaa
open Go.RowKit

theorem buildS0e (w : World) : (Instr.buildSlice 22 0 #[]).run Try.prog w = .ok (.slice (some ⟨w.heap.size, 0, none⟩) 0 0) (w.alloc (.cells #[] 24)) := by kernel_rfl

theorem isB_empties {n : Int} {s : ByteArray} {ks : List T} (h : isB (.nd 57 n s ks) = true) : isB (.nd 57 0 ⟨#[]⟩ (ks ++ (ks.map (inv false)).reverse)) = true := by
  have h3 := ((isB_iff _ _ _ _).1 h).2.2
  refine (isB_iff _ _ _ _).2 ⟨rfl, plainB_0, fun t ht => ?_⟩
  simp only [List.mem_append, List.mem_reverse, List.mem_map] at ht
  rcases ht with ht | ⟨u, hu, rfl⟩
  · exact h3 t ht
  · exact isS_inv (h3 u hu)
theorem simp_empties {n : Int} {s : ByteArray} {ks : List T} (h : isB (.nd 57 n s ks) = true) (h56 : ∀ t ∈ ks, t.k ≠ 56) : simp (.nd 57 0 ⟨#[]⟩ (ks ++ (ks.map (inv false)).reverse)) = .nd 57 0 ⟨#[]⟩ [] := by
  have h3 := ((isB_iff _ _ _ _).1 h).2.2
  rw [simp_nd]
  have e : (ks ++ (ks.map (inv false)).reverse).map stm = ks.map stm ++ ((ks.map stm).map (inv false)).reverse := by
    rw [List.map_append, List.map_reverse, List.map_map, List.map_map]
    congr 2
    exact List.map_congr_left fun t ht => stm_inv (h3 t ht)
  rw [e, foldC_empties]
  intro t ht
  obtain ⟨u, hu, rfl⟩ := List.mem_map.1 ht
  exact ⟨isS_stm (h3 u hu), by rw [stm_k]; exact h56 u hu⟩

set_option maxHeartbeats 20000000 in
set_option maxRecDepth 100000 in
theorem Empties_walk (t : T) (v1 : Value) (w : World) (hv1 : NV w Any t v1) (hl2 : t.ks.length + t.ks.length ≤ LK) : Calls Try.prog 5 #[v1] w fun e w' => e = .returned (.bool true) ∧ Below w.heap.size w w' := by
  obtain ⟨i0, hi0, hz0, hz1, hz2⟩ := info_parts nodeInfo
  rcases t with ⟨k, n, s, ks⟩
  obtain ⟨A, c, rfl, hf, hlk, hlc, hrow⟩ := hv1.open_
  simp only [T.k_nd, T.n_nd, T.s_nd, T.ks_nd] at *
  have HV1 := Lib.hid hv1
  have HROW := Lib.hid hrow
  have HL2 := Lib.hid hl2
  have hl2' := LK_int hl2
  clear hf hlk hrow hv1 hl2
  obtain ⟨l, hl⟩ : ∃ l, ks.length = l := ⟨_, rfl⟩
  rw [hl] at hlc hl2' ⊢
  have hv1 : NV w Any (.nd k n s ks) (nv k n s A l c) := hl ▸ HV1.out
  have HL := Lib.hid hl
  clear HV1 hl
  obtain ⟨t, ht⟩ : ∃ t, T.nd k n s ks = t := ⟨_, rfl⟩
  have HT := Lib.hid ht
  have HV1 := Lib.hid (show NV w Any t (nv k n s A l c) from ht ▸ hv1)
  clear hv1 ht
  have hb0 : ∀ o, Below w.heap.size w (w.alloc o) := fun o => (Below.refl _ _).alloc (Nat.le_refl _) _
  have HB0 := Lib.hid hb0
  clear hb0
  obtain ⟨z, hz⟩ : ∃ z, wrap64 (size t) = z := ⟨_, rfl⟩
  have HZ := Lib.hid hz
  clear hz
  go_enter Try.func5, Try.ntmps5
  go_wp2_with fail
  refine (awake_any _).mono ?_
  rintro e w1 ⟨rfl, bw1⟩
  have q1 : Below w.heap.size w w1 := (HB0.out _).trans (bw1.mono (by simp))
  obtain ⟨hc1, hf1⟩ := bcell bw1
  go_wp2_with fail
  refine (Size_any t _ _ (HV1.out.later q1)).mono ?_
  rintro e w2 ⟨rfl, bw2⟩
  rw [HZ.out]
  have hs1 : w.heap.size + 1 ≤ w1.heap.size := by have := bw1.size; simpa using this
  have b12 := bw1.trans (bw2.mono (by simpa using hs1))
  have q2 : Below w.heap.size w w2 := q1.trans (bw2.mono q1.size)
  clear hc1 hf1
  obtain ⟨hc1, hf1⟩ := bcell b12
  by_cases h100 : 100 < z
  · go_wp2_with fail
    go_ret
    exact ⟨rfl, q2⟩
  have h100' : z ≤ 100 := by omega
  clear h100
  have hs2 : w.heap.size + 1 ≤ w2.heap.size := by have := b12.size; simpa using this
  cases hB : isB t
  · go_wp2_with fail
    refine (IsBlock_any t _ _ (HV1.out.later q2)).mono ?_
    rintro e w3 ⟨rfl, bw3⟩
    have q3 : Below w.heap.size w w3 := q2.trans (bw3.mono q2.size)
    go_wp2_with fail
    go_ret
    exact ⟨rfl, q3⟩
  have HBk := Lib.hid hB
  go_wp2_with fail
  refine (IsBlock_any t _ _ (HV1.out.later q2)).mono ?_
  rintro e w3 ⟨rfl, bw3⟩
  have q3 : Below w.heap.size w w3 := q2.trans (bw3.mono q2.size)
  have b13 := b12.trans (bw3.mono (by simpa using hs2))
  have hs3 : w.heap.size + 1 ≤ w3.heap.size := by have := b13.size; simpa using this
  have x0 : w3.cell? ⟨w.heap.size, 0, none⟩ = some (.int .u8 k) := cell_bl b13 (by simp)
  have x1 : w3.cell? ⟨w.heap.size, 1, none⟩ = some (.int .i64 n) := cell_bl b13 (by simp)
  have x2 : w3.cell? ⟨w.heap.size, 2, none⟩ = some (.string s) := cell_bl b13 (by simp)
  have x3 : w3.cell? ⟨w.heap.size, 3, none⟩ = some (.slice A l c) := cell_bl b13 (by simp)
  clear hc1 hf1 bw1 bw2 bw3 b12 b13 q1 q2 hs1 hs2
  go_wp2_with fail
  go_loopw [3] (fun i wr => ∃ j : Nat, j ≤ l ∧ i = .int .i64 j ∧ wr = w3 ∧ Hid (∀ t ∈ ks.take j, t.k ≠ 56)) (fun i _ => l - (intOf i).toNat)
  case atStart => exact ⟨0, Nat.zero_le _, rfl, by first | rfl | trivial, Lib.hid (by simp)⟩
  case round =>
    obtain ⟨j, hj, rfl, rfl, HJ⟩ := hrel
    by_cases hlt : j < l
    · have hlt' : j < ks.length := by rw [HL.out]; exact hlt
      obtain ⟨a, t', A1, c1, rfl, _, Ht, ⟨p0, p1, p2, p3⟩, hn⟩ := (HROW.out.later q3).nd hlt'
      clear p1 p2 p3 hn
      obtain ⟨kk, hkk⟩ : ∃ kk, t'.k = kk := ⟨_, rfl⟩
      have HKK := Lib.hid hkk
      rw [hkk] at p0
      clear hkk
      cases h56 : (kk == 56)
      · go_wp2_with fail
        go_roundw
        case rel => exact ⟨j + 1, by omega, by go_num, by first | rfl | trivial, Lib.hid (by
          intro x hx
          rw [List.take_succ_eq_append_getElem hlt'] at hx
          simp only [List.mem_append, List.mem_singleton] at hx
          rcases hx with hx | hx
          · exact HJ.out x hx
          · rw [hx, Ht.out, HKK.out]; simpa using h56)⟩
        case measure => simp [intOf]; omega
      · go_wp2_with fail
        go_ret
        exact ⟨rfl, q3⟩
    · obtain rfl : j = l := by omega
      have H56 := Lib.hid (show ∀ t ∈ ks, t.k ≠ 56 from fun x hx => HJ.out x (by rw [List.take_of_length_le (by rw [HL.out]; omega)]; exact hx))
      clear HJ hj hlt
      go_wp2_with fail
      refine (Stmt_ok t _ _ (HV1.out.later q3) (.inr HBk.out)).mono ?_
      rintro e w6 ⟨k6, n6, s6, A6, l6, c6, rfl, hn6, bw6⟩
      have q6 : Below w.heap.size w w6 := q3.trans (bw6.mono q3.size)
      have hs6 : w.heap.size + 1 ≤ w6.heap.size := Nat.le_trans hs3 bw6.size
      go_upto_region 11 with fail
      have y3 := cell_al (cell_bl bw6 x3) (.cells #[.int .u8 k6, .int .i64 n6, .string s6, .slice A6 l6 c6] 24)
      have bw9 : Below w6.heap.size w6 (w6.alloc (.cells #[.int .u8 k6, .int .i64 n6, .string s6, .slice A6 l6 c6] 24)) := (Below.refl _ _).alloc (Nat.le_refl _) _
      have q9 : Below w.heap.size w (w6.alloc (.cells #[.int .u8 k6, .int .i64 n6, .string s6, .slice A6 l6 c6] 24)) := q6.trans (bw9.mono q6.size)
      have HK57 := Lib.hid (show k = 57 by have := isB_k HBk.out; rw [← HT.out] at this; exact this)
      have hik : (inv false t).ks = (ks.map (inv false)).reverse := by rw [← HT.out, HK57.out, inv_block]; rfl
      have hl6 : l6 = ((ks.map (inv false)).reverse).length := by have := hn6.nv_eq.2.2.2; rw [hik] at this; exact this
      have hr6 : RowAt w6 Any A6 ((ks.map (inv false)).reverse) := by
        obtain ⟨A7, c7, e, _, _, _, hr⟩ := hn6.any.open_
        simp only [nv, Value.agg.injEq, Array.mk.injEq, List.cons.injEq, Value.slice.injEq, and_true] at e
        rw [hik, ← e.2.2.2.1] at hr
        exact hr
      have hm6 : l6 = j := by rw [hl6]; simp [HL.out]
      have HL6 := Lib.hid hl6
      subst hm6
      obtain ⟨W9, hW9, hc9⟩ : ∃ W9, w6.alloc (.cells #[.int .u8 k6, .int .i64 n6, .string s6, .slice A6 l6 c6] 24) = W9 ∧ (fun w' => (w'.cell? ⟨w.heap.size, 3, none⟩ = some (.slice A l6 c) ∧ w'.cell? ⟨w6.heap.size, 3, none⟩ = some (.slice A6 l6 c6))) W9 := ⟨_, rfl, y3, by simp⟩
      have hr9 := hr6.later bw9
      rw [hW9] at q9 hr9 ⊢
      have HSRC := Lib.hid (HROW.out.later q9).in_.src
      have HSRI := Lib.hid hr9.in_.src
      have HQ9 := Lib.hid q9
      have HS1 := Lib.hid (show ∀ w', Below W9.heap.size W9 w' → (w'.cell? ⟨w.heap.size, 3, none⟩ = some (.slice A l6 c) ∧ w'.cell? ⟨w6.heap.size, 3, none⟩ = some (.slice A6 l6 c6)) from fun w' h => ⟨cell_bl h hc9.1, cell_bl h hc9.2⟩)
      clear hW9 hc9 q9 bw9 y3 x0 x1 x2 x3 hn6 bw6 q3 q6 hs3 hs6 hr9 hr6 hik hl6
      have hp0 : Pot W9 W9 24 none none none := Pot.start W9 _
      have hb0 := buildS0e
      go_cut [6] (fun s6 wx => ∃ (g : Nat) (A9 : Option Addr) (l9 c9 : Nat), s6 = .pointer (some ⟨g, 0, none⟩) ∧ W9.heap.size ≤ g ∧ NV wx Any (.nd 57 0 ⟨#[]⟩ (ks ++ (ks.map (inv false)).reverse)) (nv 57 0 ⟨#[]⟩ A9 l9 c9) ∧ Below W9.heap.size W9 wx ∧ wx.heap[g]? = some (.cells #[.int .u8 57, .int .i64 0, .string ⟨#[]⟩, .slice A9 l9 c9] 24 (0, 0)))
      case first =>
        clear HV1 HB0 HZ HT HBk HQ9 HK57 H56 HROW h100' hB hlc
        go_region_held3 (fun w' => (w'.cell? ⟨w.heap.size, 3, none⟩ = some (.slice A l6 c) ∧ w'.cell? ⟨w6.heap.size, 3, none⟩ = some (.slice A6 l6 c6)))
          (first | with_reducible exact HS1.out _ (Pot.set4 hpq _ _ _ _) | with_reducible exact HS1.out _ (Pot.low (by (repeat first | with_reducible assumption | with_reducible apply Pot.drew | with_reducible apply Pot.lay | with_reducible apply Pot.row0))) | with_reducible exact HS1.out _ (Pot.low (Pot.alloc (by with_reducible assumption) _)))
          (first
            | (go_at_call 19; refine (block_any _ _ _ _).mono ?_; rintro e wq ⟨rfl, bq⟩; first | (have hpq : Pot W9 wq _ _ _ (some _) := Pot.later (by (repeat first | with_reducible assumption | with_reducible apply Pot.drew | with_reducible apply Pot.lay | with_reducible apply Pot.row0)) bq; (try simp only [World.size_alloc, World.size_drew] at hpq); have hbg := (hpq.box _ rfl).1; have hbx := (hpq.box _ rfl).2; have e0 : wq.cell? ⟨_, 0, none⟩ = some (.int .u8 0) := cell_of_blk hbx rfl; have e1 : wq.cell? ⟨_, 1, none⟩ = some (.int .i64 0) := cell_of_blk hbx rfl; have e2 : wq.cell? ⟨_, 2, none⟩ = some (.string ⟨#[]⟩) := cell_of_blk hbx rfl; have e3 : wq.cell? ⟨_, 3, none⟩ = some (.slice none 0 0) := cell_of_blk hbx rfl; have e4 := fun i => frozen_of_blk (i := i) hbx) | (have hpq : Pot W9 wq _ _ _ none := Pot.later (by (repeat first | with_reducible assumption | with_reducible apply Pot.drew | with_reducible apply Pot.lay | with_reducible apply Pot.row0)) bq))
            | (refine step_pot_append (w := W9) (by rfl) (.tmp 37) (.tmp 39) 22 (by rfl) 24 i0 _ Try.underlying22 hi0 hz0 hz1 hz2 rfl _ _ _ _ (by (repeat first | with_reducible assumption | with_reducible apply Pot.drew | with_reducible apply Pot.lay | with_reducible apply Pot.row0)) (by first | rfl | (simp only [World.size_alloc, World.size_drew]; rfl)) ks A l6 c HL.out (by rfl) (HSRC.out.later (Pot.low (by (repeat first | with_reducible assumption | with_reducible apply Pot.drew | with_reducible apply Pot.lay | with_reducible apply Pot.row0)))) (by have h2 := HL2.out; simp; omega) ?_; intro v1 x1 hp1)
            | (refine step_pot_append (w := W9) (by rfl) (.tmp 40) (.tmp 42) 22 (by rfl) 24 i0 _ Try.underlying22 hi0 hz0 hz1 hz2 rfl _ _ _ _ (by (repeat first | with_reducible assumption | with_reducible apply Pot.drew | with_reducible apply Pot.lay | with_reducible apply Pot.row0)) (by rfl) (ks.map (inv false)).reverse A6 l6 c6 HL6.out.symm (by rfl) (HSRI.out.later (Pot.low (by (repeat first | with_reducible assumption | with_reducible apply Pot.drew | with_reducible apply Pot.lay | with_reducible apply Pot.row0)))) (by have h2 := HL2.out; simp; omega) ?_; intro v3 x3 hp3; obtain ⟨A9, c9, e9, -⟩ := (hp3.own _ _ rfl).row; obtain ⟨L9, hL9⟩ : ∃ L9, ([] ++ ks ++ (ks.map (inv false)).reverse).length = L9 := ⟨_, rfl⟩; rw [hL9] at e9; subst e9; clear hL9)
            | fail)
        all_goals (go_wp2_with fail; go_meet)
        all_goals first
          | (have hd := hpq.done rfl; refine ⟨_, A9, L9, c9, rfl, hbg, ?_, hd.2.1, hd.2.2⟩; simpa using hd.1)
          | (have hd := hpq.done2 rfl; refine ⟨_, A9, L9, c9, rfl, hpq.low.size, ?_, hd.2.1, hd.2.2⟩; simpa using hd.1)
      case rest =>
        obtain ⟨g, A9, l9, c9, rfl, hg, hn9, bw9, hbx⟩ := hcut
        clear hb0 hp0 HS1 HSRC HSRI HROW
        have d0 : wc.cell? ⟨g, 0, none⟩ = some (.int .u8 57) := cell_of_blk hbx rfl
        have d1 : wc.cell? ⟨g, 1, none⟩ = some (.int .i64 0) := cell_of_blk hbx rfl
        have d2 : wc.cell? ⟨g, 2, none⟩ = some (.string ⟨#[]⟩) := cell_of_blk hbx rfl
        have d3 : wc.cell? ⟨g, 3, none⟩ = some (.slice A9 l9 c9) := cell_of_blk hbx rfl
        have hBt : isB (.nd 57 n s ks) = true := by rw [← HK57.out, HT.out]; exact HBk.out
        have hBB := isB_empties hBt
        have hEQ := simp_empties hBt H56.out
        obtain ⟨B, hB'⟩ : ∃ B, T.nd 57 0 ⟨#[]⟩ (ks ++ (ks.map (inv false)).reverse) = B := ⟨_, rfl⟩
        rw [hB'] at hBB hEQ hn9
        have HB1 := Lib.hid hBB
        have HE1 := Lib.hid (show blockF B = .nd 57 0 ⟨#[]⟩ [] by unfold blockF; rw [hBB]; exact hEQ)
        have HN9 := Lib.hid hn9
        have HW9 := Lib.hid bw9
        clear hBt hBB hEQ hB' hn9 bw9 hB HL HL2 HT HL6 HK57
        go_wp2_with fail
        refine (IsBlock_any B _ _ HN9.out).mono ?_
        rintro e w10 ⟨rfl, bw10⟩
        rw [HB1.out]
        have q10 : Below w.heap.size w w10 := HQ9.out.trans ((HW9.out.mono HQ9.out.size).trans (bw10.mono (Nat.le_trans HQ9.out.size HW9.out.size)))
        have f0 := cell_bl bw10 d0
        have f1 := cell_bl bw10 d1
        have f2 := cell_bl bw10 d2
        have f3 := cell_bl bw10 d3
        have HN10 := Lib.hid (HN9.out.later bw10)
        clear d0 d1 d2 d3 hbx bw10
        go_wp2_with fail
        refine (Block_any B _ _ HN10.out).mono ?_
        rintro e w11 ⟨k1, n1, s1, A1, l1, c1, rfl, hn11, bw11⟩
        rw [HE1.out] at hn11
        obtain ⟨rfl, rfl, rfl, hl1⟩ := hn11.nv_eq
        simp only [T.k_nd, T.n_nd, T.s_nd, T.ks_nd, List.length_nil] at hl1 ⊢
        subst hl1
        have q11 : Below w.heap.size w w11 := q10.trans (bw11.mono q10.size)
        clear f0 f1 f2 f3 hn11
        go_wp2_with fail
        go_ret
        exact ⟨rfl, q11.alloc q11.size _⟩

end Go.Proofs.Ytldcjboignbfpaa
