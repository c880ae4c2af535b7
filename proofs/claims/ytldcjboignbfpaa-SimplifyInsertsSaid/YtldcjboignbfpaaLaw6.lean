/-
  The law SimplifyInserts, walked.
-/
import Derived.Test.YtldcjboignbfpaaAwake
import Derived.Test.YtldcjboignbfpaaPure
import Derived.Test.YtldcjboignbfpaaEqualR
import Derived.Test.YtldcjboignbfpaaPot
import Derived.Deep.DeepCutAuto
namespace Go.Proofs.Ytldcjboignbfpaa
open Go.RowKit

theorem buildS0 (w : World) : (Instr.buildSlice 22 0 #[]).run Try.prog w = .ok (.slice (some ⟨w.heap.size, 0, none⟩) 0 0) (w.alloc (.cells #[] 24)) := by kernel_rfl

theorem Src.take {w : World} {S : Nat → Prop} {A : Option Addr} {us : List T} (h : Src w S A us) (k : Nat) : Src w S A (us.take k) := fun i hi => by
  obtain ⟨a, u0, u1, u2, u3, h1, h2, h3⟩ := h i (by simp at hi; omega)
  exact ⟨a, u0, u1, u2, u3, h1, h2, by simpa using h3⟩
theorem Src.drop {w : World} {S : Nat → Prop} {A : Option Addr} {us : List T} (h : Src w S A us) (k c : Nat) (hc : us.length ≤ c) : Src w S (if c = k then A else A.map (·.add (k * 4))) (us.drop k) := fun i hi => by
  have hi' : i < us.length - k := by simpa using hi
  obtain ⟨a, u0, u1, u2, u3, h1, h2, h3⟩ := h (k + i) (by omega)
  refine ⟨a.add (k * 4), u0, u1, u2, u3, ?_, ?_, by simpa using h3⟩
  · rw [if_neg (by omega), h1]; rfl
  · rw [add_add, show k * 4 + i * 4 = (k + i) * 4 by omega]; exact h2
theorem size_node : (sizeOf 24).run Try.prog = fun w => .ok 4 w := by kernel_rfl
theorem slice_head (A : Option Addr) (l c k : Nat) (hk : k ≤ l) (hc : l ≤ c) (w : World) : (Instr.slice 22 (.slice A l c) none (some (.int .i64 (k : Int))) none).run Try.prog w = .ok (.slice A k c) w := by
  have h1 : (0 : Int) ≤ k ∧ (k : Int) ≤ c := ⟨by omega, by omega⟩
  unfold Instr.slice
  simp only [Sem.run_bind, run_underlying Try.underlying22, Result.andThen_ok, Instr.sliceBounds, Instr.sliceBound, Sem.run_pure, asIntOf, h1, and_self, if_true, size_node, Int.toNat_natCast, Nat.sub_zero, Nat.zero_mul]
  split
  · rfl
  · cases A <;> rfl
theorem slice_tail (A : Option Addr) (l c k : Nat) (hk : k ≤ l) (w : World) : (Instr.slice 22 (.slice A l c) (some (.int .i64 (k : Int))) none none).run Try.prog w = .ok (.slice (if c = k then A else A.map (·.add (k * 4))) (l - k) (c - k)) w := by
  have h1 : (0 : Int) ≤ k ∧ (k : Int) ≤ l := ⟨by omega, by omega⟩
  unfold Instr.slice
  simp only [Sem.run_bind, run_underlying Try.underlying22, Result.andThen_ok, Instr.sliceBounds, Instr.sliceBound, Sem.run_pure, asIntOf, h1, and_self, if_true, size_node, Int.toNat_natCast]

theorem isB_inserts {n : Int} {s : ByteArray} {ks : List T} {u : T} (m : Nat) (h : isB (.nd 57 n s ks) = true) (hu : isS u = true) : isB (.nd 57 0 ⟨#[]⟩ (ks.take m ++ [u, inv false u] ++ ks.drop m)) = true := by
  have h3 := ((isB_iff _ _ _ _).1 h).2.2
  refine (isB_iff _ _ _ _).2 ⟨rfl, plainB_0, fun t ht => ?_⟩
  simp only [List.mem_append, List.mem_cons, List.not_mem_nil, or_false] at ht
  rcases ht with (ht | rfl | rfl) | ht
  · exact h3 t (List.mem_of_mem_take ht)
  · exact hu
  · exact isS_inv hu
  · exact h3 t (List.mem_of_mem_drop ht)
theorem simp_inserts (n : Int) (s : ByteArray) (ks : List T) {u : T} (m : Nat) (hu : isS u = true) (hk : u.k ≠ 56) : simp (.nd 57 0 ⟨#[]⟩ (ks.take m ++ [u, inv false u] ++ ks.drop m)) = simp (.nd 57 n s ks) := by
  rw [simp_nd, simp_nd]
  have e : foldC ((ks.take m ++ [u, inv false u] ++ ks.drop m).map stm) = foldC ((ks.take m).map stm ++ (ks.drop m).map stm) := by
    rw [List.map_append, List.map_append]
    refine foldC_inserts _ _ ?_
    rw [stm_inv hu]
    exact canc_self (isS_stm hu) (by rw [stm_k]; exact hk)
  rw [e, ← List.map_append, List.take_append_drop]

set_option maxHeartbeats 20000000 in
set_option maxRecDepth 100000 in
theorem Inserts_walk (t u : T) (q : Int) (v1 v2 : Value) (w : World) (hv1 : NV w Any t v1) (hv2 : NV w Any u v2) (hq : 0 ≤ q ∧ q < 256) (hl2 : t.ks.length + 2 ≤ LK) : Calls Try.prog 6 #[v1, v2, .int .u8 q] w fun e w' => e = .returned (.bool true) ∧ Below w.heap.size w w' := by
  obtain ⟨i0, hi0, hz0, hz1, hz2⟩ := info_parts nodeInfo
  rcases t with ⟨k, n, s, ks⟩
  rcases u with ⟨k', n', s', us⟩
  obtain ⟨A, c, rfl, hf, hlk, hlc, hrow⟩ := hv1.open_
  obtain ⟨A', c', rfl, hf', hlk', hlc', hrow'⟩ := hv2.open_
  simp only [T.k_nd, T.n_nd, T.s_nd, T.ks_nd] at *
  have HV1 := Lib.hid hv1
  have HV2 := Lib.hid hv2
  have HROW := Lib.hid hrow
  have HL2 := Lib.hid hl2
  have hl2' := LK_int hl2
  clear hf hlk hrow hv1 hf' hlk' hrow' hv2 hlc' hl2
  obtain ⟨l, hl⟩ : ∃ l, ks.length = l := ⟨_, rfl⟩
  obtain ⟨l', hl'⟩ : ∃ l', us.length = l' := ⟨_, rfl⟩
  rw [hl] at hlc hl2' ⊢
  rw [hl'] at ⊢
  have hv1 : NV w Any (.nd k n s ks) (nv k n s A l c) := hl ▸ HV1.out
  have hv2 : NV w Any (.nd k' n' s' us) (nv k' n' s' A' l' c') := hl' ▸ HV2.out
  have HL := Lib.hid hl
  clear HV1 HV2 hl hl'
  obtain ⟨t, ht⟩ : ∃ t, T.nd k n s ks = t := ⟨_, rfl⟩
  obtain ⟨u, hu⟩ : ∃ u, T.nd k' n' s' us = u := ⟨_, rfl⟩
  have HT := Lib.hid ht
  have HU := Lib.hid hu
  have HV1 := Lib.hid (show NV w Any t (nv k n s A l c) from ht ▸ hv1)
  have HV2 := Lib.hid (show NV w Any u (nv k' n' s' A' l' c') from hu ▸ hv2)
  clear hv1 hv2 ht hu
  have hb2 : ∀ o o', Below w.heap.size w ((w.alloc o).alloc o') := fun o o' => ((Below.refl _ _).alloc (Nat.le_refl _) _).alloc (by simp) _
  have HB2 := Lib.hid hb2
  clear hb2
  obtain ⟨z, hz⟩ : ∃ z, wrap64 (size t) = z := ⟨_, rfl⟩
  have HZ := Lib.hid hz
  obtain ⟨y, hy⟩ : ∃ y, wrap64 (size u) = y := ⟨_, rfl⟩
  have HY := Lib.hid hy
  clear hz hy
  obtain ⟨m, hm, hml⟩ : ∃ m : Nat, q.tmod (↑l + 1) = (m : Int) ∧ m ≤ l := by
    refine ⟨(q.tmod (↑l + 1)).toNat, ?_, ?_⟩
    · have := Int.tmod_nonneg ((l : Int) + 1) hq.1
      omega
    · have := Int.tmod_lt_of_pos q (b := (l : Int) + 1) (by omega)
      omega
  go_enter Try.func6, Try.ntmps6
  go_wp2_with fail
  refine (awake_any _).mono ?_
  rintro e w1 ⟨rfl, bw1⟩
  have q1 : Below w.heap.size w w1 := (HB2.out _ _).trans (bw1.mono (by simp; omega))
  obtain ⟨hc1, hf1⟩ := bcell bw1
  go_wp2_with fail
  refine (Size_any t _ _ (HV1.out.later q1)).mono ?_
  rintro e w2 ⟨rfl, bw2⟩
  rw [HZ.out]
  have hs1 : w.heap.size + 2 ≤ w1.heap.size := by have := bw1.size; simpa using this
  have b12 := bw1.trans (bw2.mono (by simpa using hs1))
  have q2 : Below w.heap.size w w2 := q1.trans (bw2.mono q1.size)
  clear hc1 hf1
  obtain ⟨hc1, hf1⟩ := bcell b12
  by_cases h100 : 100 < z
  · go_wp2_with fail
    go_ret
    exact ⟨rfl, q2⟩
  have h100' : z ≤ 100 := by omega
  clear h100
  go_wp2_with fail
  refine (Size_any u _ _ (HV2.out.later q2)).mono ?_
  rintro e w3 ⟨rfl, bw3⟩
  rw [HY.out]
  have hs2 : w.heap.size + 2 ≤ w2.heap.size := by have := b12.size; simpa using this
  have b13 := b12.trans (bw3.mono (by simpa using hs2))
  have q3 : Below w.heap.size w w3 := q2.trans (bw3.mono q2.size)
  clear hc1 hf1
  obtain ⟨hc1, hf1⟩ := bcell b13
  by_cases h60 : 60 < y
  · go_wp2_with fail
    go_ret
    exact ⟨rfl, q3⟩
  have h60' : y ≤ 60 := by omega
  clear h60
  have hs3 : w.heap.size + 2 ≤ w3.heap.size := by have := b13.size; simpa using this
  cases hB : isB t
  · go_wp2_with fail
    refine (IsBlock_any t _ _ (HV1.out.later q3)).mono ?_
    rintro e w4 ⟨rfl, bw4⟩
    have q4 : Below w.heap.size w w4 := q3.trans (bw4.mono q3.size)
    go_wp2_with fail
    go_ret
    exact ⟨rfl, q4⟩
  have HBk := Lib.hid hB
  cases hS : isS u
  · go_wp2_with fail
    refine (IsBlock_any t _ _ (HV1.out.later q3)).mono ?_
    rintro e w4 ⟨rfl, bw4⟩
    have q4 : Below w.heap.size w w4 := q3.trans (bw4.mono q3.size)
    have b14 := b13.trans (bw4.mono (by simpa using hs3))
    clear hc1 hf1
    obtain ⟨hc1, hf1⟩ := bcell b14
    go_wp2_with fail
    refine (IsStmt_any u _ _ (HV2.out.later q4)).mono ?_
    rintro e w5 ⟨rfl, bw5⟩
    have q5 : Below w.heap.size w w5 := q4.trans (bw5.mono q4.size)
    go_wp2_with fail
    go_ret
    exact ⟨rfl, q5⟩
  have HSt := Lib.hid hS
  go_wp2_with fail
  refine (IsBlock_any t _ _ (HV1.out.later q3)).mono ?_
  rintro e w4 ⟨rfl, bw4⟩
  have q4 : Below w.heap.size w w4 := q3.trans (bw4.mono q3.size)
  have b14 := b13.trans (bw4.mono (by simpa using hs3))
  have hs4 : w.heap.size + 2 ≤ w4.heap.size := by have := b14.size; simpa using this
  clear hc1 hf1
  obtain ⟨hc1, hf1⟩ := bcell b14
  go_wp2_with fail
  refine (IsStmt_any u _ _ (HV2.out.later q4)).mono ?_
  rintro e w5 ⟨rfl, bw5⟩
  have q5 : Below w.heap.size w w5 := q4.trans (bw5.mono q4.size)
  have b15 := b14.trans (bw5.mono (by simpa using hs4))
  have hs5 : w.heap.size + 2 ≤ w5.heap.size := by have := b15.size; simpa using this
  clear hc1 hf1
  obtain ⟨hc1, hf1⟩ := bcell b15
  cases h56 : (k' == 56)
  case true =>
    go_wp2_with fail
    go_ret
    exact ⟨rfl, q5⟩
  have hne56 : k' ≠ 56 := by simpa using h56
  go_wp2_with fail
  refine (Stmt_ok u _ _ (HV2.out.later q5) (.inl HSt.out)).mono ?_
  rintro e w6 ⟨k6, n6, s6, A6, l6, c6, rfl, hn6, bw6⟩
  have q6 : Below w.heap.size w w6 := q5.trans (bw6.mono q5.size)
  have b16 := b15.trans (bw6.mono (by simpa using hs5))
  have hs6 : w.heap.size + 2 ≤ w6.heap.size := by have := b16.size; simpa using this
  have x3 := cell_al (cell_bl b16 (p := ⟨w.heap.size, 3, none⟩) (u := .slice A l c) (by simp))
  go_upto_region 9 with fail
  have x0 := cell_al (cell_bl b16 (p := ⟨w.heap.size, 0, none⟩) (u := .int .u8 k) (by simp))
  have x1 := cell_al (cell_bl b16 (p := ⟨w.heap.size, 1, none⟩) (u := .int .i64 n) (by simp))
  have x2 := cell_al (cell_bl b16 (p := ⟨w.heap.size, 2, none⟩) (u := .string s) (by simp))
  have hx0 := x0 (.cells #[.int .u8 k6, .int .i64 n6, .string s6, .slice A6 l6 c6] 24)
  have hx1 := x1 (.cells #[.int .u8 k6, .int .i64 n6, .string s6, .slice A6 l6 c6] 24)
  have hx2 := x2 (.cells #[.int .u8 k6, .int .i64 n6, .string s6, .slice A6 l6 c6] 24)
  clear x0 x1 x2
  have y0 := cell_al (cell_bl b16 (p := ⟨w.heap.size + 1, 0, none⟩) (u := .int .u8 k') (by simp))
  have y1 := cell_al (cell_bl b16 (p := ⟨w.heap.size + 1, 1, none⟩) (u := .int .i64 n') (by simp))
  have y2 := cell_al (cell_bl b16 (p := ⟨w.heap.size + 1, 2, none⟩) (u := .string s') (by simp))
  have y3 := cell_al (cell_bl b16 (p := ⟨w.heap.size + 1, 3, none⟩) (u := .slice A' l' c') (by simp))
  have bw9 : Below w6.heap.size w6 (w6.alloc (.cells #[.int .u8 k6, .int .i64 n6, .string s6, .slice A6 l6 c6] 24)) := (Below.refl _ _).alloc (Nat.le_refl _) _
  have q9 : Below w.heap.size w (w6.alloc (.cells #[.int .u8 k6, .int .i64 n6, .string s6, .slice A6 l6 c6] 24)) := q6.trans (bw9.mono q6.size)
  obtain ⟨W9, hW9, hc9⟩ : ∃ W9, w6.alloc (.cells #[.int .u8 k6, .int .i64 n6, .string s6, .slice A6 l6 c6] 24) = W9 ∧ (fun w' => (w'.cell? ⟨w.heap.size, 3, none⟩ = some (.slice A l c) ∧ (w'.cell? ⟨w.heap.size + 1, 0, none⟩ = some (.int .u8 k') ∧ w'.cell? ⟨w.heap.size + 1, 1, none⟩ = some (.int .i64 n') ∧ w'.cell? ⟨w.heap.size + 1, 2, none⟩ = some (.string s') ∧ w'.cell? ⟨w.heap.size + 1, 3, none⟩ = some (.slice A' l' c')) ∧ (w'.cell? ⟨w6.heap.size, 0, none⟩ = some (.int .u8 k6) ∧ w'.cell? ⟨w6.heap.size, 1, none⟩ = some (.int .i64 n6) ∧ w'.cell? ⟨w6.heap.size, 2, none⟩ = some (.string s6) ∧ w'.cell? ⟨w6.heap.size, 3, none⟩ = some (.slice A6 l6 c6)))) W9 := ⟨_, rfl, x3 _, ⟨y0 _, y1 _, y2 _, y3 _⟩, by simp, by simp, by simp, by simp⟩
  have hn9 := hn6.any.later bw9
  rw [hW9] at q9 hn9 hx0 hx1 hx2 ⊢
  have HNi := Lib.hid hn9
  have HNu := Lib.hid (HV2.out.later q9)
  have HSRC := Lib.hid (HROW.out.later q9).in_.src
  have HQ9 := Lib.hid q9
  have HS2 := Lib.hid (show ∀ w', Below W9.heap.size W9 w' → w'.cell? ⟨w.heap.size, 0, none⟩ = some (.int .u8 k) ∧ w'.cell? ⟨w.heap.size, 1, none⟩ = some (.int .i64 n) ∧ w'.cell? ⟨w.heap.size, 2, none⟩ = some (.string s) ∧ w'.cell? ⟨w.heap.size, 3, none⟩ = some (.slice A l c) from fun w' h => ⟨cell_bl h hx0, cell_bl h hx1, cell_bl h hx2, cell_bl h hc9.1⟩)
  have HS1 := Lib.hid (show ∀ w', Below W9.heap.size W9 w' → (w'.cell? ⟨w.heap.size, 3, none⟩ = some (.slice A l c) ∧ (w'.cell? ⟨w.heap.size + 1, 0, none⟩ = some (.int .u8 k') ∧ w'.cell? ⟨w.heap.size + 1, 1, none⟩ = some (.int .i64 n') ∧ w'.cell? ⟨w.heap.size + 1, 2, none⟩ = some (.string s') ∧ w'.cell? ⟨w.heap.size + 1, 3, none⟩ = some (.slice A' l' c')) ∧ (w'.cell? ⟨w6.heap.size, 0, none⟩ = some (.int .u8 k6) ∧ w'.cell? ⟨w6.heap.size, 1, none⟩ = some (.int .i64 n6) ∧ w'.cell? ⟨w6.heap.size, 2, none⟩ = some (.string s6) ∧ w'.cell? ⟨w6.heap.size, 3, none⟩ = some (.slice A6 l6 c6))) from fun w' h => ⟨cell_bl h hc9.1, ⟨cell_bl h hc9.2.1.1, cell_bl h hc9.2.1.2.1, cell_bl h hc9.2.1.2.2.1, cell_bl h hc9.2.1.2.2.2⟩, cell_bl h hc9.2.2.1, cell_bl h hc9.2.2.2.1, cell_bl h hc9.2.2.2.2.1, cell_bl h hc9.2.2.2.2.2⟩)
  clear hx0 hx1 hx2 hW9 hc9 hn9 q9 bw9 y0 y1 y2 y3 x3 hn6 bw6 b16 b15 b14 b13 b12 bw1 bw2 bw3 bw4 bw5 q1 q2 q3 q4 q5 q6 hs1 hs2 hs3 hs4 hs5 hs6 hc1 hf1
  have hp0 : Pot W9 W9 24 none none none := Pot.start W9 _
  have hb0 := buildS0
  have hb2 := buildS2
  have hsh := slice_head A l c m hml hlc
  have hst := slice_tail A l c m hml
  have hsd := HSRC.out.drop m c (by rw [HL.out]; exact hlc)
  obtain ⟨A2, hA2⟩ : ∃ A2, (if c = m then A else A.map (·.add (m * 4))) = A2 := ⟨_, rfl⟩
  rw [hA2] at hsd
  simp only [hA2] at hst
  have HSD := Lib.hid hsd
  clear hA2 hsd
  go_cut [10] (fun s10 wx => ∃ (g : Nat) (A9 : Option Addr) (l9 c9 : Nat), s10 = .pointer (some ⟨g, 0, none⟩) ∧ W9.heap.size ≤ g ∧ NV wx Any (.nd 57 0 ⟨#[]⟩ (ks.take m ++ [u, inv false u] ++ ks.drop m)) (nv 57 0 ⟨#[]⟩ A9 l9 c9) ∧ Below W9.heap.size W9 wx ∧ wx.heap[g]? = some (.cells #[.int .u8 57, .int .i64 0, .string ⟨#[]⟩, .slice A9 l9 c9] 24 (0, 0)))
  case first =>
    clear HV1 HV2 HB2 HZ HY HT HU HBk HSt HQ9 HS2 HROW h100' h60' hB hS h56 hne56 hq hm
    go_region_held3 (fun w' => (w'.cell? ⟨w.heap.size, 3, none⟩ = some (.slice A l c) ∧ (w'.cell? ⟨w.heap.size + 1, 0, none⟩ = some (.int .u8 k') ∧ w'.cell? ⟨w.heap.size + 1, 1, none⟩ = some (.int .i64 n') ∧ w'.cell? ⟨w.heap.size + 1, 2, none⟩ = some (.string s') ∧ w'.cell? ⟨w.heap.size + 1, 3, none⟩ = some (.slice A' l' c')) ∧ (w'.cell? ⟨w6.heap.size, 0, none⟩ = some (.int .u8 k6) ∧ w'.cell? ⟨w6.heap.size, 1, none⟩ = some (.int .i64 n6) ∧ w'.cell? ⟨w6.heap.size, 2, none⟩ = some (.string s6) ∧ w'.cell? ⟨w6.heap.size, 3, none⟩ = some (.slice A6 l6 c6))))
      (first | with_reducible exact HS1.out _ (Pot.set4 hpq _ _ _ _) | with_reducible exact HS1.out _ (Pot.low (by (repeat first | with_reducible assumption | with_reducible apply Pot.drew | with_reducible apply Pot.lay | with_reducible apply Pot.row0 | with_reducible apply Pot.row2 HNu.out HNi.out))) | with_reducible exact HS1.out _ (Pot.low (Pot.alloc (by with_reducible assumption) _)))
      (first
        | (go_at_call 19; refine (block_any _ _ _ _).mono ?_; rintro e wq ⟨rfl, bq⟩; first | (have hpq : Pot W9 wq _ _ _ (some _) := Pot.later (by (repeat first | with_reducible assumption | with_reducible apply Pot.drew | with_reducible apply Pot.lay | with_reducible apply Pot.row0 | with_reducible apply Pot.row2 HNu.out HNi.out)) bq; (try simp only [World.size_alloc, World.size_drew] at hpq); have hbg := (hpq.box _ rfl).1; have hbx := (hpq.box _ rfl).2; have e0 : wq.cell? ⟨_, 0, none⟩ = some (.int .u8 0) := cell_of_blk hbx rfl; have e1 : wq.cell? ⟨_, 1, none⟩ = some (.int .i64 0) := cell_of_blk hbx rfl; have e2 : wq.cell? ⟨_, 2, none⟩ = some (.string ⟨#[]⟩) := cell_of_blk hbx rfl; have e3 : wq.cell? ⟨_, 3, none⟩ = some (.slice none 0 0) := cell_of_blk hbx rfl; have e4 := fun i => frozen_of_blk (i := i) hbx) | (have hpq : Pot W9 wq _ _ _ none := Pot.later (by (repeat first | with_reducible assumption | with_reducible apply Pot.drew | with_reducible apply Pot.lay | with_reducible apply Pot.row0 | with_reducible apply Pot.row2 HNu.out HNi.out)) bq))
        | (refine step_pot_append (w := W9) (by rfl) (.tmp 50) (.tmp 54) 22 (by rfl) 24 i0 _ Try.underlying22 hi0 hz0 hz1 hz2 rfl _ _ _ _ (by (repeat first | with_reducible assumption | with_reducible apply Pot.drew | with_reducible apply Pot.lay | with_reducible apply Pot.row0 | with_reducible apply Pot.row2 HNu.out HNi.out)) (by first | rfl | (simp only [World.size_alloc, World.size_drew]; rfl)) (ks.take m) A m c (by have h1 := HL.out; simp [List.length_take]; omega) (by rfl) ((HSRC.out.take m).later (Pot.low (by (repeat first | with_reducible assumption | with_reducible apply Pot.drew | with_reducible apply Pot.lay | with_reducible apply Pot.row0 | with_reducible apply Pot.row2 HNu.out HNi.out)))) (by have h1 := HL.out; have h2 := HL2.out; simp [List.length_take, List.length_drop]; omega) ?_; intro v1 x1 hp1)
        | (refine step_pot_append_row (w := W9) (by rfl) (.tmp 55) (.tmp 58) 22 (by rfl) 24 i0 _ Try.underlying22 hi0 hz0 hz1 hz2 rfl _ _ [u, inv false u] _ _ (by (repeat first | with_reducible assumption | with_reducible apply Pot.drew | with_reducible apply Pot.lay | with_reducible apply Pot.row0 | with_reducible apply Pot.row2 HNu.out HNi.out)) (by rfl) 2 2 rfl (by first | rfl | (simp only [World.size_alloc, World.size_drew]; rfl)) (by have h1 := HL.out; have h2 := HL2.out; simp [List.length_take, List.length_drop]; omega) ?_; intro v2 x2 hp2)
        | (refine step_pot_append (w := W9) (by rfl) (.tmp 59) (.tmp 63) 22 (by rfl) 24 i0 _ Try.underlying22 hi0 hz0 hz1 hz2 rfl _ _ _ _ (by (repeat first | with_reducible assumption | with_reducible apply Pot.drew | with_reducible apply Pot.lay | with_reducible apply Pot.row0 | with_reducible apply Pot.row2 HNu.out HNi.out)) (by rfl) (ks.drop m) A2 (l - m) (c - m) (by have h1 := HL.out; simp [List.length_drop]; omega) (by rfl) (HSD.out.later (Pot.low (by (repeat first | with_reducible assumption | with_reducible apply Pot.drew | with_reducible apply Pot.lay | with_reducible apply Pot.row0 | with_reducible apply Pot.row2 HNu.out HNi.out)))) (by have h1 := HL.out; have h2 := HL2.out; simp [List.length_take, List.length_drop]; omega) ?_; intro v3 x3 hp3; obtain ⟨A9, c9, e9, -⟩ := (hp3.own _ _ rfl).row; obtain ⟨L9, hL9⟩ : ∃ L9, ([] ++ ks.take m ++ [u, inv false u] ++ ks.drop m).length = L9 := ⟨_, rfl⟩; rw [hL9] at e9; subst e9; clear hL9)
        | fail)
    all_goals (go_wp2_with fail; go_meet)
    all_goals first
      | (have hd := hpq.done rfl; refine ⟨_, A9, L9, c9, rfl, hbg, ?_, hd.2.1, hd.2.2⟩; simpa using hd.1)
      | (have hd := hpq.done2 rfl; refine ⟨_, A9, L9, c9, rfl, hpq.low.size, ?_, hd.2.1, hd.2.2⟩; simpa using hd.1)
      | sorry
  case rest =>
    obtain ⟨g, A9, l9, c9, rfl, hg, hn9, bw9, hbx⟩ := hcut
    clear hb0 hb2 hsh hst hp0 HS1 HSRC HSD HNi HNu HROW hml hm
    have d0 : wc.cell? ⟨g, 0, none⟩ = some (.int .u8 57) := cell_of_blk hbx rfl
    have d1 : wc.cell? ⟨g, 1, none⟩ = some (.int .i64 0) := cell_of_blk hbx rfl
    have d2 : wc.cell? ⟨g, 2, none⟩ = some (.string ⟨#[]⟩) := cell_of_blk hbx rfl
    have d3 : wc.cell? ⟨g, 3, none⟩ = some (.slice A9 l9 c9) := cell_of_blk hbx rfl
    have hk57 : k = 57 := by have := isB_k HBk.out; rw [← HT.out] at this; exact this
    have HBB := Lib.hid (show isB (.nd 57 0 ⟨#[]⟩ (ks.take m ++ [u, inv false u] ++ ks.drop m)) = true from isB_inserts (n := n) (s := s) m (by rw [← hk57, HT.out]; exact HBk.out) HSt.out)
    have HEQ := Lib.hid (show simp (.nd 57 0 ⟨#[]⟩ (ks.take m ++ [u, inv false u] ++ ks.drop m)) = simp t from by rw [← HT.out, hk57]; exact simp_inserts n s ks m HSt.out (by rw [← HU.out]; exact hne56))
    clear hk57
    obtain ⟨B, hB'⟩ : ∃ B, T.nd 57 0 ⟨#[]⟩ (ks.take m ++ [u, inv false u] ++ ks.drop m) = B := ⟨_, rfl⟩
    have HBB' := HBB.out
    have HEQ' := HEQ.out
    rw [hB'] at HBB' HEQ' hn9
    have HB1 := Lib.hid HBB'
    have HE1 := Lib.hid HEQ'
    have HN9 := Lib.hid hn9
    have HW9 := Lib.hid bw9
    clear HBB HEQ HBB' HEQ' hB' hn9 bw9 hB hS HL HL2 HT HU
    go_wp2_with fail
    refine (IsBlock_any B _ _ HN9.out).mono ?_
    rintro e w10 ⟨rfl, bw10⟩
    rw [HB1.out]
    have q10 : Below w.heap.size w w10 := HQ9.out.trans ((HW9.out.mono HQ9.out.size).trans (bw10.mono (Nat.le_trans HQ9.out.size HW9.out.size)))
    have HS3 := Lib.hid (show ∀ w', Below w10.heap.size w10 w' → (w'.cell? ⟨g, 0, none⟩ = some (.int .u8 57) ∧ w'.cell? ⟨g, 1, none⟩ = some (.int .i64 0) ∧ w'.cell? ⟨g, 2, none⟩ = some (.string ⟨#[]⟩) ∧ w'.cell? ⟨g, 3, none⟩ = some (.slice A9 l9 c9)) ∧ (w'.cell? ⟨w.heap.size, 0, none⟩ = some (.int .u8 k) ∧ w'.cell? ⟨w.heap.size, 1, none⟩ = some (.int .i64 n) ∧ w'.cell? ⟨w.heap.size, 2, none⟩ = some (.string s) ∧ w'.cell? ⟨w.heap.size, 3, none⟩ = some (.slice A l c)) from
      fun w' h => ⟨⟨cell_bl h (cell_bl bw10 d0), cell_bl h (cell_bl bw10 d1), cell_bl h (cell_bl bw10 d2), cell_bl h (cell_bl bw10 d3)⟩, HS2.out w' (HW9.out.trans ((bw10.mono HW9.out.size).trans (h.mono (Nat.le_trans HW9.out.size bw10.size))))⟩)
    have HN10 := Lib.hid (HN9.out.later bw10)
    clear d0 d1 d2 d3 hbx bw10
    go_wp2_with fail
    go_region_held3 (fun w' => (w'.cell? ⟨g, 0, none⟩ = some (.int .u8 57) ∧ w'.cell? ⟨g, 1, none⟩ = some (.int .i64 0) ∧ w'.cell? ⟨g, 2, none⟩ = some (.string ⟨#[]⟩) ∧ w'.cell? ⟨g, 3, none⟩ = some (.slice A9 l9 c9)) ∧ (w'.cell? ⟨w.heap.size, 0, none⟩ = some (.int .u8 k) ∧ w'.cell? ⟨w.heap.size, 1, none⟩ = some (.int .i64 n) ∧ w'.cell? ⟨w.heap.size, 2, none⟩ = some (.string s) ∧ w'.cell? ⟨w.heap.size, 3, none⟩ = some (.slice A l c)))
      (first | exact HS3.out _ (Below.refl _ _).drew | exact HS3.out _ bz)
      (first
        | (go_at_call 17; refine (Block_any B _ _ (HN10.out.later (Below.refl _ _).drew)).mono ?_; rintro e w11 ⟨k1, n1, s1, A1, l1, c1, rfl, hn11, bw11⟩; have bz := (Below.refl w10.heap.size w10).drew.trans (bw11.mono (by simp)))
        | (go_at_call 17; refine (Block_any t _ _ ((HV1.out.later q10).later bz)).mono ?_; rintro e w12 ⟨k2, n2, s2, A2, l2, c2, rfl, hn12, bw12⟩; have hn11' := hn11.any.later bw12; have bz' := bz.trans (bw12.mono (by have := bz.size; omega)); clear bz; have bz := bz')
        | (go_at_call 18; refine (refEqual_any (blockF B) (blockF t) _ _ _ hn11' hn12.any).mono ?_; rintro e w13 ⟨rfl, bw13⟩; have bz' := bz.trans (bw13.mono (by have := bz.size; omega)); clear bz; have bz := bz')
        | fail)
    have e9 : teq (blockF B) (blockF t) = true := by
      have h1 : blockF B = simp B := by unfold blockF; rw [HB1.out]; rfl
      have h2 : blockF t = simp t := by unfold blockF; rw [HBk.out]; rfl
      rw [h1, h2, HE1.out]; exact teq_refl _
    rw [e9]
    have q13 : Below w.heap.size w w13 := q10.trans (bz.mono q10.size)
    go_wp2_with fail
    go_ret
    exact ⟨rfl, q13⟩

end Go.Proofs.Ytldcjboignbfpaa
