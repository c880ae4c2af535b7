/-
  The contract of the reference's Statement (backstepref46).
-/
import Derived.Test.YtldcjboignbfpaaRefC
namespace Go.Proofs.Ytldcjboignbfpaa
open Go.RowKit

set_option maxHeartbeats 4000000 in
set_option maxRecDepth 100000 in
theorem Statement_of (k n : Int) (s : ByteArray) (ks : List T) (S0 : Nat → Prop) (v : Value) (w : World) (hv : NV w S0 (.nd k n s ks) v)
    (hB : ∀ kid ∈ ks, kid.k = 57 → ∀ (S : Nat → Prop) (v : Value) (w : World), NV w S kid v → Calls Try.prog 20 #[v] w (ShNode w S (simp kid))) :
    Calls Try.prog 42 #[v] w (ShNode w S0 (stm (.nd k n s ks))) := by
  obtain ⟨i0, hi0, hz0, hz1, hz2⟩ := info_parts nodeInfo
  obtain ⟨A, c, rfl, hf, hlk, hlc, hrow⟩ := hv.open_
  simp only [T.k_nd, T.n_nd, T.s_nd, T.ks_nd] at *
  have hlk' := LK_int hlk
  have HLK := Lib.hid hlk
  have HF := Lib.hid hf
  have HBk := Lib.hid hB
  have HROW := Lib.hid (show RowAt w (fun b => S0 b ∧ b < w.heap.size) A ks from hrow.keep (fun b hb hlt => ⟨hb, hlt⟩) fun _ _ _ => rfl)
  clear hv hB hf hrow hlk
  have hbs := build1
  go_enter Try.func42, Try.ntmps42
  go_wp2_with fail
  go_loopw [4] (fun i wr => ∃ (j : Nat) (A' : Option Addr) (c' : Nat), j ≤ ks.length ∧ i = .int .i64 j ∧ j ≤ c' ∧ Bld w wr 24 k n s A ks.length c k n s (fun b => (S0 b ∧ b < w.heap.size) ∨ w.heap.size + 3 ≤ b) (.slice A' j c') ((ks.take j).map skF)) (fun i _ => ks.length - (intOf i).toNat)
  case atStart => exact ⟨0, none, 0, Nat.zero_le _, rfl, Nat.zero_le _, Bld.start w _ k n s A _ c k n s _ (fun b hb => by rcases hb with hb | hb; exact .inl hb.2; exact .inr hb)⟩
  case round =>
    obtain ⟨j, A', c', hj, rfl, hjc, hs⟩ := hrel
    by_cases hlt : j < ks.length
    · obtain ⟨a, t, A1, c1, rfl, _, Ht, ⟨q0, q1, q2, q3⟩, hn⟩ := (HROW.out.later hs.below).nd hlt
      have g3 : wr.cell? ⟨w.heap.size + 1 + 1, 3, none⟩ = some (.slice A' j c') := cell_of_blk hs.box rfl
      have a3 : wr.cell? ⟨w.heap.size, 3, none⟩ = some (.slice (some a) ks.length c) := cell_of_blk hs.arg rfl
      have hsz := hs.size
      have hlen1 : ((ks.take j).map skF).length + 1 ≤ LK := by have := HLK.out; simp; omega
      have HT := Lib.hid (show (ks.take j).map skF ++ [skF t] = (ks.take (j + 1)).map skF by rw [List.take_succ_eq_append_getElem hlt, Ht.out]; simp)
      have HT1 := Lib.hid (show ((ks.take j).map skF ++ [skF t]).length = j + 1 by simp; omega)
      have HCOM := Lib.hid (show ∀ (W : World) (u : T) (x : Value), Below wr.heap.size wr W → NV W (fun b => (S0 b ∧ b < w.heap.size) ∨ wr.heap.size ≤ b) u x → NV W (fun b => ((S0 b ∧ b < w.heap.size) ∨ w.heap.size + 3 ≤ b) ∧ some b ≠ (Value.slice A' j c').ownBlock) u x from fun W u x _ h => h.mono fun b hb => ⟨by rcases hb with hb | hb; exact .inl hb; exact .inr (by omega), fun e => by have := hs.own.block b e.symm; rcases hb with hb | hb <;> omega⟩)
      obtain ⟨kk, hkk⟩ : ∃ kk, t.k = kk := ⟨_, rfl⟩
      have HKK := Lib.hid hkk
      rw [hkk] at hn q0
      have HN := Lib.hid hn
      have HS := Lib.hid hs
      clear hn hkk
      by_cases h57 : kk = 57
      case neg =>
        have f57 : (kk == 57) = false := by simpa using h57
        have HSK := Lib.hid (show skF t = t by have := HKK.out; simp [skF, this, f57])
        clear h57
        have g3' := cell_al g3
        have hW : Below wr.heap.size wr (wr.alloc (.cells #[.int .u8 kk, .int .i64 t.n, .string t.s, .slice A1 t.ks.length c1] 24)) := (Below.refl _ _).alloc (Nat.le_refl _) _
        have hsW := HS.out.later hW
        have hnW := HCOM.out _ _ _ hW ((HN.out.later hW).mono fun b hb => .inl hb)
        clear hs
        go_wp2_with (at_builtin; refine wpList_append_nodeH rfl (.tmp 26) (.tmp 28) 22 rfl 24 i0 _ Try.underlying22 hi0 hz0 hz1 hz2 rfl (w.heap.size + 3) (fun b => (S0 b ∧ b < w.heap.size) ∨ w.heap.size + 3 ≤ b) (.slice A' j c') _ rfl hsW.own t kk t.n t.s A1 t.ks.length c1 (wr.heap.size + 1) (by simp) rfl hnW hlen1 hsW.size ?_; intro v2 w2 hown2 hg2 hob2; obtain ⟨A3, c3, hv3, hc3, _, _⟩ := hown2.row; have hst := hsW.put hown2 hg2; have hbx := (hg2.block _ (blk_lt hsW.box) (own_ne hsW.own)).trans hsW.box; have hy0 : w2.cell? ⟨w.heap.size + 1 + 1, 3, none⟩ = some (.slice A' j c') := cell_of_blk hbx rfl; have hy1 : w2.frozen? ⟨w.heap.size + 1 + 1, 3, none⟩ = false := frozen_of_blk hbx; rw [hv3] at hst; have HST := Lib.hid hst; have HC3 := Lib.hid hc3; clear hst hc3; rw [hv3])
        go_roundw
        case rel =>
          have h1 := HST.out
          have h2 := HC3.out
          have e1 := HT1.out
          have e2 := HT.out
          rw [HSK.out] at e1 e2
          rw [e1] at h1 h2
          rw [e2] at h1
          exact ⟨j + 1, A3, c3, by omega, by go_num, h2, h1⟩
        case measure => simp [intOf]; omega
      case pos =>
        subst h57
        have HSK := Lib.hid (show skF t = simp t by have := HKK.out; simp [skF, this])
        have hC := HBk.out ks[j] (List.getElem_mem hlt)
        rw [Ht.out] at hC
        have HC := Lib.hid (hC HKK.out (fun b => S0 b ∧ b < w.heap.size) _ _ (HN.out.later ((Below.refl wr.heap.size wr).alloc (Nat.le_refl _) (.cells #[.int .u8 57, .int .i64 t.n, .string t.s, .slice A1 t.ks.length c1] 24))))
        clear hC hs
        go_wp2_with fail
        refine HC.out.mono ?_
        rintro e w1 ⟨k1, n1, s1, A2, l2, c2, rfl, hn1, hb1⟩
        have hbw : Below wr.heap.size wr w1 := ((Below.refl _ _).alloc (Nat.le_refl _) _).trans (hb1.mono (by simp))
        have z0 : w1.cell? ⟨wr.heap.size, 0, none⟩ = some (.int .u8 57) := cell_bl hb1 (by simp)
        have z1 : w1.cell? ⟨wr.heap.size, 1, none⟩ = some (.int .i64 t.n) := cell_bl hb1 (by simp)
        have z2 : w1.cell? ⟨wr.heap.size, 2, none⟩ = some (.string t.s) := cell_bl hb1 (by simp)
        have z3 : w1.cell? ⟨wr.heap.size, 3, none⟩ = some (.slice A1 t.ks.length c1) := cell_bl hb1 (by simp)
        have zf : ∀ i, w1.frozen? ⟨wr.heap.size, i, none⟩ = false := fun i => by rw [hb1.frozen (p := ⟨wr.heap.size, i, none⟩) (by simp)]; simp
        have y3 : w1.cell? ⟨w.heap.size + 1 + 1, 3, none⟩ = some (.slice A' j c') := cell_bl hbw g3
        have hne : ¬ wr.heap.size = w.heap.size + 1 + 1 := by omega
        have hne' : ¬ w.heap.size + 1 + 1 = wr.heap.size := by omega
        have hW : Below wr.heap.size wr ((((w1.setCell ⟨wr.heap.size, 0, none⟩ (.int .u8 k1)).setCell ⟨wr.heap.size, 1, none⟩ (.int .i64 n1)).setCell ⟨wr.heap.size, 2, none⟩ (.string s1)).setCell ⟨wr.heap.size, 3, none⟩ (.slice A2 l2 c2)) := (((hbw.setCell (by simp) _).setCell (by simp) _).setCell (by simp) _).setCell (by simp) _
        have hsW := HS.out.later hW
        have hnW := HCOM.out ((((w1.setCell ⟨wr.heap.size, 0, none⟩ (.int .u8 k1)).setCell ⟨wr.heap.size, 1, none⟩ (.int .i64 n1)).setCell ⟨wr.heap.size, 2, none⟩ (.string s1)).setCell ⟨wr.heap.size, 3, none⟩ (.slice A2 l2 c2)) (simp t) (nv k1 n1 s1 A2 l2 c2) hW (by
          refine hn1.keep (fun b hb _ => by rcases hb with hb | hb; exact .inl hb; exact .inr (by simp at hb; omega)) fun b hb _ => ?_
          have hb' : b ≠ wr.heap.size := by rcases hb with hb | hb; omega; simp at hb; omega
          rw [Below.heap_setCell _ _ _ _ (by simpa using hb'), Below.heap_setCell _ _ _ _ (by simpa using hb'), Below.heap_setCell _ _ _ _ (by simpa using hb'), Below.heap_setCell _ _ _ _ (by simpa using hb')])
        clear hb1 hn1 hbw
        go_wp2_with (at_builtin; refine wpList_append_nodeH rfl (.tmp 26) (.tmp 28) 22 rfl 24 i0 _ Try.underlying22 hi0 hz0 hz1 hz2 rfl (w.heap.size + 3) (fun b => (S0 b ∧ b < w.heap.size) ∨ w.heap.size + 3 ≤ b) (.slice A' j c') _ rfl hsW.own (simp t) k1 n1 s1 A2 l2 c2 w1.heap.size (by simp [World.setCell]) rfl hnW hlen1 hsW.size ?_; intro v2 w2 hown2 hg2 hob2; obtain ⟨A3, c3, hv3, hc3, _, _⟩ := hown2.row; have hst := hsW.put hown2 hg2; have hbx := (hg2.block _ (blk_lt hsW.box) (own_ne hsW.own)).trans hsW.box; have hy0 : w2.cell? ⟨w.heap.size + 1 + 1, 3, none⟩ = some (.slice A' j c') := cell_of_blk hbx rfl; have hy1 : w2.frozen? ⟨w.heap.size + 1 + 1, 3, none⟩ = false := frozen_of_blk hbx; rw [hv3] at hst; have HST := Lib.hid hst; have HC3 := Lib.hid hc3; clear hst hc3; rw [hv3])
        go_roundw
        case rel =>
          have h1 := HST.out
          have h2 := HC3.out
          have e1 := HT1.out
          have e2 := HT.out
          rw [HSK.out] at e1 e2
          rw [e1] at h1 h2
          rw [e2] at h1
          exact ⟨j + 1, A3, c3, by omega, by go_num, h2, h1⟩
        case measure => simp [intOf]; omega
    · obtain rfl : j = ks.length := by omega
      rw [List.take_of_length_le (by omega)] at hs
      have g0 : wr.cell? ⟨w.heap.size + 1 + 1, 0, none⟩ = some (.int .u8 k) := cell_of_blk hs.box rfl
      have g1 : wr.cell? ⟨w.heap.size + 1 + 1, 1, none⟩ = some (.int .i64 n) := cell_of_blk hs.box rfl
      have g2 : wr.cell? ⟨w.heap.size + 1 + 1, 2, none⟩ = some (.string s) := cell_of_blk hs.box rfl
      have g3 : wr.cell? ⟨w.heap.size + 1 + 1, 3, none⟩ = some (.slice A' ks.length c') := cell_of_blk hs.box rfl
      have a3 : wr.cell? ⟨w.heap.size, 3, none⟩ = some (.slice A ks.length c) := cell_of_blk hs.arg rfl
      have r0 : wr.cell? ⟨w.heap.size + 1, 0, none⟩ = some (.int .u8 0) := cell_of_blk hs.res rfl
      have r1 : wr.cell? ⟨w.heap.size + 1, 1, none⟩ = some (.int .i64 0) := cell_of_blk hs.res rfl
      have r2 : wr.cell? ⟨w.heap.size + 1, 2, none⟩ = some (.string ⟨#[]⟩) := cell_of_blk hs.res rfl
      have r3 : wr.cell? ⟨w.heap.size + 1, 3, none⟩ = some (.slice none 0 0) := cell_of_blk hs.res rfl
      have rz : ∀ i, wr.frozen? ⟨w.heap.size + 1, i, none⟩ = false := fun i => frozen_of_blk hs.res
      have hr := hs.result HF.out rfl
      go_wp2_with fail
      refine bodyPost_ret (v := nv k n s A' ks.length c') (by simp [results, Try.results42, go_sem, r0, r1, r2, r3]) rfl ⟨k, n, s, A', ks.length, c', rfl, ?_, hr.2⟩
      rw [stm_nd]
      refine hr.1.mono fun b hb => ?_
      rcases hb with (hb | hb) | hb
      · exact .inl hb.1
      · exact .inr (by omega)
      · exact .inr (by omega)

end Go.Proofs.Ytldcjboignbfpaa
