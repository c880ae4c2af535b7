/-
  Contracts of inverter.exchanged and inverter.invert.
-/
import Derived.Test.YtldcjboignbfpaaInvW
import Derived.Deep.RegionHeld3
import Derived.Deep.DeepCutAuto
namespace Go.Proofs.Ytldcjboignbfpaa
open Go.RowKit

set_option maxHeartbeats 400000 in
theorem exchanged_any (k : Int) (w : World) : Calls Try.prog 60 #[.int .u8 k] w fun e w' => e = .returned (.int .u8 (exch k)) ∧ w = w' := by
  go_enter Try.func60, Try.ntmps60
  go_wp2
  all_goals (go_ret; exact ⟨by simp_all [exch], rfl⟩)

theorem build4 (k n : Int) (s : ByteArray) (A : Option Addr) (l c : Nat) (w : World) : (Instr.build 24 #[(0, .int .u8 k), (1, .int .i64 n), (2, .string s), (3, .slice A l c)]).run Try.prog w = .ok (nv k n s A l c) w := by kernel_rfl

set_option maxHeartbeats 4000000 in
set_option maxRecDepth 100000 in
theorem invert_any (keep : Bool) (t : T) : ∀ (v : Value) (w : World), NV w Any t v → okT t → Calls Try.prog 40 #[v, .bool keep] w (NewNode w (inv keep t)) := by
  obtain ⟨i0, hi0, hz0, hz1, hz2⟩ := info_parts nodeInfo
  induction t using T.ind with
  | _ k n s ks ih =>
  intro v w hv hok
  obtain ⟨A, c, rfl, hf, hlk, hlc, hrow⟩ := hv.open_
  simp only [T.k_nd, T.n_nd, T.s_nd, T.ks_nd] at *
  have hlk' := LK_int hlk
  have hmk := fun W => run_make_rowN (P := Try.prog) 22 24 i0 _ Try.underlying22 hi0 hz0 .i64 .i64 ks.length ks.length (Nat.le_refl _) (by rw [hz2]; omega) (by omega) W
  rw [hz1] at hmk
  have hb4 := build4
  have IH := Lib.hid ih
  have HOK := Lib.hid hok
  clear hv ih hok
  go_enter Try.func40, Try.ntmps40
  go_upto_region 1 with fail
  go_cut [5] (fun s5 wx => ∃ gm gr : Nat, s5 = .pointer (some ⟨gm, 0, none⟩) ∧ InvSt w wx 24 k n s A ks.length c k gm gr (List.replicate ks.length zeroT))
  case first =>
    go_region
    · go_wp2_with fail
      go_meet
      exact ⟨_, _, rfl, InvSt.start1 w _ k n s A _ c hlk⟩
    · go_wp2_with fail
      go_meet
      exact ⟨_, _, rfl, InvSt.start2 w _ k n s A _ c hlk⟩
  case rest =>
    obtain ⟨gm, gr, rfl, hst⟩ := hcut
    have ha3 : wc.cell? ⟨w.heap.size, 3, none⟩ = some (.slice A ks.length c) := cell_of_blk hst.arg rfl
    clear hmk hb4
    go_wp2_with fail
    go_loopw [23] (fun i wr => ∃ j : Nat, j ≤ ks.length ∧ i = .int .i64 j ∧ InvSt w wr 24 k n s A ks.length c k gm gr (fillTo (invK keep (k == 57)) ks j)) (fun i _ => ks.length - (intOf i).toNat)
    case atStart => exact ⟨0, Nat.zero_le _, rfl, by rw [fillTo_zero]; exact hst⟩
    case round =>
      obtain ⟨j, hj, rfl, hs⟩ := hrel
      clear hst ha3
      by_cases hlt : j < ks.length
      · obtain ⟨a, t, A1, c1, rfl, _, Ht, ⟨q0, q1, q2, q3⟩, hn⟩ := (hrow.later hs.below).nd hlt
        have hokt : k = 57 ∨ t.k = 57 → okT t := fun h => by
          have := okT_kid k n s ks HOK.out ks[j] (List.getElem_mem hlt)
          rw [Ht.out] at this
          exact this h
        have HKT := Lib.hid hokt
        have ih1 := IH.out ks[j] (List.getElem_mem hlt)
        rw [Ht.out] at ih1
        have IH1 := Lib.hid ih1
        have a0 : wr.cell? ⟨w.heap.size, 0, none⟩ = some (.int .u8 k) := cell_of_blk hs.arg rfl
        have g3 : wr.cell? ⟨gm, 3, none⟩ = some (.slice (some ⟨gr, 0, none⟩) ks.length ks.length) := cell_of_blk hs.box rfl
        have a0' := cell_al a0
        have hgm := blk_lt hs.box
        have hgr := hs.grlo
        have hlo := hs.lo
        have hne1 : gm ≠ gr := hs.ne
        have hne2 : wr.heap.size ≠ gr := by omega
        have hne3 : wr.heap.size ≠ gm := by omega
        have hjL : j < (fillTo (invK keep (k == 57)) ks j).length := by rw [fillTo_len _ _ _ hj]; exact hlt
        have i1 : (0 : Int) ≤ (j : Int) := by omega
        have i2 : (j : Int) < (ks.length : Int) := by omega
        have hsz := hs.size
        clear ih1 hokt hrow
        by_cases hB : k = 57 ∨ t.k = 57
        · have HK := Lib.hid (show invK keep (k == 57) t = inv keep t by unfold invK; rw [if_pos]; rcases hB with h | h <;> simp [h])
          have HB := Lib.hid hB
          rcases Bool.eq_false_or_eq_true (k == 57) with hk1 | hk1
          all_goals
            have hk2 : ((k == 57) || (t.k == 57)) = true := by rcases hB with h | h <;> simp [h]
            simp only [hk1, Bool.true_or, Bool.false_or] at hk2
            clear hB
            have HS : ∀ w', Below (wr.heap.size + 1) (wr.alloc (.cells #[.int .u8 t.k, .int .i64 t.n, .string t.s, .slice A1 t.ks.length c1] 24)) w' → (w'.cell? ⟨gm, 3, none⟩ = some (.slice (some ⟨gr, 0, none⟩) ks.length ks.length) ∧ w'.cell? ⟨wr.heap.size, 0, none⟩ = some (.int .u8 t.k) ∧ w'.cell? ⟨wr.heap.size, 1, none⟩ = some (.int .i64 t.n) ∧ w'.cell? ⟨wr.heap.size, 2, none⟩ = some (.string t.s) ∧ w'.cell? ⟨wr.heap.size, 3, none⟩ = some (.slice A1 t.ks.length c1)) := by
              intro w' h
              refine ⟨(h.cell (p := ⟨gm, 3, none⟩) (by simp; omega)).trans (cell_al g3 _), ?_, ?_, ?_, ?_⟩
              · exact (h.cell (p := ⟨wr.heap.size, 0, none⟩) (by simp)).trans (by simp)
              · exact (h.cell (p := ⟨wr.heap.size, 1, none⟩) (by simp)).trans (by simp)
              · exact (h.cell (p := ⟨wr.heap.size, 2, none⟩) (by simp)).trans (by simp)
              · exact (h.cell (p := ⟨wr.heap.size, 3, none⟩) (by simp)).trans (by simp)
            have HS1 := Lib.hid HS
            clear HS
            go_wp2_with fail
            go_region_held3 (fun w' => (w'.cell? ⟨gm, 3, none⟩ = some (.slice (some ⟨gr, 0, none⟩) ks.length ks.length) ∧ w'.cell? ⟨wr.heap.size, 0, none⟩ = some (.int .u8 t.k) ∧ w'.cell? ⟨wr.heap.size, 1, none⟩ = some (.int .i64 t.n) ∧ w'.cell? ⟨wr.heap.size, 2, none⟩ = some (.string t.s) ∧ w'.cell? ⟨wr.heap.size, 3, none⟩ = some (.slice A1 t.ks.length c1)))
              (first | exact HS1.out _ (Below.refl _ _).drew | exact HS1.out _ ((Below.refl _ _).drew.trans (hb1.mono (by simp))) | (have hx := HS1.out _ ((Below.refl _ _).drew.trans (hb1.mono (by simp))); exact ⟨cell_st4 hne1 hx.1, cell_st4 hne2 hx.2.1, cell_st4 hne2 hx.2.2.1, cell_st4 hne2 hx.2.2.2.1, cell_st4 hne2 hx.2.2.2.2⟩))
              (first | (go_at_call 40; refine (IH1.out _ _ (hn.later ((Below.refl _ _).alloc (Nat.le_refl _) _).drew) (HKT.out HB.out)).mono ?_; rintro e w1 ⟨k1, n1, s1, A2, l1, c2, rfl, hn1, hb1⟩; have hs1 := hs.later (((Below.refl _ _).alloc (Nat.le_refl _) _).drew.trans (hb1.mono (by simp))); obtain ⟨t0, A0, c0, _, z0, z1, z2, z3, _⟩ := hs1.own.nd hjL; have fz := hs1.own.frozen))
            rename_i hheld
            clear hheld
            go_wp2_with fail
            go_roundw
            case rel =>
              refine ⟨j + 1, by omega, by go_num, ?_⟩
              rw [← fillTo_set _ _ _ hlt, Ht.out, HK.out]
              refine hs1.store hjL (hn1.mono fun b hb => ?_)
              have hb' : wr.heap.size + 1 ≤ b := by simpa using hb
              exact ⟨⟨by omega, by omega⟩, fun e => by injection e with e; omega⟩
            case measure => simp [intOf]; omega
        · have hk1 : (k == 57) = false := by simp; omega
          have hk2 : (t.k == 57) = false := by simp; omega
          have HK := Lib.hid (show invK keep (k == 57) t = t by unfold invK; rw [if_neg]; simp [hk1, hk2])
          clear hB
          have HS : ∀ w', Below (wr.heap.size + 1) (wr.alloc (.cells #[.int .u8 t.k, .int .i64 t.n, .string t.s, .slice A1 t.ks.length c1] 24)) w' → (w'.cell? ⟨gm, 3, none⟩ = some (.slice (some ⟨gr, 0, none⟩) ks.length ks.length) ∧ w'.cell? ⟨wr.heap.size, 0, none⟩ = some (.int .u8 t.k) ∧ w'.cell? ⟨wr.heap.size, 1, none⟩ = some (.int .i64 t.n) ∧ w'.cell? ⟨wr.heap.size, 2, none⟩ = some (.string t.s) ∧ w'.cell? ⟨wr.heap.size, 3, none⟩ = some (.slice A1 t.ks.length c1)) := by
            intro w' h
            refine ⟨(h.cell (p := ⟨gm, 3, none⟩) (by simp; omega)).trans (cell_al g3 _), ?_, ?_, ?_, ?_⟩
            · exact (h.cell (p := ⟨wr.heap.size, 0, none⟩) (by simp)).trans (by simp)
            · exact (h.cell (p := ⟨wr.heap.size, 1, none⟩) (by simp)).trans (by simp)
            · exact (h.cell (p := ⟨wr.heap.size, 2, none⟩) (by simp)).trans (by simp)
            · exact (h.cell (p := ⟨wr.heap.size, 3, none⟩) (by simp)).trans (by simp)
          have HS1 := Lib.hid HS
          clear HS
          go_wp2_with fail
          go_region_held3 (fun w' => (w'.cell? ⟨gm, 3, none⟩ = some (.slice (some ⟨gr, 0, none⟩) ks.length ks.length) ∧ w'.cell? ⟨wr.heap.size, 0, none⟩ = some (.int .u8 t.k) ∧ w'.cell? ⟨wr.heap.size, 1, none⟩ = some (.int .i64 t.n) ∧ w'.cell? ⟨wr.heap.size, 2, none⟩ = some (.string t.s) ∧ w'.cell? ⟨wr.heap.size, 3, none⟩ = some (.slice A1 t.ks.length c1)))
            (first | exact HS1.out _ (Below.refl _ _).drew | exact HS1.out _ ((Below.refl _ _).drew.trans (hb1.mono (by simp))) | (have hx := HS1.out _ ((Below.refl _ _).drew.trans (hb1.mono (by simp))); exact ⟨cell_st4 hne1 hx.1, cell_st4 hne2 hx.2.1, cell_st4 hne2 hx.2.2.1, cell_st4 hne2 hx.2.2.2.1, cell_st4 hne2 hx.2.2.2.2⟩))
            (first | (go_at_call 21; refine (Clone_any t _ _ (hn.later ((Below.refl _ _).alloc (Nat.le_refl _) _).drew)).mono ?_; rintro e w1 ⟨k1, n1, s1, A2, l1, c2, rfl, hn1, hb1⟩; have hs1 := hs.later (((Below.refl _ _).alloc (Nat.le_refl _) _).drew.trans (hb1.mono (by simp))); obtain ⟨t0, A0, c0, _, z0, z1, z2, z3, _⟩ := hs1.own.nd hjL; have fz := hs1.own.frozen))
          rename_i hheld
          clear hheld
          go_wp2_with fail
          go_roundw
          case rel =>
            refine ⟨j + 1, by omega, by go_num, ?_⟩
            rw [← fillTo_set _ _ _ hlt, Ht.out, HK.out]
            refine hs1.store hjL (hn1.mono fun b hb => ?_)
            have hb' : wr.heap.size + 1 ≤ b := by simpa using hb
            exact ⟨⟨by omega, by omega⟩, fun e => by injection e with e; omega⟩
          case measure => simp [intOf]; omega
      · obtain rfl : j = ks.length := by omega
        rw [fillTo_all] at hs
        have a0 : wr.cell? ⟨w.heap.size, 0, none⟩ = some (.int .u8 k) := cell_of_blk hs.arg rfl
        have g0 : wr.cell? ⟨gm, 0, none⟩ = some (.int .u8 k) := cell_of_blk hs.box rfl
        have g1 : wr.cell? ⟨gm, 1, none⟩ = some (.int .i64 n) := cell_of_blk hs.box rfl
        have g2 : wr.cell? ⟨gm, 2, none⟩ = some (.string s) := cell_of_blk hs.box rfl
        have g3 : wr.cell? ⟨gm, 3, none⟩ = some (.slice (some ⟨gr, 0, none⟩) ks.length ks.length) := cell_of_blk hs.box rfl
        have gz : ∀ i, wr.frozen? ⟨gm, i, none⟩ = false := fun i => frozen_of_blk hs.box
        have r0 : wr.cell? ⟨w.heap.size + 1, 0, none⟩ = some (.int .u8 0) := cell_of_blk hs.res rfl
        have r1 : wr.cell? ⟨w.heap.size + 1, 1, none⟩ = some (.int .i64 0) := cell_of_blk hs.res rfl
        have r2 : wr.cell? ⟨w.heap.size + 1, 2, none⟩ = some (.string ⟨#[]⟩) := cell_of_blk hs.res rfl
        have r3 : wr.cell? ⟨w.heap.size + 1, 3, none⟩ = some (.slice none 0 0) := cell_of_blk hs.res rfl
        have rz : ∀ i, wr.frozen? ⟨w.heap.size + 1, i, none⟩ = false := fun i => frozen_of_blk hs.res
        have hgr := hs.grlo
        have hlo := hs.lo
        have hne1 : ¬ gm = gr := hs.ne
        have hne4 : ¬ gm = w.heap.size + 1 := by omega
        have hne5 : ¬ w.heap.size + 1 = gm := by omega
        have hne6 : ¬ gr = w.heap.size + 1 := by omega
        have hne7 : ¬ w.heap.size + 1 = gr := by omega
        have hne8 : ¬ w.heap.size = gm := by omega
        have hne9 : ¬ gm = w.heap.size := by omega
        clear hrow
        by_cases k57 : k = 57
        · subst k57
          have HX := Lib.hid (show inv keep (.nd 57 n s ks) = .nd 57 n s (ks.map (invK keep ((57 : Int) == 57))).reverse by
            rw [inv, if_pos rfl, invs_map]; rfl)
          go_wp2_with fail
          refine (Reverse_any _ _ _ gr _ _ _ hs.own).mono ?_
          rintro e w1 ⟨rfl, ho1, hg1⟩
          have hs1 := hs.rowed ho1 hg1
          have g0 : w1.cell? ⟨gm, 0, none⟩ = some (.int .u8 57) := cell_of_blk hs1.box rfl
          have g1 : w1.cell? ⟨gm, 1, none⟩ = some (.int .i64 n) := cell_of_blk hs1.box rfl
          have g2 : w1.cell? ⟨gm, 2, none⟩ = some (.string s) := cell_of_blk hs1.box rfl
          have g3 : w1.cell? ⟨gm, 3, none⟩ = some (.slice (some ⟨gr, 0, none⟩) ks.length ks.length) := cell_of_blk hs1.box rfl
          have r0 : w1.cell? ⟨w.heap.size + 1, 0, none⟩ = some (.int .u8 0) := cell_of_blk hs1.res rfl
          have r1 : w1.cell? ⟨w.heap.size + 1, 1, none⟩ = some (.int .i64 0) := cell_of_blk hs1.res rfl
          have r2 : w1.cell? ⟨w.heap.size + 1, 2, none⟩ = some (.string ⟨#[]⟩) := cell_of_blk hs1.res rfl
          have r3 : w1.cell? ⟨w.heap.size + 1, 3, none⟩ = some (.slice none 0 0) := cell_of_blk hs1.res rfl
          have rz : ∀ i, w1.frozen? ⟨w.heap.size + 1, i, none⟩ = false := fun i => frozen_of_blk hs1.res
          have hr := hs1.result hf
          go_wp2_with fail
          refine bodyPost_ret (v := nv 57 n s (some ⟨gr, 0, none⟩) ks.length ks.length) (by simp [results, Try.results40, go_sem, r0, r1, r2, r3]) rfl ⟨57, n, s, some ⟨gr, 0, none⟩, ks.length, ks.length, rfl, ?_, hr.2⟩
          rw [HX.out]
          exact hr.1
        by_cases k52 : k = 52 ∨ k = 53 ∨ k = 54
        · have hl2 := okT_len2 k n s ks HOK.out k52
          have hmL : ks.length - 1 < (ks.map (invK keep (k == 57))).length := by simp; omega
          have h0L : 0 < (ks.map (invK keep (k == 57))).length := by simp; omega
          obtain ⟨t1, A1, c1, H1, p0, p1, p2, p3, hn1⟩ := hs.own.nd hmL
          obtain ⟨t2, A2, c2, H2, q0, q1, q2, q3, hn2⟩ := hs.own.nd h0L
          simp only [Nat.zero_mul, Nat.zero_add] at q0 q1 q2 q3
          have fz := hs.own.frozen
          have HX := Lib.hid (show inv keep (.nd k n s ks) = .nd k n s (((ks.map (invK keep (k == 57))).set 0 t1).set (ks.length - 1) t2) by
            rw [inv_swap keep k n s ks k57 k52 h0L hmL, H1.out, H2.out])
          have hw1 := hs.store h0L hn1
          have hk : ∀ b, (w.heap.size + 2 ≤ b ∧ b ≠ gm) ∧ some b ≠ some gr → b < wr.heap.size → ((((wr.setCell ⟨gr, 0 * 4, none⟩ (.int .u8 t1.k)).setCell ⟨gr, 0 * 4 + 1, none⟩ (.int .i64 t1.n)).setCell ⟨gr, 0 * 4 + 2, none⟩ (.string t1.s)).setCell ⟨gr, 0 * 4 + 3, none⟩ (.slice A1 t1.ks.length c1)).heap[b]? = wr.heap[b]? := by
            intro b hb _
            have hne : b ≠ gr := fun e => hb.2 (by rw [e])
            rw [Below.heap_setCell _ _ _ _ hne, Below.heap_setCell _ _ _ _ hne, Below.heap_setCell _ _ _ _ hne, Below.heap_setCell _ _ _ _ hne]
          have hw2 := hw1.store (i := ks.length - 1) (by simpa using hmL) (hn2.keep (fun _ h _ => h) hk)
          have hr := hw2.result hf
          simp only [Nat.zero_mul, Nat.zero_add] at hr
          have HW := Lib.hid (And.intro (hr.1.later (Below.refl _ _).drew) hr.2.drew)
          have i1 : (0 : Int) ≤ (ks.length : Int) - 1 := by omega
          have i2 : (ks.length : Int) - 1 < (ks.length : Int) := by omega
          have i3 : (0 : Int) < (ks.length : Int) := by omega
          have i4 : 0 < ks.length := by omega
          have i5 : ¬ (ks.length - 1) * 4 = 0 := by omega
          clear hw1 hw2 hk hr
          rcases k52 with rfl | rfl | rfl
          · go_wp2_with fail
            go_region
            go_wp2_with fail
            refine bodyPost_ret (v := nv 52 n s (some ⟨gr, 0, none⟩) ks.length ks.length) (by simp [results, Try.results40, go_sem, r0, r1, r2, r3]) rfl ⟨52, n, s, some ⟨gr, 0, none⟩, ks.length, ks.length, rfl, ?_, HW.out.2⟩
            rw [HX.out]
            exact HW.out.1
          · go_wp2_with fail
            go_region
            go_wp2_with fail
            refine bodyPost_ret (v := nv 53 n s (some ⟨gr, 0, none⟩) ks.length ks.length) (by simp [results, Try.results40, go_sem, r0, r1, r2, r3]) rfl ⟨53, n, s, some ⟨gr, 0, none⟩, ks.length, ks.length, rfl, ?_, HW.out.2⟩
            rw [HX.out]
            exact HW.out.1
          · go_wp2_with fail
            go_region
            go_wp2_with fail
            refine bodyPost_ret (v := nv 54 n s (some ⟨gr, 0, none⟩) ks.length ks.length) (by simp [results, Try.results40, go_sem, r0, r1, r2, r3]) rfl ⟨54, n, s, some ⟨gr, 0, none⟩, ks.length, ks.length, rfl, ?_, HW.out.2⟩
            rw [HX.out]
            exact HW.out.1
        by_cases k50 : k = 50 ∨ k = 51
        · have HX := Lib.hid (show inv keep (.nd k n s ks) = .nd (if keep then k else exch k) n s (ks.map (invK keep (k == 57))) by
            rw [inv, if_neg k57, if_neg k52, if_pos k50, invs_map]
            have : (k == 57) = false := by simpa using k57
            rw [this])
          cases keep
          · rcases k50 with rfl | rfl
            · go_wp2_with fail
              refine (exchanged_any _ _).mono ?_
              rintro e w' ⟨rfl, rfl⟩
              have hs2 := hs.kind (exch 50)
              have hr := hs2.result ⟨exch_bd 50 hf.1, hf.2⟩
              go_wp2_with fail
              refine bodyPost_ret (v := nv (exch 50) n s (some ⟨gr, 0, none⟩) ks.length ks.length) (by simp [results, Try.results40, go_sem, r0, r1, r2, r3]) rfl ⟨exch 50, n, s, some ⟨gr, 0, none⟩, ks.length, ks.length, rfl, ?_, hr.2⟩
              rw [HX.out]
              exact hr.1
            · go_wp2_with fail
              refine (exchanged_any _ _).mono ?_
              rintro e w' ⟨rfl, rfl⟩
              have hs2 := hs.kind (exch 51)
              have hr := hs2.result ⟨exch_bd 51 hf.1, hf.2⟩
              go_wp2_with fail
              refine bodyPost_ret (v := nv (exch 51) n s (some ⟨gr, 0, none⟩) ks.length ks.length) (by simp [results, Try.results40, go_sem, r0, r1, r2, r3]) rfl ⟨exch 51, n, s, some ⟨gr, 0, none⟩, ks.length, ks.length, rfl, ?_, hr.2⟩
              rw [HX.out]
              exact hr.1
          · have hr := hs.result hf
            rcases k50 with rfl | rfl
            · go_wp2_with fail
              refine bodyPost_ret (v := nv 50 n s (some ⟨gr, 0, none⟩) ks.length ks.length) (by simp [results, Try.results40, go_sem, r0, r1, r2, r3]) rfl ⟨50, n, s, some ⟨gr, 0, none⟩, ks.length, ks.length, rfl, ?_, hr.2⟩
              rw [HX.out]
              exact hr.1
            · go_wp2_with fail
              refine bodyPost_ret (v := nv 51 n s (some ⟨gr, 0, none⟩) ks.length ks.length) (by simp [results, Try.results40, go_sem, r0, r1, r2, r3]) rfl ⟨51, n, s, some ⟨gr, 0, none⟩, ks.length, ks.length, rfl, ?_, hr.2⟩
              rw [HX.out]
              exact hr.1
        · have HX := Lib.hid (show inv keep (.nd k n s ks) = .nd (exch k) n s (ks.map (invK keep (k == 57))) by
            rw [inv, if_neg k57, if_neg k52, if_neg k50, invs_map]
            have : (k == 57) = false := by simpa using k57
            rw [this])
          have n57 : (k == 57) = false := by simp; omega
          have n52 : (k == 52) = false := by simp; omega
          have n53 : (k == 53) = false := by simp; omega
          have n54 : (k == 54) = false := by simp; omega
          have n50 : (k == 50) = false := by simp; omega
          have n51 : (k == 51) = false := by simp; omega
          clear k57 k52 k50
          go_wp2_with fail
          refine (exchanged_any _ _).mono ?_
          rintro e w' ⟨rfl, rfl⟩
          have hs2 := hs.kind (exch k)
          have hr := hs2.result ⟨exch_bd k hf.1, hf.2⟩
          go_wp2_with fail
          refine bodyPost_ret (v := nv (exch k) n s (some ⟨gr, 0, none⟩) ks.length ks.length) (by simp [results, Try.results40, go_sem, r0, r1, r2, r3]) rfl ⟨exch k, n, s, some ⟨gr, 0, none⟩, ks.length, ks.length, rfl, ?_, hr.2⟩
          rw [HX.out]
          exact hr.1
end Go.Proofs.Ytldcjboignbfpaa
