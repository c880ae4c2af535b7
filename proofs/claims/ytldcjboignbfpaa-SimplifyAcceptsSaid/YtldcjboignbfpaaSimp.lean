/-
  Contracts of simplify.simplified and of the function that it hands on.
-/
import Derived.Test.YtldcjboignbfpaaSimpS
import Derived.Test.YtldcjboignbfpaaEach
import Derived.Deep.RegionHeld3
import Derived.BigQuiet
namespace Go.Proofs.Ytldcjboignbfpaa
open Go.RowKit

set_option maxHeartbeats 1000000 in
theorem simplified1_any (t : T) (h57 : MapC 41 simp t) : MapC 62 skF t := by
  intro v w hv
  have HV := Lib.hid hv
  obtain ⟨A, c, rfl, hf, hlk, hlc, hrow⟩ := hv.open_
  have H57 := Lib.hid h57
  have HX := Lib.hid (show skF t = if t.k == 57 then simp t else t from rfl)
  clear hf hlk hrow hv hlc h57
  generalize t.k = k, t.n = n, t.s = s, t.ks.length = l at *
  have hb2 : ∀ o o', Below w.heap.size w ((w.alloc o).alloc o') := fun o o' => ((Below.refl _ _).alloc (Nat.le_refl _) _).alloc (by simp) _
  have HB2 := Lib.hid hb2
  clear hb2
  cases hk : (k == 57)
  all_goals
    have HX2 := HX.out
    rw [hk] at HX2
    simp only [if_true, Bool.false_eq_true, if_false] at HX2
    have HX3 := Lib.hid HX2
    clear HX2 HX
    go_enter Try.func62, Try.ntmps62
    go_wp2_with fail
    first
      | refine (Clone_any t _ _ (HV.out.later (HB2.out _ _))).mono ?_
      | refine (H57.out _ _ (HV.out.later (HB2.out _ _))).mono ?_
    rintro e w1 ⟨k1, n1, s1, A1, l1, c1, rfl, hn1, hb1⟩
    have hsz : w.heap.size + 2 ≤ w1.heap.size := by have := hb1.size; simpa using this
    have hbb : Below w.heap.size w w1 := (HB2.out _ _).trans (hb1.mono (by simp; omega))
    have r0 : w1.cell? ⟨w.heap.size + 1, 0, none⟩ = some (.int .u8 0) := cell_bl hb1 (by simp)
    have r1 : w1.cell? ⟨w.heap.size + 1, 1, none⟩ = some (.int .i64 0) := cell_bl hb1 (by simp)
    have r2 : w1.cell? ⟨w.heap.size + 1, 2, none⟩ = some (.string ⟨#[]⟩) := cell_bl hb1 (by simp)
    have r3 : w1.cell? ⟨w.heap.size + 1, 3, none⟩ = some (.slice none 0 0) := cell_bl hb1 (by simp)
    have rz : ∀ i, w1.frozen? ⟨w.heap.size + 1, i, none⟩ = false := fun i => by
      rw [hb1.frozen (p := ⟨w.heap.size + 1, i, none⟩) (by simp)]; simp
    go_wp2_with fail
    refine bodyPost_ret (v := nv k1 n1 s1 A1 l1 c1) (by simp [results, Try.results62, go_sem, r0, r1, r2, r3]) rfl ⟨k1, n1, s1, A1, l1, c1, rfl, ?_, ?_⟩
    · rw [HX3.out]
      refine hn1.keep (fun b hb _ => Nat.le_trans (by simp; omega) hb) fun b hb _ => ?_
      have hb' : w.heap.size + 2 ≤ b := by simpa using hb
      rw [Below.heap_setCell _ _ _ _ (by simp; omega), Below.heap_setCell _ _ _ _ (by simp; omega), Below.heap_setCell _ _ _ _ (by simp; omega), Below.heap_setCell _ _ _ _ (by simp; omega)]
    · exact (((hbb.setCell (by simp) _).setCell (by simp) _).setCell (by simp) _).setCell (by simp) _

theorem build57 (w : World) : (Instr.build 24 #[(0, .int .u8 57)]).run Try.prog w = .ok (nv 57 0 ⟨#[]⟩ none 0 0) w := by kernel_rfl

set_option maxHeartbeats 4000000 in
set_option maxRecDepth 100000 in
theorem simplified_of (k n : Int) (s : ByteArray) (ks : List T) (hF : ∀ kid ∈ ks, ∀ kk ∈ kid.ks, MapC 62 skF kk) : MapC 41 simp (.nd k n s ks) := by
  intro v w hv
  obtain ⟨i0, hi0, hz0, hz1, hz2⟩ := info_parts nodeInfo
  obtain ⟨A, c, rfl, hf, hlk, hlc, hrow⟩ := hv.open_
  simp only [T.k_nd, T.n_nd, T.s_nd, T.ks_nd] at *
  have hlk' := LK_int hlk
  have HF := Lib.hid hF
  clear hF hv hf
  have hbs := build1
  have hb57 := build57
  go_enter Try.func41, Try.ntmps41
  go_wp2_with fail
  go_loopw [12] (fun i wr => ∃ (j : Nat) (A' : Option Addr) (c' : Nat) (L : List T), j ≤ ks.length ∧ i = .int .i64 j ∧ L.length ≤ c' ∧ Hid (L = foldC (stms (ks.take j))) ∧ Bld w wr 24 k n s A ks.length c 57 0 ⟨#[]⟩ (From (w.heap.size + 3)) (.slice A' L.length c') L) (fun i _ => ks.length - (intOf i).toNat)
  case atStart => exact ⟨0, none, 0, [], Nat.zero_le _, rfl, Nat.zero_le _, by simp [stms, foldC, Hid], Bld.start w _ k n s A _ c 57 0 ⟨#[]⟩ _ (fun b hb => .inr hb)⟩
  case round =>
    obtain ⟨j, A', c', L, hj, rfl, hjc, HL, hs⟩ := hrel
    by_cases hlt : j < ks.length
    · obtain ⟨a, t, A1, c1, rfl, _, Ht, ⟨q0, q1, q2, q3⟩, hn⟩ := (hrow.later hs.below).nd hlt
      have hF1 := HF.out ks[j] (List.getElem_mem hlt)
      rw [Ht.out] at hF1
      have HF1 := Lib.hid hF1
      have hsz := hs.size
      have hLlen : L.length ≤ j := by rw [HL.out]; exact Nat.le_trans (foldC_len _) (by rw [stms_map]; simp; omega)
      have HN := Lib.hid (show stms (ks.take (j + 1)) = stms (ks.take j) ++ [stm t] by rw [stms_map, stms_map, List.take_succ_eq_append_getElem hlt, Ht.out]; simp)
      clear hF1 hrow
      go_wp2_with fail
      refine (each_any t _ _ (hn.later ((Below.refl _ _).alloc (Nat.le_refl _) _)) skF HF1.out).mono ?_
      rintro e w1 ⟨k1, n1, s1, A2, l1, c2, rfl, hn1, hb1⟩
      have HS : .nd t.k t.n t.s (t.ks.map skF) = stm t := by cases t; simp [stm, sks_map]
      rw [HS] at hn1
      have hb01 : Below wr.heap.size wr w1 := ((Below.refl _ _).alloc (Nat.le_refl _) _).trans (hb1.mono (by simp))
      have hs1 := hs.later hb01
      have hsz1 := hs1.size
      have g3 := cell_al (show w1.cell? ⟨w.heap.size + 1 + 1, 3, none⟩ = some (.slice A' L.length c') from cell_of_blk hs1.box rfl)
      clear HS
      rcases List.eq_nil_or_concat L with hnil | ⟨L0, x, hL⟩
      · subst hnil
        simp only [List.length_nil] at *
        go_wp2_with fail
        go_quiet (fail)
        have hbW := below_drewN ((Below.refl w1.heap.size w1).alloc (Nat.le_refl _) (.cells #[.int .u8 k1, .int .i64 n1, .string s1, .slice A2 l1 c2] 24)) nq
        have hsW := hs1.later hbW
        have hnW := fresh2 hs.own hsz hn1 hbW
        have hl1 : ([] : List T).length + 1 ≤ LK := by unfold LK; decide
        have HF2 := Lib.hid (show [stm t] = foldC (stms (ks.take (j + 1))) by rw [HN.out, foldC_snoc, ← HL.out, stepC_nil])
        clear hn1 hb1 hbW
        go_wp2_with (at_builtin; refine wpList_append_nodeH rfl (.tmp 39) (.tmp 41) 22 rfl 24 i0 _ Try.underlying22 hi0 hz0 hz1 hz2 rfl (w.heap.size + 3) (From (w.heap.size + 3)) (.slice A' 0 c') [] rfl hsW.own (stm t) k1 n1 s1 A2 l1 c2 (w1.heap.size + 1) (by simp) rfl hnW hl1 hsW.size ?_; intro v2 w2 hown2 hg2 hob2; obtain ⟨A3, c3, hv3, hc3, _, _⟩ := hown2.row; have hst := hsW.put hown2 hg2; have hbx := (hg2.block _ (blk_lt hsW.box) (own_ne hsW.own)).trans hsW.box; have hy0 : w2.cell? ⟨w.heap.size + 1 + 1, 3, none⟩ = some (.slice A' 0 c') := cell_of_blk hbx rfl; have hy1 : w2.frozen? ⟨w.heap.size + 1 + 1, 3, none⟩ = false := frozen_of_blk hbx; rw [hv3] at hst; have HST := Lib.hid hst; have HC3 := Lib.hid hc3; clear hst hc3; rw [hv3])
        go_roundw
        case rel => exact ⟨j + 1, A3, c3, [stm t], by omega, by go_num, HC3.out, HF2.out, HST.out⟩
        case measure => simp [intOf]; omega
      · rw [List.concat_eq_append] at hL
        subst hL
        simp only [List.length_append, List.length_cons, List.length_nil, Nat.zero_add] at hs hs1 g3 hjc hLlen
        obtain ⟨A4, c4, hv4, _, _, hA4⟩ := hs1.own.row
        injection hv4 with e1 e2 e3
        subst e1 e3
        have hA' : ∃ g, A' = some ⟨g, 0, none⟩ ∧ g < w1.heap.size := by
          rcases A' with _ | a'
          · exfalso
            obtain ⟨xs, ho, _, _⟩ := hs1.own
            rcases ho.2 with ⟨e, h0⟩ | ⟨g, _, _, e, _⟩
            · simp at h0
            · cases e
          · obtain ⟨g, rfl, _, hlt, _⟩ := hA4 a' rfl
            exact ⟨g, rfl, hlt⟩
        obtain ⟨g, rfl, hglt⟩ := hA'
        have hmL : L0.length < (L0 ++ [x]).length := by simp
        obtain ⟨t0, A0, c0, H0, z0, z1, z2, z3, hn0⟩ := hs1.own.nd hmL
        have ex : x = t0 := by have := H0.out; simpa using this
        subst ex
        have i1 : (0 : Int) ≤ (L0.length : Int) := by omega
        have i2 : (L0.length : Int) < (L0.length : Int) + 1 := by omega
        have i3 : L0.length + 1 ≤ 2513169434916 := by omega
        clear hA4 e2 H0
        have HS : ∀ w', Below (w1.heap.size + 1) (w1.alloc (.cells #[.int .u8 k1, .int .i64 n1, .string s1, .slice A2 l1 c2] 24)) w' → (w'.cell? ⟨w.heap.size + 1 + 1, 3, none⟩ = some (.slice (some ⟨g, 0, none⟩) (L0.length + 1) c') ∧ (w'.cell? ⟨g, L0.length * 4, none⟩ = some (.int .u8 x.k) ∧ w'.cell? ⟨g, L0.length * 4 + 1, none⟩ = some (.int .i64 x.n) ∧ w'.cell? ⟨g, L0.length * 4 + 2, none⟩ = some (.string x.s) ∧ w'.cell? ⟨g, L0.length * 4 + 3, none⟩ = some (.slice A0 x.ks.length c0)) ∧
          (w'.cell? ⟨w1.heap.size, 0, none⟩ = some (.int .u8 k1) ∧ w'.cell? ⟨w1.heap.size, 1, none⟩ = some (.int .i64 n1) ∧ w'.cell? ⟨w1.heap.size, 2, none⟩ = some (.string s1) ∧ w'.cell? ⟨w1.heap.size, 3, none⟩ = some (.slice A2 l1 c2))) := by
          intro w' h
          have hh : Below (w1.alloc (.cells #[.int .u8 k1, .int .i64 n1, .string s1, .slice A2 l1 c2] 24)).heap.size (w1.alloc (.cells #[.int .u8 k1, .int .i64 n1, .string s1, .slice A2 l1 c2] 24)) w' := h.mono (by simp)
          refine ⟨cell_bl hh (g3 _), ⟨cell_bl hh (cell_al z0 _), cell_bl hh (cell_al z1 _), cell_bl hh (cell_al z2 _), cell_bl hh (cell_al z3 _)⟩, cell_bl hh (by simp), cell_bl hh (by simp), cell_bl hh (by simp), cell_bl hh (by simp)⟩
        have HS1 := Lib.hid HS
        clear HS
        go_wp2_with fail
        go_region_held3 (fun w' => (w'.cell? ⟨w.heap.size + 1 + 1, 3, none⟩ = some (.slice (some ⟨g, 0, none⟩) (L0.length + 1) c') ∧ (w'.cell? ⟨g, L0.length * 4, none⟩ = some (.int .u8 x.k) ∧ w'.cell? ⟨g, L0.length * 4 + 1, none⟩ = some (.int .i64 x.n) ∧ w'.cell? ⟨g, L0.length * 4 + 2, none⟩ = some (.string x.s) ∧ w'.cell? ⟨g, L0.length * 4 + 3, none⟩ = some (.slice A0 x.ks.length c0)) ∧
          (w'.cell? ⟨w1.heap.size, 0, none⟩ = some (.int .u8 k1) ∧ w'.cell? ⟨w1.heap.size, 1, none⟩ = some (.int .i64 n1) ∧ w'.cell? ⟨w1.heap.size, 2, none⟩ = some (.string s1) ∧ w'.cell? ⟨w1.heap.size, 3, none⟩ = some (.slice A2 l1 c2))))
          (first | exact HS1.out _ (Below.refl _ _).drew | exact HS1.out _ ((Below.refl _ _).drew.trans (hb2.mono (by simp))))
          (first | (go_at_call 14; refine (Cancels_any x (stm t) _ _ _ (hn0.any.later ((Below.refl _ _).alloc (Nat.le_refl _) _).drew) (hn1.any.later ((Below.refl _ _).alloc (Nat.le_refl _) _).drew)).mono ?_; rintro e w2 ⟨rfl, hb2⟩))
        rename_i hheld
        clear hheld
        have hbW : Below w1.heap.size w1 w2 := ((Below.refl _ _).alloc (Nat.le_refl _) _).drew.trans (hb2.mono (by simp))
        have hsW := hs1.later hbW
        have hnW := fresh2 hs.own hsz hn1 hbW
        have hx3 : w2.cell? ⟨w.heap.size + 1 + 1, 3, none⟩ = some (.slice (some ⟨g, 0, none⟩) (L0.length + 1) c') := cell_of_blk hsW.box rfl
        have hf3 : w2.frozen? ⟨w.heap.size + 1 + 1, 3, none⟩ = false := frozen_of_blk hsW.box
        have hxx := HS1.out _ ((Below.refl _ _).drew.trans (hb2.mono (by simp)))
        obtain ⟨_, _, y0, y1, y2, y3⟩ := hxx
        cases hcn : canc x (stm t)
        · have hl1 : (L0 ++ [x]).length + 1 ≤ LK := by simp; unfold LK; omega
          have HF2 := Lib.hid (show L0 ++ [x] ++ [stm t] = foldC (stms (ks.take (j + 1))) by rw [HN.out, foldC_snoc, ← HL.out, stepC_push hcn])
          clear hn1 hb1 hbW
          go_wp2_with (at_builtin; refine wpList_append_nodeH rfl (.tmp 39) (.tmp 41) 22 rfl 24 i0 _ Try.underlying22 hi0 hz0 hz1 hz2 rfl (w.heap.size + 3) (From (w.heap.size + 3)) (.slice (some ⟨g, 0, none⟩) (L0.length + 1) c') (L0 ++ [x]) rfl hsW.own (stm t) k1 n1 s1 A2 l1 c2 w2.heap.size rfl rfl hnW hl1 hsW.size ?_; intro v2 w4 hown2 hg2 hob2; obtain ⟨A3, c3, hv3, hc3, _, _⟩ := hown2.row; have hst := hsW.put hown2 hg2; have hbx := (hg2.block _ (blk_lt hsW.box) (own_ne hsW.own)).trans hsW.box; have hy0 : w4.cell? ⟨w.heap.size + 1 + 1, 3, none⟩ = some (.slice (some ⟨g, 0, none⟩) (L0.length + 1) c') := cell_of_blk hbx rfl; have hy1 : w4.frozen? ⟨w.heap.size + 1 + 1, 3, none⟩ = false := frozen_of_blk hbx; rw [hv3] at hst; have HST := Lib.hid hst; have HC3 := Lib.hid hc3; clear hst hc3; rw [hv3])
          go_roundw
          case rel =>
            have e : (L0 ++ [x] ++ [stm t]).length = L0.length + 2 := by simp
            have h := HST.out
            rw [e] at h
            exact ⟨j + 1, A3, c3, L0 ++ [x] ++ [stm t], by omega, by go_num, HC3.out, HF2.out, by rw [e]; exact h⟩
          case measure => simp [intOf]; omega
        · have HF2 := Lib.hid (show L0 = foldC (stms (ks.take (j + 1))) by rw [HN.out, foldC_snoc, ← HL.out, stepC_pop hcn])
          have hst := hsW.put hsW.own.pop (only_refl _ _)
          have HST := Lib.hid hst
          have i5 : L0.length ≤ c' := by omega
          clear hst
          go_wp2_with fail
          go_roundw
          case rel => exact ⟨j + 1, some ⟨g, 0, none⟩, c', L0, by omega, by go_num, i5, HF2.out, HST.out⟩
          case measure => simp [intOf]; omega
    · obtain rfl : j = ks.length := by omega
      have g0 : wr.cell? ⟨w.heap.size + 1 + 1, 0, none⟩ = some (.int .u8 57) := cell_of_blk hs.box rfl
      have g1 : wr.cell? ⟨w.heap.size + 1 + 1, 1, none⟩ = some (.int .i64 0) := cell_of_blk hs.box rfl
      have g2 : wr.cell? ⟨w.heap.size + 1 + 1, 2, none⟩ = some (.string ⟨#[]⟩) := cell_of_blk hs.box rfl
      have g3 : wr.cell? ⟨w.heap.size + 1 + 1, 3, none⟩ = some (.slice A' L.length c') := cell_of_blk hs.box rfl
      have r0 : wr.cell? ⟨w.heap.size + 1, 0, none⟩ = some (.int .u8 0) := cell_of_blk hs.res rfl
      have r1 : wr.cell? ⟨w.heap.size + 1, 1, none⟩ = some (.int .i64 0) := cell_of_blk hs.res rfl
      have r2 : wr.cell? ⟨w.heap.size + 1, 2, none⟩ = some (.string ⟨#[]⟩) := cell_of_blk hs.res rfl
      have r3 : wr.cell? ⟨w.heap.size + 1, 3, none⟩ = some (.slice none 0 0) := cell_of_blk hs.res rfl
      have rz : ∀ i, wr.frozen? ⟨w.heap.size + 1, i, none⟩ = false := fun i => frozen_of_blk hs.res
      have hr := hs.result ⟨⟨by omega, by omega⟩, ⟨by omega, by omega⟩, by decide⟩ rfl
      have HX := Lib.hid (show simp (.nd k n s ks) = .nd 57 0 ⟨#[]⟩ L by rw [simp, HL.out, List.take_of_length_le (by omega)])
      clear hrow
      go_wp2_with fail
      refine bodyPost_ret (v := nv 57 0 ⟨#[]⟩ A' L.length c') (by simp [results, Try.results41, go_sem, r0, r1, r2, r3]) rfl ⟨57, 0, ⟨#[]⟩, A', L.length, c', rfl, ?_, hr.2⟩
      rw [HX.out]
      refine hr.1.mono ?_
      intro b hb
      rcases hb with hb | hb
      · exact Nat.le_trans (by omega) hb
      · exact Nat.le_trans (by omega) hb

theorem simplified_both (t : T) : MapC 41 simp t ∧ ∀ kid ∈ t.ks, MapC 41 simp kid := by
  induction t using T.ind with
  | _ k n s ks ih =>
  refine ⟨simplified_of k n s ks fun kid hk kk hkk => simplified1_any kk ((ih kid hk).2 kk hkk), fun kid hk => (ih kid hk).1⟩
theorem simplified_any (t : T) : MapC 41 simp t := (simplified_both t).1

/-- simplify.Block. -/
def blockF (t : T) : T := if isB t then simp t else t
set_option maxHeartbeats 1000000 in
theorem Block_any (t : T) : MapC 17 blockF t := by
  intro v w hv
  have HV := Lib.hid hv
  obtain ⟨A, c, rfl, hf, hlk, hlc, hrow⟩ := hv.open_
  have HX := Lib.hid (show blockF t = if isB t then simp t else t from rfl)
  clear hf hlk hrow hv hlc
  generalize t.k = k, t.n = n, t.s = s, t.ks.length = l at *
  have hb2 : ∀ o o', Below w.heap.size w ((w.alloc o).alloc o') := fun o o' => ((Below.refl _ _).alloc (Nat.le_refl _) _).alloc (by simp) _
  have HB2 := Lib.hid hb2
  clear hb2
  cases hk : isB t
  all_goals
    have HX2 := HX.out
    rw [hk] at HX2
    simp only [if_true, Bool.false_eq_true, if_false] at HX2
    have HX3 := Lib.hid HX2
    clear HX2 HX
    go_enter Try.func17, Try.ntmps17
    go_wp2_with fail
    refine (IsBlock_any t _ _ (HV.out.later (HB2.out _ _))).mono ?_
    rintro e w0 ⟨rfl, hb0⟩
    have hbb0 : Below w.heap.size w w0 := (HB2.out _ _).trans (hb0.mono (by simp; omega))
    have hsz0 : w.heap.size + 2 ≤ w0.heap.size := by have := hb0.size; simpa using this
    obtain ⟨hc0, hf0⟩ := bcell hb0
    go_wp2_with fail
    first
      | refine (Clone_any t _ _ (HV.out.later hbb0)).mono ?_
      | refine (simplified_any t _ _ (HV.out.later hbb0)).mono ?_
    rintro e w1 ⟨k1, n1, s1, A1, l1, c1, rfl, hn1, hb1⟩
    have hbb : Below w.heap.size w w1 := hbb0.trans (hb1.mono hbb0.size)
    have r0 : w1.cell? ⟨w.heap.size + 1, 0, none⟩ = some (.int .u8 0) := cell_bl hb1 (cell_bl hb0 (by simp))
    have r1 : w1.cell? ⟨w.heap.size + 1, 1, none⟩ = some (.int .i64 0) := cell_bl hb1 (cell_bl hb0 (by simp))
    have r2 : w1.cell? ⟨w.heap.size + 1, 2, none⟩ = some (.string ⟨#[]⟩) := cell_bl hb1 (cell_bl hb0 (by simp))
    have r3 : w1.cell? ⟨w.heap.size + 1, 3, none⟩ = some (.slice none 0 0) := cell_bl hb1 (cell_bl hb0 (by simp))
    have rz : ∀ i, w1.frozen? ⟨w.heap.size + 1, i, none⟩ = false := fun i => by
      rw [hb1.frozen (p := ⟨w.heap.size + 1, i, none⟩) (by simp; omega), hb0.frozen (p := ⟨w.heap.size + 1, i, none⟩) (by simp)]; simp
    clear hc0 hf0
    go_wp2_with fail
    refine bodyPost_ret (v := nv k1 n1 s1 A1 l1 c1) (by simp [results, Try.results17, go_sem, r0, r1, r2, r3]) rfl ⟨k1, n1, s1, A1, l1, c1, rfl, ?_, ?_⟩
    · rw [HX3.out]
      refine hn1.keep (fun b hb _ => Nat.le_trans hbb0.size hb) fun b hb _ => ?_
      have hb' : w0.heap.size ≤ b := hb
      rw [Below.heap_setCell _ _ _ _ (by simp; omega), Below.heap_setCell _ _ _ _ (by simp; omega), Below.heap_setCell _ _ _ _ (by simp; omega), Below.heap_setCell _ _ _ _ (by simp; omega)]
    · exact (((hbb.setCell (by simp) _).setCell (by simp) _).setCell (by simp) _).setCell (by simp) _

end Go.Proofs.Ytldcjboignbfpaa
