/-
  store: the contract of frame.fault.
-/
import Derived.Test.YtekjfbnggfbfhaaStk
import Derived.Test.YtekjfbnggfbfhaaScf
import Derived.Test.YtekjfbnggfbfhaaSr
import Derived.Deep.RegionHeld3
import Derived.Deep.DeepCutAuto
namespace Go.Proofs.Ytekjfbnggfbfhaa
open Go Go.RowKit

/-- The fault of a node itself. -/
def ownE (vs : List VD) (k : Int) (s : ByteArray) : Int := if needE k = 0 then 0 else match findV vs s with
  | none => 6
  | some v => if v.k = needE k then 0 else 7
mutual
/-- frame.fault: the first fault in pre-order. -/
def fltE (vs : List VD) : T → Int
  | .nd k _ s ks => if ownE vs k s ≠ 0 then ownE vs k s else fltEs vs ks
def fltEs (vs : List VD) : List T → Int
  | [] => 0
  | t :: ts => if fltE vs t ≠ 0 then fltE vs t else fltEs vs ts
end
theorem fltEs_take {vs : List VD} : ∀ {ks : List T} {j : Nat} (h : j < ks.length), fltEs vs (ks.take j) = 0 → fltEs vs (ks.take (j + 1)) = fltE vs ks[j]
  | t :: ts, 0, _, _ => by simp only [List.take, fltEs, List.getElem_cons_zero]; split <;> simp_all
  | t :: ts, j + 1, h, h0 => by
    simp only [List.take, fltEs, List.getElem_cons_succ] at h0 ⊢
    split at h0
    · contradiction
    · rename_i h1
      rw [if_neg h1]
      exact fltEs_take (by simpa using h) h0
theorem fltEs_stop {vs : List VD} : ∀ {ks : List T} {j : Nat} (h : j < ks.length), fltEs vs (ks.take j) = 0 → fltE vs ks[j] ≠ 0 → fltEs vs ks = fltE vs ks[j]
  | t :: ts, 0, _, _, h1 => by simp only [fltEs, List.getElem_cons_zero] at *; rw [if_pos h1]
  | t :: ts, j + 1, h, h0, h1 => by
    simp only [List.take, fltEs, List.getElem_cons_succ] at h0 h1 ⊢
    split at h0
    · contradiction
    · rename_i h2
      rw [if_neg h2]
      exact fltEs_stop (by simpa using h) h0 h1

set_option maxHeartbeats 8000000 in
set_option maxRecDepth 100000 in
theorem ffault_any (vs : List VD) (A : Option Addr) (c : Nat) (fp : Addr) (hl : vs.length ≤ 4398046511000) (t : T) : ∀ (v : Value) (w : World), NV w Any t v → w.cell? fp = some (.slice A vs.length c) → RowV w Any A vs →
    Calls Try.prog 37 #[.pointer (some fp), v] w fun e w' => e = .returned (.int .i64 (fltE vs t)) ∧ Below w.heap.size w w' := by
  induction t using T.ind with
  | _ k n s ks ih =>
    intro v w hv hc hrow
    obtain ⟨B, d, rfl, hf, hlk, hlc, hks⟩ := hv.open_
    simp only [T.k_nd, T.n_nd, T.s_nd, T.ks_nd] at *
    have hlk' := LK_int hlk
    have HIH := Lib.hid ih
    have HKS := Lib.hid hks
    have HC := Lib.hid hc
    have HROW := Lib.hid hrow
    obtain ⟨R, hR⟩ : ∃ R, fltE vs (.nd k n s ks) = R := ⟨_, rfl⟩
    rw [hR]
    rw [fltE] at hR
    have HR := Lib.hid hR
    obtain ⟨nk, hnk⟩ : ∃ nk, needE k = nk := ⟨_, rfl⟩
    have HNE := Lib.hid (hnk ▸ needs_any k)
    have HNK := Lib.hid hnk
    obtain ⟨VL, hVL⟩ : ∃ VL, vs.length = VL := ⟨_, rfl⟩
    have HFI := Lib.hid (show ∀ w', Below w.heap.size w w' → Calls Try.prog 57 #[.slice A VL c, .string s] w' fun e w'' => e = .returned (fdV (findV vs s)) ∧ Below w'.heap.size w' w'' from fun w' hb => hVL ▸ Find_any vs A c s Any w' (hrow.later hb) (by unfold LV; omega))
    rw [hVL] at HC
    have hc' := fun o => cell_al (o := o) HC.out
    have HVL := Lib.hid hVL
    clear ih hv hf hlk hlc hks hc hrow hR hnk hVL
    go_enter Try.func37, Try.ntmps37
    go_wp2_with fail
    refine (HNE.out _).mono ?_
    rintro e w1 ⟨rfl, rfl⟩
    have hbx := heap_alloc_new w (.cells #[.int .u8 k, .int .i64 n, .string s, .slice B ks.length d] 36)
    have q1 : Below w.heap.size w (w.alloc (.cells #[.int .u8 k, .int .i64 n, .string s, .slice B ks.length d] 36)) := bl_al (Below.refl _ _) _
    obtain ⟨W1, hW1⟩ : ∃ W1, w.alloc (.cells #[.int .u8 k, .int .i64 n, .string s, .slice B ks.length d] 36) = W1 := ⟨_, rfl⟩
    have hcW := hc' (.cells #[.int .u8 k, .int .i64 n, .string s, .slice B ks.length d] 36)
    rw [hW1] at hbx q1 hcW ⊢
    have HBX := Lib.hid hbx
    have HQ1 := Lib.hid q1
    have HCW := Lib.hid hcW
    obtain ⟨m0, m1, m2, m3⟩ := box4 hbx
    clear hbx q1 hW1 hc'
    by_cases hn0 : nk = 0
    · subst hn0
      have HRR := Lib.hid (show fltEs vs ks = R by rw [← HR.out, ownE, if_pos HNK.out]; simp)
      have HQW := HQ1
      have HXW := HBX
      obtain ⟨WX, hWX⟩ : ∃ WX, W1 = WX := ⟨_, rfl⟩
      rw [hWX] at m0 m1 m2 m3 HQW HXW hcW ⊢
      clear hWX HR HNK HNE HFI
      go_wp2_with fail
      go_loopw [10, 35] (fun _ i wr => ∃ j : Nat, j ≤ ks.length ∧ i = .int .i64 j ∧ Below w.heap.size w wr ∧ wr.heap[w.heap.size]? = some (.cells #[.int .u8 k, .int .i64 n, .string s, .slice B ks.length d] 36 (0, 0)) ∧ Hid (fltEs vs (ks.take j) = 0)) (fun _ i _ => ks.length - (intOf i).toNat)
      case atStart => exact ⟨0, Nat.zero_le _, rfl, HQW.out, HXW.out, Lib.hid (by simp [fltEs])⟩
      case round =>
        obtain ⟨j, hj, rfl, hbl, hbx, HJ⟩ := hrel
        have HBL := Lib.hid hbl
        have HXR := Lib.hid hbx
        by_cases hlt : j < ks.length
        · obtain ⟨a, t, A1, c1, rfl, _, Ht, ⟨y0, y1, y2, y3⟩, hn⟩ := (HKS.out.later hbl).nd hlt
          obtain ⟨re, hre⟩ : ∃ re, fltE vs t = re := ⟨_, rfl⟩
          have HCL := Lib.hid (show ∀ (v : Value) (w : World), NV w Any t v → w.cell? fp = some (.slice A VL c) → RowV w Any A vs → Calls Try.prog 37 #[.pointer (some fp), v] w fun e w' => e = .returned (.int .i64 re) ∧ Below w.heap.size w w' from by
            have h1 := HIH.out t (by rw [← Ht.out]; exact List.getElem_mem hlt)
            rw [hre, HVL.out] at h1
            exact h1)
          have HRE := Lib.hid hre
          have HN := Lib.hid hn
          have hal := bl_al hbl (.cells #[.int .u8 t.k, .int .i64 t.n, .string t.s, .slice A1 t.ks.length c1] 36)
          have HAR := Lib.hid (HCL.out _ _ (HN.out.later (bl_al (Below.refl _ _) (.cells #[.int .u8 t.k, .int .i64 t.n, .string t.s, .slice A1 t.ks.length c1] 36))) (cell_bl hal HC.out) (HROW.out.later hal))
          clear hn hbl hbx hre hal
          go_wp2_with fail
          refine HAR.out.mono ?_
          rintro e w5 ⟨rfl, bw5⟩
          have HB5 := Lib.hid (bl_tt (bl_al HBL.out _) bw5)
          have HX5 := Lib.hid (blk_bl (blk_al HXR.out _) bw5)
          clear bw5 y0 y1 y2 y3
          by_cases hr0 : re = 0
          · subst hr0
            have HJ2 : Hid (fltEs vs (ks.take (j + 1)) = 0) := Lib.hid (by rw [fltEs_take hlt HJ.out, Ht.out]; exact HRE.out)
            go_wp2_with fail
            go_roundw
            case rel => exact ⟨j + 1, by omega, by go_num, HB5.out, HX5.out, HJ2⟩
            case measure => simp [intOf]; omega
          · have e1 : (re == 0) = false := by simpa using hr0
            have e2 : (re != 0) = true := by simpa using hr0
            have HF := Lib.hid (show R = re by rw [← HRR.out, fltEs_stop hlt HJ.out (by rw [Ht.out, HRE.out]; exact hr0), Ht.out, HRE.out])
            clear hr0
            go_wp2_with fail
            go_ret
            exact ⟨by rw [HF.out]; rfl, HB5.out⟩
        · obtain rfl : j = ks.length := by omega
          have HF := Lib.hid (show R = 0 by
            have := HJ.out
            rw [List.take_of_length_le (Nat.le_refl _)] at this
            rw [← HRR.out]; exact this)
          clear hbl hbx
          go_wp2_with fail
          go_ret
          exact ⟨by rw [HF.out]; rfl, HBL.out⟩
    · have e1 : (nk == 0) = false := by simpa using hn0
      have e2 : (nk != 0) = true := by simpa using hn0
      obtain ⟨fd, hfd⟩ : ∃ fd, findV vs s = fd := ⟨_, rfl⟩
      rw [hfd] at HFI
      have HFD := Lib.hid hfd
      have HSS := Lib.hid (show ∀ w', Below W1.heap.size W1 w' → w'.cell? fp = some (.slice A VL c) ∧ w'.cell? ⟨w.heap.size, 2, none⟩ = some (.string s) from fun w' hb => ⟨cell_bl hb hcW, cell_bl hb m2⟩)
      have HK0 := Lib.hid (HSS.out _ (Below.refl _ _).drew)
      clear hcW m0 m1 m2 m3 hfd
      cases fd with
      | none =>
        go_upto_region 3 with fail
        go_region_held3 (fun w' : World => w'.cell? fp = some (.slice A VL c) ∧ w'.cell? ⟨w.heap.size, 2, none⟩ = some (.string s))
          (first | with_reducible exact HK1.out | with_reducible exact HK0.out | (exact HSS.out _ (bl_al (Below.refl _ _) _).drew) | (exact HSS.out _ (bl_al b1 _)) | (exact HSS.out _ (((b1.setCell (by simp) _).setCell (by simp) _).setCell (by simp) _)))
          (first
            | (go_at_call 57; refine (HFI.out _ (bl_tt HQ1.out (by first | exact (Below.refl _ _).drew | exact (bl_al (Below.refl _ _) _).drew))).mono ?_; rintro e y1 ⟨rfl, by1⟩; have b1 : Below W1.heap.size W1 y1 := bl_tt (by first | exact (Below.refl _ _).drew | exact (bl_al (Below.refl _ _) _).drew) by1; have HK1 := Lib.hid (HSS.out _ b1); (try (have hz := blk_bl (show (W1.alloc (.cells #[.string ⟨#[]⟩, .int .u8 0, .int .i64 0] 24)).drew.heap[W1.heap.size]? = some (.cells #[.string ⟨#[]⟩, .int .u8 0, .int .i64 0] 24 (0, 0)) from heap_alloc_new W1 _) by1; have hz0 : y1.cell? ⟨W1.heap.size, 0, none⟩ = some (.string ⟨#[]⟩) := cell_of_blk hz rfl; have hz1 : y1.cell? ⟨W1.heap.size, 1, none⟩ = some (.int .u8 0) := cell_of_blk hz rfl; have hz2 : y1.cell? ⟨W1.heap.size, 2, none⟩ = some (.int .i64 0) := cell_of_blk hz rfl; have hzf : ∀ i, y1.frozen? ⟨W1.heap.size, i, none⟩ = false := fun i => frozen_of_blk hz)))
            | fail)
        all_goals
          have HRR := Lib.hid (show R = 6 by
            have : ownE vs k s = 6 := by rw [ownE, if_neg (by rw [HNK.out]; exact hn0), HFD.out]
            rw [← HR.out, this]; rfl)
          have HB1 := Lib.hid (bl_tt HQ1.out b1)
          have HBF := Lib.hid (show Below W1.heap.size W1 _ from b1)
          (try clear hz hz0 hz1 hz2 hzf)
          clear b1 by1 HK1 HR hn0
          go_wp2_with fail
          go_ret
          first
            | exact ⟨by rw [HRR.out]; rfl, bl_al HB1.out _⟩
            | exact ⟨by rw [HRR.out]; rfl, bl_tt HQ1.out (((HBF.out.setCell (by simp) _).setCell (by simp) _).setCell (by simp) _)⟩
      | some vd =>
        obtain ⟨vm, vk, vl⟩ := vd
        go_upto_region 3 with fail
        go_region_held3 (fun w' : World => w'.cell? fp = some (.slice A VL c) ∧ w'.cell? ⟨w.heap.size, 2, none⟩ = some (.string s))
          (first | with_reducible exact HK1.out | with_reducible exact HK0.out | (exact HSS.out _ (bl_al (Below.refl _ _) _).drew) | (exact HSS.out _ (bl_al b1 _)) | (exact HSS.out _ (((b1.setCell (by simp) _).setCell (by simp) _).setCell (by simp) _)))
          (first
            | (go_at_call 57; refine (HFI.out _ (bl_tt HQ1.out (by first | exact (Below.refl _ _).drew | exact (bl_al (Below.refl _ _) _).drew))).mono ?_; rintro e y1 ⟨rfl, by1⟩; have b1 : Below W1.heap.size W1 y1 := bl_tt (by first | exact (Below.refl _ _).drew | exact (bl_al (Below.refl _ _) _).drew) by1; have HK1 := Lib.hid (HSS.out _ b1); (try (have hz := blk_bl (show (W1.alloc (.cells #[.string ⟨#[]⟩, .int .u8 0, .int .i64 0] 24)).drew.heap[W1.heap.size]? = some (.cells #[.string ⟨#[]⟩, .int .u8 0, .int .i64 0] 24 (0, 0)) from heap_alloc_new W1 _) by1; have hz0 : y1.cell? ⟨W1.heap.size, 0, none⟩ = some (.string ⟨#[]⟩) := cell_of_blk hz rfl; have hz1 : y1.cell? ⟨W1.heap.size, 1, none⟩ = some (.int .u8 0) := cell_of_blk hz rfl; have hz2 : y1.cell? ⟨W1.heap.size, 2, none⟩ = some (.int .i64 0) := cell_of_blk hz rfl; have hzf : ∀ i, y1.frozen? ⟨W1.heap.size, i, none⟩ = false := fun i => frozen_of_blk hz)))
            | fail)
        · obtain ⟨WX, hWX⟩ : ∃ WX, y1.alloc (.cells #[.string vm, .int .u8 vk, .int .i64 vl] 24) = WX := ⟨_, rfl⟩
          have hbX : Below W1.heap.size W1 WX := hWX ▸ bl_al b1 _
          have hvk : WX.cell? ⟨y1.heap.size, 1, none⟩ = some (.int .u8 vk) := by rw [← hWX]; simp
          rw [hWX]
          have HQW := Lib.hid (bl_tt HQ1.out hbX)
          have HXW := Lib.hid (blk_bl HBX.out hbX)
          obtain ⟨m0, m1, m2, m3⟩ := box4 HXW.out
          clear b1 by1 HK1 hbX hWX
          by_cases hk : vk = nk
          · have HRR := Lib.hid (show fltEs vs ks = R by
              have : ownE vs k s = 0 := by rw [ownE, if_neg (by rw [HNK.out]; exact hn0), HFD.out]; simp [HNK.out, hk]
              rw [← HR.out, this]; simp)
            have e1 : (vk == nk) = true := by simpa using hk
            have e2 : (vk != nk) = false := by simpa using hk
            clear hn0 hk
            go_wp2_with fail
            go_loopw [10, 35] (fun _ i wr => ∃ j : Nat, j ≤ ks.length ∧ i = .int .i64 j ∧ Below w.heap.size w wr ∧ wr.heap[w.heap.size]? = some (.cells #[.int .u8 k, .int .i64 n, .string s, .slice B ks.length d] 36 (0, 0)) ∧ Hid (fltEs vs (ks.take j) = 0)) (fun _ i _ => ks.length - (intOf i).toNat)
            case atStart => exact ⟨0, Nat.zero_le _, rfl, HQW.out, HXW.out, Lib.hid (by simp [fltEs])⟩
            case round =>
              obtain ⟨j, hj, rfl, hbl, hbx, HJ⟩ := hrel
              have HBL := Lib.hid hbl
              have HXR := Lib.hid hbx
              by_cases hlt : j < ks.length
              · obtain ⟨a, t, A1, c1, rfl, _, Ht, ⟨y0, y1, y2, y3⟩, hn⟩ := (HKS.out.later hbl).nd hlt
                obtain ⟨re, hre⟩ : ∃ re, fltE vs t = re := ⟨_, rfl⟩
                have HCL := Lib.hid (show ∀ (v : Value) (w : World), NV w Any t v → w.cell? fp = some (.slice A VL c) → RowV w Any A vs → Calls Try.prog 37 #[.pointer (some fp), v] w fun e w' => e = .returned (.int .i64 re) ∧ Below w.heap.size w w' from by
                  have h1 := HIH.out t (by rw [← Ht.out]; exact List.getElem_mem hlt)
                  rw [hre, HVL.out] at h1
                  exact h1)
                have HRE := Lib.hid hre
                have HN := Lib.hid hn
                have hal := bl_al hbl (.cells #[.int .u8 t.k, .int .i64 t.n, .string t.s, .slice A1 t.ks.length c1] 36)
                have HAR := Lib.hid (HCL.out _ _ (HN.out.later (bl_al (Below.refl _ _) (.cells #[.int .u8 t.k, .int .i64 t.n, .string t.s, .slice A1 t.ks.length c1] 36))) (cell_bl hal HC.out) (HROW.out.later hal))
                clear hn hbl hbx hre hal
                go_wp2_with fail
                refine HAR.out.mono ?_
                rintro e w5 ⟨rfl, bw5⟩
                have HB5 := Lib.hid (bl_tt (bl_al HBL.out _) bw5)
                have HX5 := Lib.hid (blk_bl (blk_al HXR.out _) bw5)
                clear bw5 y0 y1 y2 y3
                by_cases hr0 : re = 0
                · subst hr0
                  have HJ2 : Hid (fltEs vs (ks.take (j + 1)) = 0) := Lib.hid (by rw [fltEs_take hlt HJ.out, Ht.out]; exact HRE.out)
                  go_wp2_with fail
                  go_roundw
                  case rel => exact ⟨j + 1, by omega, by go_num, HB5.out, HX5.out, HJ2⟩
                  case measure => simp [intOf]; omega
                · have e1 : (re == 0) = false := by simpa using hr0
                  have e2 : (re != 0) = true := by simpa using hr0
                  have HF := Lib.hid (show R = re by rw [← HRR.out, fltEs_stop hlt HJ.out (by rw [Ht.out, HRE.out]; exact hr0), Ht.out, HRE.out])
                  clear hr0
                  go_wp2_with fail
                  go_ret
                  exact ⟨by rw [HF.out]; rfl, HB5.out⟩
              · obtain rfl : j = ks.length := by omega
                have HF := Lib.hid (show R = 0 by
                  have := HJ.out
                  rw [List.take_of_length_le (Nat.le_refl _)] at this
                  rw [← HRR.out]; exact this)
                clear hbl hbx
                go_wp2_with fail
                go_ret
                exact ⟨by rw [HF.out]; rfl, HBL.out⟩
          · have HRR := Lib.hid (show R = 7 by
              have : ownE vs k s = 7 := by rw [ownE, if_neg (by rw [HNK.out]; exact hn0), HFD.out]; simp [HNK.out, hk]
              rw [← HR.out, this]; rfl)
            have e1 : (vk == nk) = false := by simpa using hk
            have e2 : (vk != nk) = true := by simpa using hk
            clear hn0 hk
            go_wp2_with fail
            go_ret
            exact ⟨by rw [HRR.out]; rfl, HQW.out⟩
        · obtain ⟨WX, hWX⟩ : ∃ WX, ((y1.setCell ⟨W1.heap.size, 0, none⟩ (.string vm)).setCell ⟨W1.heap.size, 1, none⟩ (.int .u8 vk)).setCell ⟨W1.heap.size, 2, none⟩ (.int .i64 vl) = WX := ⟨_, rfl⟩
          have hbX : Below W1.heap.size W1 WX := hWX ▸ ((b1.setCell (by simp) _).setCell (by simp) _).setCell (by simp) _
          have hvk : WX.cell? ⟨W1.heap.size, 1, none⟩ = some (.int .u8 vk) := by rw [← hWX]; exact cell_of_blk (heap_setCell_same _ W1.heap.size 2 _ _ (.int .i64 vl) (heap_setCell_same _ W1.heap.size 1 _ _ (.int .u8 vk) (heap_setCell_same y1 W1.heap.size 0 _ _ (.string vm) hz))) (by simp)
          rw [hWX]
          have HQW := Lib.hid (bl_tt HQ1.out hbX)
          have HXW := Lib.hid (blk_bl HBX.out hbX)
          obtain ⟨m0, m1, m2, m3⟩ := box4 HXW.out
          clear hz hz0 hz1 hz2 hzf
          clear b1 by1 HK1 hbX hWX
          by_cases hk : vk = nk
          · have HRR := Lib.hid (show fltEs vs ks = R by
              have : ownE vs k s = 0 := by rw [ownE, if_neg (by rw [HNK.out]; exact hn0), HFD.out]; simp [HNK.out, hk]
              rw [← HR.out, this]; simp)
            have e1 : (vk == nk) = true := by simpa using hk
            have e2 : (vk != nk) = false := by simpa using hk
            clear hn0 hk
            go_wp2_with fail
            go_loopw [10, 35] (fun _ i wr => ∃ j : Nat, j ≤ ks.length ∧ i = .int .i64 j ∧ Below w.heap.size w wr ∧ wr.heap[w.heap.size]? = some (.cells #[.int .u8 k, .int .i64 n, .string s, .slice B ks.length d] 36 (0, 0)) ∧ Hid (fltEs vs (ks.take j) = 0)) (fun _ i _ => ks.length - (intOf i).toNat)
            case atStart => exact ⟨0, Nat.zero_le _, rfl, HQW.out, HXW.out, Lib.hid (by simp [fltEs])⟩
            case round =>
              obtain ⟨j, hj, rfl, hbl, hbx, HJ⟩ := hrel
              have HBL := Lib.hid hbl
              have HXR := Lib.hid hbx
              by_cases hlt : j < ks.length
              · obtain ⟨a, t, A1, c1, rfl, _, Ht, ⟨y0, y1, y2, y3⟩, hn⟩ := (HKS.out.later hbl).nd hlt
                obtain ⟨re, hre⟩ : ∃ re, fltE vs t = re := ⟨_, rfl⟩
                have HCL := Lib.hid (show ∀ (v : Value) (w : World), NV w Any t v → w.cell? fp = some (.slice A VL c) → RowV w Any A vs → Calls Try.prog 37 #[.pointer (some fp), v] w fun e w' => e = .returned (.int .i64 re) ∧ Below w.heap.size w w' from by
                  have h1 := HIH.out t (by rw [← Ht.out]; exact List.getElem_mem hlt)
                  rw [hre, HVL.out] at h1
                  exact h1)
                have HRE := Lib.hid hre
                have HN := Lib.hid hn
                have hal := bl_al hbl (.cells #[.int .u8 t.k, .int .i64 t.n, .string t.s, .slice A1 t.ks.length c1] 36)
                have HAR := Lib.hid (HCL.out _ _ (HN.out.later (bl_al (Below.refl _ _) (.cells #[.int .u8 t.k, .int .i64 t.n, .string t.s, .slice A1 t.ks.length c1] 36))) (cell_bl hal HC.out) (HROW.out.later hal))
                clear hn hbl hbx hre hal
                go_wp2_with fail
                refine HAR.out.mono ?_
                rintro e w5 ⟨rfl, bw5⟩
                have HB5 := Lib.hid (bl_tt (bl_al HBL.out _) bw5)
                have HX5 := Lib.hid (blk_bl (blk_al HXR.out _) bw5)
                clear bw5 y0 y1 y2 y3
                by_cases hr0 : re = 0
                · subst hr0
                  have HJ2 : Hid (fltEs vs (ks.take (j + 1)) = 0) := Lib.hid (by rw [fltEs_take hlt HJ.out, Ht.out]; exact HRE.out)
                  go_wp2_with fail
                  go_roundw
                  case rel => exact ⟨j + 1, by omega, by go_num, HB5.out, HX5.out, HJ2⟩
                  case measure => simp [intOf]; omega
                · have e1 : (re == 0) = false := by simpa using hr0
                  have e2 : (re != 0) = true := by simpa using hr0
                  have HF := Lib.hid (show R = re by rw [← HRR.out, fltEs_stop hlt HJ.out (by rw [Ht.out, HRE.out]; exact hr0), Ht.out, HRE.out])
                  clear hr0
                  go_wp2_with fail
                  go_ret
                  exact ⟨by rw [HF.out]; rfl, HB5.out⟩
              · obtain rfl : j = ks.length := by omega
                have HF := Lib.hid (show R = 0 by
                  have := HJ.out
                  rw [List.take_of_length_le (Nat.le_refl _)] at this
                  rw [← HRR.out]; exact this)
                clear hbl hbx
                go_wp2_with fail
                go_ret
                exact ⟨by rw [HF.out]; rfl, HBL.out⟩
          · have HRR := Lib.hid (show R = 7 by
              have : ownE vs k s = 7 := by rw [ownE, if_neg (by rw [HNK.out]; exact hn0), HFD.out]; simp [HNK.out, hk]
              rw [← HR.out, this]; rfl)
            have e1 : (vk == nk) = false := by simpa using hk
            have e2 : (vk != nk) = true := by simpa using hk
            clear hn0 hk
            go_wp2_with fail
            go_ret
            exact ⟨by rw [HRR.out]; rfl, HQW.out⟩

end Go.Proofs.Ytekjfbnggfbfhaa
