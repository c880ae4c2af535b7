/-
  state: the contract of Fits.
-/
import Derived.Test.YtekjfbnggfbfhaaSv
namespace Go.Proofs.Ytekjfbnggfbfhaa
open Go Go.RowKit

/-- One cell fits its declaration. -/
def fit1 (v : VD) (l : List Int) : Bool := if v.k = 3 then decide (l.length ≤ 1000) else decide ((l.length : Int) = fixE v)
/-- The cells fit the declarations, as far as both go. -/
def fitsL : List VD → List (List Int) → Bool
  | v :: vs, l :: ls => fit1 v l && fitsL vs ls
  | _, _ => true
/-- state.Fits. -/
def fitB (vs : List VD) (s : SS) : Bool := svB vs && decide (s.cells.length = vs.length) && decide (s.tin.length ≤ 4096) && decide (s.tout.length ≤ 4096) && fitsL vs s.cells
theorem fitsL_take : ∀ {vs : List VD} {ls : List (List Int)} {j : Nat} (h : j < vs.length) (h' : j < ls.length), fitsL (vs.take (j + 1)) (ls.take (j + 1)) = (fitsL (vs.take j) (ls.take j) && fit1 vs[j] ls[j])
  | v :: vs, l :: ls, 0, _, _ => by simp [fitsL]
  | v :: vs, l :: ls, j + 1, h, h' => by
    have := fitsL_take (vs := vs) (ls := ls) (j := j) (by simpa using h) (by simpa using h')
    simp only [List.take, fitsL, List.getElem_cons_succ] at this ⊢
    rw [this, Bool.and_assoc]
theorem fitsL_no : ∀ {vs : List VD} {ls : List (List Int)} {j : Nat} (h : j < vs.length) (h' : j < ls.length), fit1 vs[j] ls[j] = false → fitsL vs ls = false
  | v :: vs, l :: ls, 0, _, _, h => by simp only [fitsL, List.getElem_cons_zero] at *; simp [h]
  | v :: vs, l :: ls, j + 1, h, h', h0 => by
    have := fitsL_no (vs := vs) (ls := ls) (j := j) (by simpa using h) (by simpa using h') (by simpa using h0)
    simp [fitsL, this]

set_option maxHeartbeats 4000000 in
set_option maxRecDepth 100000 in
theorem Fits_any (vs : List VD) (s : SS) (A0 : Option Addr) (c0 : Nat) (v : Value) (w : World) (hrow : RowV w Any A0 vs) (hl : vs.length ≤ LV) (hv : SV w Any s v) : Calls Try.prog 30 #[.slice A0 vs.length c0, v] w fun e w' => e = .returned (.bool (fitB vs s)) ∧ Below w.heap.size w w' := by
  obtain ⟨A, c, B, d, D, e, rfl, hr1, hr2, hr3, hc1, hc2, hc3, hl1, hl2, hl3, hl4⟩ := hv
  have hl' := LV_int hl
  have hl1' := LI_int hl1
  have hl3' := LI_int hl3
  have hl4' := LI_int hl4
  obtain ⟨R, hR⟩ : ∃ R, fitB vs s = R := ⟨_, rfl⟩
  rw [hR]
  have HR := Lib.hid hR
  have HROW := Lib.hid hrow
  have HR1 := Lib.hid hr1
  have HL2 := Lib.hid hl2
  obtain ⟨b0, hb0⟩ : ∃ b, svB vs = b := ⟨_, rfl⟩
  have HV := Lib.hid (show ∀ w', Below w.heap.size w w' → Calls Try.prog 46 #[.slice A0 vs.length c0] w' fun e w'' => e = .returned (.bool b0) ∧ Below w'.heap.size w' w'' from fun w' hb => hb0 ▸ svalid_any vs A0 c0 w' (hrow.later hb) hl)
  have HB0 := Lib.hid hb0
  obtain ⟨n1, hn1⟩ : ∃ n, s.cells.length = n := ⟨_, rfl⟩
  obtain ⟨n2, hn2⟩ : ∃ n, s.tin.length = n := ⟨_, rfl⟩
  obtain ⟨n3, hn3⟩ : ∃ n, s.tout.length = n := ⟨_, rfl⟩
  have HN1 := Lib.hid hn1
  have HN := Lib.hid (show R = (b0 && decide (n1 = vs.length) && decide (n2 ≤ 4096) && decide (n3 ≤ 4096) && fitsL vs s.cells) by rw [← hR, ← hb0, ← hn1, ← hn2, ← hn3]; rfl)
  rw [hn1, hn2, hn3]
  rw [hn1] at hl1'
  rw [hn2] at hl3'
  rw [hn3] at hl4'
  clear hR hrow hr1 hr2 hr3 hc1 hc2 hc3 hl1 hl2 hl3 hl4 hl hb0 hn1 hn2 hn3 HR
  go_enter Try.func30, Try.ntmps30
  go_wp2_with fail
  refine (HV.out _ (bl_al (Below.refl _ _) _)).mono ?_
  rintro e9 w1 ⟨rfl, bw1⟩
  have q1 := bl_tt (bl_al (Below.refl w.heap.size w) _) bw1
  have hP := blk_bl (heap_alloc_new w (.cells #[.slice A n1 c, .slice B n2 d, .slice D n3 e] 29)) bw1
  have x0 : w1.cell? ⟨w.heap.size, 0, none⟩ = some (.slice A n1 c) := cell_of_blk hP rfl
  have x1 : w1.cell? ⟨w.heap.size, 1, none⟩ = some (.slice B n2 d) := cell_of_blk hP rfl
  have x2 : w1.cell? ⟨w.heap.size, 2, none⟩ = some (.slice D n3 e) := cell_of_blk hP rfl
  have HP := Lib.hid hP
  have HQ1 := Lib.hid q1
  clear hP q1 bw1
  cases b0
  · have HX := Lib.hid (show R = false by rw [HN.out]; simp)
    clear HN
    go_wp2_with fail
    go_ret
    exact ⟨by rw [HX.out]; rfl, HQ1.out⟩
  by_cases k1 : n1 = vs.length
  case neg =>
    have HX := Lib.hid (show R = false by rw [HN.out]; simp [k1])
    have e1 : ((n1 : Int) == (vs.length : Int)) = false := by simp; omega
    have e2 : ((n1 : Int) != (vs.length : Int)) = true := by simp; omega
    clear HN k1
    go_wp2_with fail
    go_ret
    exact ⟨by rw [HX.out]; rfl, HQ1.out⟩
  by_cases k2 : n2 ≤ 4096
  case neg =>
    have HX := Lib.hid (show R = false by rw [HN.out]; simp [k2])
    have e1 : ((n1 : Int) == (vs.length : Int)) = true := by simp; omega
    have e2 : ((n1 : Int) != (vs.length : Int)) = false := by simp; omega
    have e3 : (4096 : Int) < (n2 : Int) := by omega
    clear HN k1 k2
    go_wp2_with fail
    go_ret
    exact ⟨by rw [HX.out]; rfl, HQ1.out⟩
  by_cases k3 : n3 ≤ 4096
  case neg =>
    have HX := Lib.hid (show R = false by rw [HN.out]; simp [k3])
    have e1 : ((n1 : Int) == (vs.length : Int)) = true := by simp; omega
    have e2 : ((n1 : Int) != (vs.length : Int)) = false := by simp; omega
    have e3 : ¬ (4096 : Int) < (n2 : Int) := by omega
    have e4 : (4096 : Int) < (n3 : Int) := by omega
    clear HN k1 k2 k3
    go_wp2_with fail
    go_ret
    exact ⟨by rw [HX.out]; rfl, HQ1.out⟩
  subst k1
  have HX := Lib.hid (show R = fitsL vs s.cells by rw [HN.out]; simp [k2, k3])
  have e3 : ¬ (4096 : Int) < (n2 : Int) := by omega
  have e4 : ¬ (4096 : Int) < (n3 : Int) := by omega
  clear HN k2 k3 HV
  go_wp2_with fail
  clear x0 x1 x2
  go_loopw [32] (fun i wr => ∃ j : Nat, j ≤ vs.length ∧ i = .int .i64 j ∧ Below w.heap.size w wr ∧ wr.heap[w.heap.size]? = some (.cells #[.slice A vs.length c, .slice B n2 d, .slice D n3 e] 29 (0, 0)) ∧ Hid (fitsL (vs.take j) (s.cells.take j) = true)) (fun i _ => vs.length - (intOf i).toNat)
  case atStart => exact ⟨0, Nat.zero_le _, rfl, HQ1.out, HP.out, Lib.hid (by simp [fitsL])⟩
  case round =>
    obtain ⟨j, hj, rfl, hbl, hbx, HJ⟩ := hrel
    have HBL := Lib.hid hbl
    have HBX := Lib.hid hbx
    by_cases hlt : j < vs.length
    · have hlt2 : j < s.cells.length := by rw [HN1.out]; exact hlt
      obtain ⟨a, rfl, -, ⟨y0, y1, y2⟩, -⟩ := (HROW.out.later hbl) j hlt
      obtain ⟨a', l, A', c', rfl, Hl, z0, _, -⟩ := (HR1.out.later hbl).nd hlt2
      have hll : l.length ≤ LI := by rw [← Hl.out]; exact HL2.out _ (List.getElem_mem hlt2)
      have hll' := LI_int hll
      obtain ⟨v, hv⟩ : ∃ v, vs[j] = v := ⟨_, rfl⟩
      rw [hv] at y0 y1 y2
      have x0 : wr.cell? ⟨w.heap.size, 0, none⟩ = some (.slice (some a') vs.length c) := cell_of_blk hbx rfl
      have x0' := fun o => cell_al (o := o) x0
      have z0' := fun o => cell_al (o := o) z0
      have HGO := Lib.hid (show fit1 v l = true → fitsL (vs.take (j + 1)) (s.cells.take (j + 1)) = true from fun h => by rw [fitsL_take hlt hlt2, HJ.out, hv, Hl.out, h]; rfl)
      have HNO := Lib.hid (show fit1 v l = false → R = false from fun h => by rw [HX.out]; exact fitsL_no hlt hlt2 (by rw [hv, Hl.out]; exact h))
      have HFX := Lib.hid (fixed_any v)
      have hj1 : (j : Int) < (vs.length : Int) := by omega
      obtain ⟨vm, vk, vn⟩ := v
      dsimp only at y0 y1 y2 HFX
      clear hbl hbx hv hll
      by_cases k3 : vk = 3
      · subst k3
        by_cases h1 : l.length ≤ 1000
        · have HJ2 := Lib.hid (HGO.out (by simp [fit1, h1]))
          have e5 : ¬ (1000 : Int) < (l.length : Int) := by omega
          clear HGO HNO h1
          go_wp2_with fail
          go_roundw
          case rel => exact ⟨j + 1, by omega, by go_num, bl_al HBL.out _, blk_al HBX.out _, HJ2⟩
          case measure => simp [intOf]; omega
        · have HX2 := Lib.hid (HNO.out (by simp [fit1]; omega))
          have e5 : (1000 : Int) < (l.length : Int) := by omega
          clear HGO HNO h1
          go_wp2_with fail
          go_ret
          exact ⟨by rw [HX2.out]; rfl, bl_al HBL.out _⟩
      · have x3 : (vk == 3) = false := by simpa using k3
        obtain ⟨fx, hfx⟩ : ∃ fx, fixE ⟨vm, vk, vn⟩ = fx := ⟨_, rfl⟩
        rw [hfx] at HFX
        have HK3 := Lib.hid k3
        have HFE := Lib.hid hfx
        clear k3 hfx
        obtain ⟨W6, hW6⟩ : ∃ W6, wr.alloc (.cells #[.string vm, .int .u8 vk, .int .i64 vn] 24) = W6 := ⟨_, rfl⟩
        have hbo := heap_alloc_new wr (.cells #[.string vm, .int .u8 vk, .int .i64 vn] 24)
        have hx6 := x0' (.cells #[.string vm, .int .u8 vk, .int .i64 vn] 24)
        have hz6 := z0' (.cells #[.string vm, .int .u8 vk, .int .i64 vn] 24)
        have q6 : Below wr.heap.size wr W6 := hW6 ▸ bl_al (Below.refl _ _) _
        rw [hW6] at hbo hx6 hz6
        have HSS := Lib.hid (show ∀ w', Below W6.heap.size W6 w' → (fun w' : World => w'.cell? ⟨w.heap.size, 0, none⟩ = some (.slice (some a') vs.length c) ∧ w'.cell? (a'.add j) = some (.slice A' l.length c') ∧ w'.cell? ⟨wr.heap.size, 0, none⟩ = some (.string vm) ∧ w'.cell? ⟨wr.heap.size, 1, none⟩ = some (.int .u8 vk) ∧ w'.cell? ⟨wr.heap.size, 2, none⟩ = some (.int .i64 vn)) w' from fun w' hb => ⟨cell_bl hb hx6, cell_bl hb hz6, cell_of_blk (blk_bl hbo hb) rfl, cell_of_blk (blk_bl hbo hb) rfl, cell_of_blk (blk_bl hbo hb) rfl⟩)
        have HK0 := Lib.hid (HSS.out _ (Below.refl _ _).drew)
        have HQ6 := Lib.hid (bl_tt HBL.out q6)
        have HX6 := Lib.hid (blk_bl HBX.out q6)
        clear q6 hx6 hz6 x0 x0' z0 z0'
        have hk6 : W6.cell? ⟨wr.heap.size, 1, none⟩ = some (.int .u8 vk) := cell_of_blk hbo rfl
        go_upto_region 9 with fail
        clear hk6
        go_region_held3 (fun w' : World => w'.cell? ⟨w.heap.size, 0, none⟩ = some (.slice (some a') vs.length c) ∧ w'.cell? (a'.add j) = some (.slice A' l.length c') ∧ w'.cell? ⟨wr.heap.size, 0, none⟩ = some (.string vm) ∧ w'.cell? ⟨wr.heap.size, 1, none⟩ = some (.int .u8 vk) ∧ w'.cell? ⟨wr.heap.size, 2, none⟩ = some (.int .i64 vn))
          (first | with_reducible exact HK1.out | with_reducible exact HK0.out)
          (first
            | (go_at_call 47; refine (HFX.out _).mono ?_; rintro e7 y7 ⟨rfl, by7⟩; have b7 := bl_tt (Below.refl W6.heap.size W6).drew by7; have HK1 := Lib.hid (HSS.out _ b7))
            | fail)
        have HQ7 := Lib.hid (bl_tt HQ6.out b7)
        have HX7 := Lib.hid (blk_bl HX6.out b7)
        clear b7 by7 HK1 HK0 hbo y0 y1 y2 hW6
        by_cases hf : (l.length : Int) = fx
        · have HJ2 := Lib.hid (HGO.out (by rw [fit1, if_neg HK3.out, HFE.out]; exact decide_eq_true hf))
          have e5 : ((l.length : Int) == fx) = true := by simpa using hf
          have e6 : ((l.length : Int) != fx) = false := by simpa using hf
          clear HGO HNO hf
          go_wp2_with fail
          go_roundw
          case rel => exact ⟨j + 1, by omega, by go_num, HQ7.out, HX7.out, HJ2⟩
          case measure => simp [intOf]; omega
        · have HX2 := Lib.hid (HNO.out (by rw [fit1, if_neg HK3.out, HFE.out]; exact decide_eq_false hf))
          have e5 : ((l.length : Int) == fx) = false := by simpa using hf
          have e6 : ((l.length : Int) != fx) = true := by simpa using hf
          clear HGO HNO hf
          go_wp2_with fail
          go_ret
          exact ⟨by rw [HX2.out]; rfl, HQ7.out⟩
    · obtain rfl : j = vs.length := by omega
      have HX2 := Lib.hid (show R = true by
        have := HJ.out
        rw [List.take_of_length_le (Nat.le_refl _), List.take_of_length_le (by rw [HN1.out]; exact Nat.le_refl _)] at this
        rw [HX.out]; exact this)
      clear hbl hbx
      go_wp2_with fail
      go_ret
      exact ⟨by rw [HX2.out]; rfl, HBL.out⟩

end Go.Proofs.Ytekjfbnggfbfhaa
