/-
  Texts of the proof, put together without their remarks: Sv, Nw, St, In, Tq.
-/
import Derived.Test.YtgnfpcebmefhoaaGreatY3
import Derived.Deep.OwnRows
import Derived.Shelf.Slices.Cells
import Derived.Shelf.Spec.SlicesInsertGrow
set_option linter.unusedSimpArgs false
set_option linter.unusedVariables false
namespace Go.Proofs.YtgnfpcebmefhoaaGreat
open Go Go.RowKit
set_option maxHeartbeats 4000000 in
set_option maxRecDepth 100000 in
theorem SEqual_any (xs ys : List Int) (A B : Option Addr) (c d : Nat) (w : World) (hx : RowI w Any A xs) (hy : RowI w Any B ys) (hl : xs.length ≤ 1000000) (hm : ys.length ≤ 1000000) :
  Calls Tryz.prog 33 #[.slice A xs.length c, .slice B ys.length d] w fun e w' => e = .returned (.bool (decide (xs = ys))) ∧ Below w.heap.size w w' := by
 obtain ⟨R, hR⟩ : ∃ R, decide (xs = ys) = R := ⟨_, rfl⟩
 rw [hR]
 have HR := Lib.hid hR
 have HX := Lib.hid hx
 have HY := Lib.hid hy
 clear hR hx hy
 by_cases hlen : xs.length = ys.length
 ·have HL := Lib.hid hlen
  rw [← hlen]
  clear hlen
  go_enter Tryz.func33, Tryz.ntmps33
  go_wp2_with fail
  go_loopw [5, 13] (fun _ i wr => ∃ j : Nat, j ≤ xs.length ∧ i = .int .i64 j ∧ Below w.heap.size w wr ∧ Hid (xs.take j = ys.take j)) (fun _ i _ => xs.length - (intOf i).toNat)
  case atStart => exact ⟨0, Nat.zero_le _, rfl, Below.refl _ _, Lib.hid rfl⟩
  case round =>
   obtain ⟨j, hj, rfl, hbl, HJ⟩ := hrel
   have HBL := Lib.hid hbl
   by_cases hlt : j < xs.length
   ·have hlt2 : j < ys.length := by rw [← HL.out]; exact hlt
    obtain ⟨a, rfl, h1⟩ := (HX.out.later hbl).nd hlt
    obtain ⟨b, rfl, h2⟩ := (HY.out.later hbl).nd hlt2
    obtain ⟨x, hx⟩ : ∃ x, xs.getD j 0 = x := ⟨_, rfl⟩
    obtain ⟨y, hy⟩ : ∃ y, ys.getD j 0 = y := ⟨_, rfl⟩
    rw [hx] at h1
    rw [hy] at h2
    have hx' : xs[j] = x := by rw [← hx]; simp [hlt]
    have hy' : ys[j] = y := by rw [← hy]; simp [hlt2]
    have HS := Lib.hid (show (fun w' : World => w'.cell? (a.add j) = some (.int .i64 x) ∧ w'.cell? (b.add j) = some (.int .i64 y)) wr.drew from ⟨h1, h2⟩)
    have hj1 : (j : Int) < (xs.length : Int) := by omega
    have HXJ := Lib.hid hx'
    have HYJ := Lib.hid hy'
    clear hbl hx hy hx' hy' h1 h2
    go_upto_region 6 with fail
    go_region_held3 (fun w' : World => w'.cell? (a.add j) = some (.int .i64 x) ∧ w'.cell? (b.add j) = some (.int .i64 y))
     (with_reducible exact HS.out)
     (first | fail)
    by_cases hxy : x = y
    ·subst hxy
     have HJ2 : Hid (xs.take (j + 1) = ys.take (j + 1)) := Lib.hid (by rw [List.take_succ_eq_append_getElem hlt, List.take_succ_eq_append_getElem hlt2, HJ.out, HXJ.out, HYJ.out])
     go_wp2_with fail
     go_roundw
     case rel => exact ⟨j + 1, by omega, by go_num, HBL.out.drew, HJ2⟩
     case measure => simp [intOf]; omega
    ·have e1 : (x == y) = false := by simpa using hxy
     have e2 : (x != y) = true := by simpa using hxy
     have HF := Lib.hid (show R = false by rw [← HR.out]; exact decide_eq_false fun h => hxy (by subst h; rw [← HXJ.out, ← HYJ.out]))
     clear hxy
     go_wp2_with fail
     go_ret
     exact ⟨by rw [HF.out]; rfl, HBL.out.drew⟩
   ·obtain rfl : j = xs.length := by omega
    have HF := Lib.hid (show R = true by
     have h1 := HJ.out
     rw [List.take_of_length_le (Nat.le_refl _), List.take_of_length_le (by rw [HL.out]; exact Nat.le_refl _)] at h1
     rw [← HR.out]
     exact decide_eq_true h1)
    clear hbl
    go_wp2_with fail
    go_ret
    exact ⟨by rw [HF.out]; rfl, HBL.out⟩
 ·have HF := Lib.hid (show R = false by rw [← HR.out]; exact decide_eq_false fun h => hlen (by rw [h]))
  have e1 : ((xs.length : Int) == (ys.length : Int)) = false := by simp; omega
  have e2 : ((xs.length : Int) != (ys.length : Int)) = true := by simp; omega
  go_enter Tryz.func33, Tryz.ntmps33
  go_wp2_with fail
  go_ret
  exact ⟨by rw [HF.out]; rfl, Below.refl _ _⟩
end Go.Proofs.YtgnfpcebmefhoaaGreat
namespace Go.Proofs.YtgnfpcebmefhoaaGreat
open Go Go.RowKit
def RowII (w : World) (S : Nat → Prop) (A : Option Addr) (ls : List (List Int)) : Prop :=
 ∀ i (hi : i < ls.length), ∃ (a : Addr) (A' : Option Addr) (c' : Nat), A = some a ∧ S a.block ∧ w.cell? (a.add i) = some (.slice A' ls[i].length c') ∧ ls[i].length ≤ c' ∧ RowI w S A' ls[i]
structure SS where
 cells : List (List Int)
 tin : List Int
 tout : List Int
def SS.Lim (s : SS) : Prop := s.cells.length ≤ LI ∧ (∀ l ∈ s.cells, l.length ≤ LI) ∧ s.tin.length ≤ LI ∧ s.tout.length ≤ LI
def SV (w : World) (S : Nat → Prop) (s : SS) (v : Value) : Prop :=
 ∃ A c B d D e, v = .agg #[.slice A s.cells.length c, .slice B s.tin.length d, .slice D s.tout.length e] ∧ RowII w S A s.cells ∧ RowI w S B s.tin ∧ RowI w S D s.tout ∧ s.cells.length ≤ c ∧ s.tin.length ≤ d ∧ s.tout.length ≤ e ∧ s.Lim
section
variable {w w' : World} {S S' : Nat → Prop} {A : Option Addr} {ls : List (List Int)}
theorem RowII.keep (h : RowII w S A ls) (hS : ∀ b, S b → b < w.heap.size → S' b) (hk : ∀ b, S b → b < w.heap.size → w'.heap[b]? = w.heap[b]?) : RowII w' S' A ls := fun i hi => by
 obtain ⟨a, A', c', hA, hSa, h0, hc, hr⟩ := h i hi
 have hlt : a.block < w.heap.size := by have := World.block_lt_of_cell? w _ h0; rwa [block_add] at this
 refine ⟨a, A', c', hA, hS _ hSa hlt, cell_kp h0 ?_, hc, hr.keep hS hk⟩
 simp only [block_add]; exact hk _ hSa hlt
theorem RowII.later (h : RowII w S A ls) (hb : Below w.heap.size w w') : RowII w' S A ls := h.keep (fun _ h _ => h) fun b _ hlt => hb.block b hlt
theorem SV.keep {s : SS} {v : Value} (h : SV w S s v) (hS : ∀ b, S b → b < w.heap.size → S' b) (hk : ∀ b, S b → b < w.heap.size → w'.heap[b]? = w.heap[b]?) : SV w' S' s v := by
 obtain ⟨A, c, B, d, D, e, rfl, h1, h2, h3, h4⟩ := h
 exact ⟨A, c, B, d, D, e, rfl, h1.keep hS hk, h2.keep hS hk, h3.keep hS hk, h4⟩
theorem SV.later {s : SS} {v : Value} (h : SV w S s v) (hb : Below w.heap.size w w') : SV w' S s v := h.keep (fun _ h _ => h) fun b _ hlt => hb.block b hlt
theorem RowII.nd (h : RowII w Any A ls) {i : Nat} (hi : i < ls.length) : ∃ (a : Addr) (l : List Int) (A' : Option Addr) (c' : Nat), A = some a ∧ Hid (ls[i] = l) ∧ w.cell? (a.add i) = some (.slice A' l.length c') ∧ l.length ≤ c' ∧ RowI w Any A' l :=
 let ⟨a, A', c', h1, _, h3, h4, h5⟩ := h i hi; ⟨a, ls[i], A', c', h1, rfl, h3, h4, h5⟩
end
set_option maxHeartbeats 4000000 in
set_option maxRecDepth 100000 in
theorem EqualFuncI_any (xs ys : List (List Int)) (A B : Option Addr) (c d : Nat) (w : World) (hx : RowII w Any A xs) (hy : RowII w Any B ys) (hl : xs.length ≤ 1000000) (hm : ys.length ≤ 1000000) (hbx : ∀ l ∈ xs, l.length ≤ 1000000) (hby : ∀ l ∈ ys, l.length ≤ 1000000) :
  Calls Tryz.prog 32 #[.slice A xs.length c, .slice B ys.length d, .func (.func 33) #[] #[]] w fun e w' => e = .returned (.bool (decide (xs = ys))) ∧ Below w.heap.size w w' := by
 obtain ⟨R, hR⟩ : ∃ R, decide (xs = ys) = R := ⟨_, rfl⟩
 rw [hR]
 have HR := Lib.hid hR
 have HX := Lib.hid hx
 have HY := Lib.hid hy
 have HBX := Lib.hid hbx
 have HBY := Lib.hid hby
 clear hR hx hy hbx hby
 by_cases hlen : xs.length = ys.length
 ·have HL := Lib.hid hlen
  rw [← hlen]
  clear hlen
  go_enter Tryz.func32, Tryz.ntmps32
  go_wp2_with fail
  go_loopw [17] (fun i wr => ∃ j : Nat, j ≤ xs.length ∧ i = .int .i64 j ∧ Below w.heap.size w wr ∧ Hid (xs.take j = ys.take j)) (fun i _ => xs.length - (intOf i).toNat)
  case atStart => exact ⟨0, Nat.zero_le _, rfl, Below.refl _ _, Lib.hid rfl⟩
  case round =>
   obtain ⟨j, hj, rfl, hbl, HJ⟩ := hrel
   have HBL := Lib.hid hbl
   by_cases hlt : j < xs.length
   ·have hlt2 : j < ys.length := by rw [← HL.out]; exact hlt
    obtain ⟨a, x, A1, c1, rfl, Hx, h1, _, hr1⟩ := (HX.out.later hbl).nd hlt
    obtain ⟨b, y, B1, d1, rfl, Hy, h2, _, hr2⟩ := (HY.out.later hbl).nd hlt2
    have hlx : x.length ≤ 1000000 := by rw [← Hx.out]; exact HBX.out _ (List.getElem_mem hlt)
    have hly : y.length ≤ 1000000 := by rw [← Hy.out]; exact HBY.out _ (List.getElem_mem hlt2)
    obtain ⟨b0, hb0⟩ : ∃ b0, decide (x = y) = b0 := ⟨_, rfl⟩
    have HCA := Lib.hid (hb0 ▸ SEqual_any x y A1 B1 c1 d1 wr hr1 hr2 hlx hly)
    have HB0 := Lib.hid hb0
    have hj1 : (j : Int) < (xs.length : Int) := by omega
    clear hbl hr1 hr2 hb0
    go_wp2_with fail
    refine HCA.out.mono ?_
    rintro e w2 ⟨rfl, bw2⟩
    have HB2 := Lib.hid (bl_tt HBL.out bw2)
    clear bw2 h1 h2
    cases b0
    ·have HF := Lib.hid (show R = false by
      rw [← HR.out]
      refine decide_eq_false fun h => of_decide_eq_false HB0.out ?_
      subst h
      rw [← Hx.out, ← Hy.out])
     go_wp2_with fail
     go_ret
     exact ⟨by rw [HF.out]; rfl, HB2.out⟩
    ·have HJ2 : Hid (xs.take (j + 1) = ys.take (j + 1)) := Lib.hid (by rw [List.take_succ_eq_append_getElem hlt, List.take_succ_eq_append_getElem hlt2, HJ.out, Hx.out, Hy.out, of_decide_eq_true HB0.out])
     go_wp2_with fail
     go_roundw
     case rel => exact ⟨j + 1, by omega, by go_num, HB2.out, HJ2⟩
     case measure => simp [intOf]; omega
   ·obtain rfl : j = xs.length := by omega
    have HF := Lib.hid (show R = true by
     have h1 := HJ.out
     rw [List.take_of_length_le (Nat.le_refl _), List.take_of_length_le (by rw [HL.out]; exact Nat.le_refl _)] at h1
     rw [← HR.out]
     exact decide_eq_true h1)
    clear hbl
    go_wp2_with fail
    go_ret
    exact ⟨by rw [HF.out]; rfl, HBL.out⟩
 ·have HF := Lib.hid (show R = false by rw [← HR.out]; exact decide_eq_false fun h => hlen (by rw [h]))
  have e1 : ((xs.length : Int) == (ys.length : Int)) = false := by simp; omega
  have e2 : ((xs.length : Int) != (ys.length : Int)) = true := by simp; omega
  go_enter Tryz.func32, Tryz.ntmps32
  go_wp2_with fail
  go_ret
  exact ⟨by rw [HF.out]; rfl, Below.refl _ _⟩
def SS.Sm (s : SS) : Prop := s.cells.length ≤ 1000000 ∧ (∀ l ∈ s.cells, l.length ≤ 1000000) ∧ s.tin.length ≤ 1000000 ∧ s.tout.length ≤ 1000000
def eqS (s t : SS) : Bool := decide (s.cells = t.cells) && decide (s.tin = t.tin) && decide (s.tout = t.tout)
set_option maxHeartbeats 4000000 in
set_option maxRecDepth 100000 in
theorem StEqual_any (s t : SS) (v1 v2 : Value) (w : World) (h1 : SV w Any s v1) (h2 : SV w Any t v2) (hs : s.Sm) (ht : t.Sm) : Calls Tryz.prog 17 #[v1, v2] w fun e w' => e = .returned (.bool (eqS s t)) ∧ Below w.heap.size w w' := by
 obtain ⟨A, c, B, d, D, e, rfl, hr1, hr2, hr3, -⟩ := h1
 obtain ⟨A', c', B', d', D', e', rfl, hq1, hq2, hq3, -⟩ := h2
 obtain ⟨b1, hb1⟩ : ∃ b, decide (s.cells = t.cells) = b := ⟨_, rfl⟩
 obtain ⟨b2, hb2⟩ : ∃ b, decide (s.tin = t.tin) = b := ⟨_, rfl⟩
 obtain ⟨b3, hb3⟩ : ∃ b, decide (s.tout = t.tout) = b := ⟨_, rfl⟩
 have hR : eqS s t = (b1 && b2 && b3) := by rw [← hb1, ← hb2, ← hb3]; rfl
 obtain ⟨R, hRR⟩ : ∃ R, eqS s t = R := ⟨_, rfl⟩
 have HRR := Lib.hid (show R = (b1 && b2 && b3) by rw [← hRR]; exact hR)
 rw [hRR]
 have H1 := Lib.hid (show ∀ w', Below w.heap.size w w' → Calls Tryz.prog 32 #[.slice A s.cells.length c, .slice A' t.cells.length c', .func (.func 33) #[] #[]] w' fun e w'' => e = .returned (.bool b1) ∧ Below w'.heap.size w' w'' from fun w' hb => hb1 ▸ EqualFuncI_any s.cells t.cells A A' c c' w' (hr1.later hb) (hq1.later hb) hs.1 ht.1 hs.2.1 ht.2.1)
 have H2 := Lib.hid (show ∀ w', Below w.heap.size w w' → Calls Tryz.prog 33 #[.slice B s.tin.length d, .slice B' t.tin.length d'] w' fun e w'' => e = .returned (.bool b2) ∧ Below w'.heap.size w' w'' from fun w' hb => hb2 ▸ SEqual_any s.tin t.tin B B' d d' w' (hr2.later hb) (hq2.later hb) hs.2.2.1 ht.2.2.1)
 have H3 := Lib.hid (show ∀ w', Below w.heap.size w w' → Calls Tryz.prog 33 #[.slice D s.tout.length e, .slice D' t.tout.length e'] w' fun e w'' => e = .returned (.bool b3) ∧ Below w'.heap.size w' w'' from fun w' hb => hb3 ▸ SEqual_any s.tout t.tout D D' e e' w' (hr3.later hb) (hq3.later hb) hs.2.2.2 ht.2.2.2)
 generalize s.cells.length = l1, s.tin.length = l2, s.tout.length = l3, t.cells.length = m1, t.tin.length = m2, t.tout.length = m3 at *
 clear hr1 hr2 hr3 hq1 hq2 hq3 hs ht hb1 hb2 hb3 hR hRR
 go_enter Tryz.func17, Tryz.ntmps17
 go_wp2_with fail
 have q0 : Below w.heap.size w ((w.alloc (.cells #[.slice A l1 c, .slice B l2 d, .slice D l3 e] 32)).alloc (.cells #[.slice A' m1 c', .slice B' m2 d', .slice D' m3 e'] 32)) := bl_al (bl_al (Below.refl _ _) _) _
 have hP := blk_al (heap_alloc_new w (.cells #[.slice A l1 c, .slice B l2 d, .slice D l3 e] 32)) (.cells #[.slice A' m1 c', .slice B' m2 d', .slice D' m3 e'] 32)
 have hQ := heap_alloc_new (w.alloc (.cells #[.slice A l1 c, .slice B l2 d, .slice D l3 e] 32)) (.cells #[.slice A' m1 c', .slice B' m2 d', .slice D' m3 e'] 32)
 simp only [World.size_alloc] at hQ
 refine (H1.out _ q0).mono ?_
 rintro e9 w1 ⟨rfl, bw1⟩
 have q1 := bl_tt q0 bw1
 have hP1 := blk_bl hP bw1
 have hQ1 := blk_bl hQ bw1
 have x1 : w1.cell? ⟨w.heap.size, 1, none⟩ = some (.slice B l2 d) := cell_of_blk hP1 rfl
 have x2 : w1.cell? ⟨w.heap.size, 2, none⟩ = some (.slice D l3 e) := cell_of_blk hP1 rfl
 have y1 : w1.cell? ⟨w.heap.size + 1, 1, none⟩ = some (.slice B' m2 d') := cell_of_blk hQ1 rfl
 have y2 : w1.cell? ⟨w.heap.size + 1, 2, none⟩ = some (.slice D' m3 e') := cell_of_blk hQ1 rfl
 clear hP hQ hP1 hQ1 q0 bw1
 cases b1
 ·have HX := Lib.hid (show R = false by rw [HRR.out]; rfl)
  go_wp2_with fail
  go_ret
  exact ⟨by rw [HX.out]; rfl, q1⟩
 ·go_wp2_with fail
  refine (H2.out _ q1).mono ?_
  rintro e9 w2 ⟨rfl, bw2⟩
  have q2 := bl_tt q1 bw2
  have z2 := cell_bl bw2 x2
  have u2 := cell_bl bw2 y2
  clear bw2 x1 x2 y1 y2
  cases b2
  ·have HX := Lib.hid (show R = false by rw [HRR.out]; rfl)
   go_wp2_with fail
   go_ret
   exact ⟨by rw [HX.out]; rfl, q2⟩
  ·go_wp2_with fail
   refine (H3.out _ q2).mono ?_
   rintro e9 w3 ⟨rfl, bw3⟩
   have q3 := bl_tt q2 bw3
   have HX := Lib.hid (show R = b3 by rw [HRR.out]; simp)
   clear bw3 z2 u2
   go_wp2_with fail
   go_ret
   exact ⟨by rw [HX.out]; rfl, q3⟩
def vdB (v : VD) : Bool := if v.k = 1 ∨ v.k = 3 then v.n == 0 else if v.k = 2 then decide (1 ≤ v.n ∧ v.n ≤ 16) else false
def svB (vs : List VD) : Bool := decide (vs.length ≤ 32) && vs.all vdB
def fixE (v : VD) : Int := if v.k = 1 then 1 else v.n
set_option maxHeartbeats 4000000 in
theorem fixed_any (v : VD) (w : World) : Calls Tryz.prog 45 #[.agg #[.string v.s, .int .u8 v.k, .int .i64 v.n]] w fun e w' => e = .returned (.int .i64 (fixE v)) ∧ Below w.heap.size w w' := by
 obtain ⟨s, k, n⟩ := v
 dsimp only
 by_cases h : k = 1
 ·subst h
  go_enter Tryz.func45, Tryz.ntmps45
  go_wp2_with fail
  go_ret
  exact ⟨rfl, bl_al (Below.refl _ _) _⟩
 ·have e1 : (k == 1) = false := by simpa using h
  have HX := Lib.hid (show fixE ⟨s, k, n⟩ = n by simp [fixE, h])
  obtain ⟨R, hR⟩ : ∃ R, fixE ⟨s, k, n⟩ = R := ⟨_, rfl⟩
  rw [hR] at HX ⊢
  clear h hR
  go_enter Tryz.func45, Tryz.ntmps45
  go_wp2_with fail
  go_ret
  exact ⟨by rw [HX.out]; rfl, bl_al (Below.refl _ _) _⟩
set_option maxHeartbeats 4000000 in
set_option maxRecDepth 100000 in
theorem svalid_any (vs : List VD) (A : Option Addr) (c : Nat) (w : World) (hrow : RowV w Any A vs) (hl : vs.length ≤ LV) : Calls Tryz.prog 44 #[.slice A vs.length c] w fun e w' => e = .returned (.bool (svB vs)) ∧ Below w.heap.size w w' := by
 have hl' := LV_int hl
 obtain ⟨R, hR⟩ : ∃ R, svB vs = R := ⟨_, rfl⟩
 rw [hR]
 have HR := Lib.hid hR
 have HROW := Lib.hid hrow
 clear hR hrow hl
 by_cases h32 : vs.length ≤ 32
 ·have HN := Lib.hid (show R = vs.all vdB by rw [← HR.out, svB, decide_eq_true h32]; rfl)
  clear HR
  go_enter Tryz.func44, Tryz.ntmps44
  go_wp2_with fail
  go_loopw [10] (fun i wr => ∃ j : Nat, j ≤ vs.length ∧ i = .int .i64 j ∧ Below w.heap.size w wr ∧ Hid ((vs.take j).all vdB = true)) (fun i _ => vs.length - (intOf i).toNat)
  case atStart => exact ⟨0, Nat.zero_le _, rfl, Below.refl _ _, Lib.hid rfl⟩
  case round =>
   obtain ⟨j, hj, rfl, hbl, HJ⟩ := hrel
   have HBL := Lib.hid hbl
   by_cases hlt : j < vs.length
   ·obtain ⟨a, rfl, -, ⟨y0, y1, y2⟩, -⟩ := (HROW.out.later hbl) j hlt
    obtain ⟨v, hv⟩ : ∃ v, vs[j] = v := ⟨_, rfl⟩
    rw [hv] at y0 y1 y2
    obtain ⟨vm, vk, vn⟩ := v
    have Hv := Lib.hid hv
    have HGO := Lib.hid (show vdB ⟨vm, vk, vn⟩ = true → (vs.take (j + 1)).all vdB = true from fun h => by rw [List.take_succ_eq_append_getElem hlt, List.all_append, HJ.out, hv]; simp [h])
    have HNO := Lib.hid (show vdB ⟨vm, vk, vn⟩ = false → R = false from fun h => by
     rw [HN.out]
     exact Bool.eq_false_iff.2 fun h' => by
      have := List.all_eq_true.1 h' _ (List.getElem_mem hlt)
      rw [hv, h] at this
      cases this)
    dsimp only at y0 y1 y2
    clear hbl hv
    have hb0 : ∀ b, vdB ⟨vm, vk, vn⟩ = b → True := fun _ _ => trivial
    by_cases k13 : vk = 1 ∨ vk = 3
    ·by_cases hn : vn = 0
     ·have HJ2 := Lib.hid (HGO.out (by simp [vdB, k13, hn]))
      subst hn
      clear HGO HNO hb0
      rcases k13 with rfl | rfl
      all_goals
       go_wp2_with fail
       go_roundw
       case rel => exact ⟨j + 1, by omega, by go_num, bl_al HBL.out _, HJ2⟩
       case measure => simp [intOf]; omega
     ·have HX := Lib.hid (HNO.out (by simp [vdB, k13, hn]))
      have e1 : (vn == 0) = false := by simpa using hn
      have e2 : (vn != 0) = true := by simpa using hn
      clear HGO HNO hb0 hn
      rcases k13 with rfl | rfl
      all_goals
       go_wp2_with fail
       go_ret
       exact ⟨by rw [HX.out]; rfl, bl_al HBL.out _⟩
    ·by_cases k2 : vk = 2
     ·subst k2
      by_cases h1 : vn < 1
      ·have HX := Lib.hid (HNO.out (by simp [vdB]; omega))
       clear HGO HNO hb0 k13
       go_wp2_with fail
       go_ret
       exact ⟨by rw [HX.out]; rfl, bl_al HBL.out _⟩
      ·by_cases h16 : 16 < vn
       ·have HX := Lib.hid (HNO.out (by simp [vdB]; omega))
        clear HGO HNO hb0 k13
        go_wp2_with fail
        go_ret
        exact ⟨by rw [HX.out]; rfl, bl_al HBL.out _⟩
       ·have HJ2 := Lib.hid (HGO.out (by simp [vdB]; omega))
        clear HGO HNO hb0 k13
        go_wp2_with fail
        go_roundw
        case rel => exact ⟨j + 1, by omega, by go_num, bl_al HBL.out _, HJ2⟩
        case measure => simp [intOf]; omega
     ·have HX := Lib.hid (HNO.out (by simp [vdB, k13, k2]))
      have x1 : (vk == 1) = false := by simp; omega
      have x2 : (vk == 2) = false := by simp; omega
      have x3 : (vk == 3) = false := by simp; omega
      clear HGO HNO hb0 k13 k2
      go_wp2_with fail
      go_ret
      exact ⟨by rw [HX.out]; rfl, bl_al HBL.out _⟩
   ·obtain rfl : j = vs.length := by omega
    have HX := Lib.hid (show R = true by
     have := HJ.out
     rw [List.take_of_length_le (Nat.le_refl _)] at this
     rw [HN.out]; exact this)
    clear hbl
    go_wp2_with fail
    go_ret
    exact ⟨by rw [HX.out]; rfl, HBL.out⟩
 ·have HX := Lib.hid (show R = false by rw [← HR.out, svB, decide_eq_false h32]; rfl)
  have h33 : (32 : Int) < (vs.length : Int) := by omega
  clear h32
  go_enter Tryz.func44, Tryz.ntmps44
  go_wp2_with fail
  go_ret
  exact ⟨by rw [HX.out]; rfl, Below.refl _ _⟩
end Go.Proofs.YtgnfpcebmefhoaaGreat
namespace Go.Proofs.YtgnfpcebmefhoaaGreat
open Go Go.RowKit
def fit1 (v : VD) (l : List Int) : Bool := if v.k = 3 then decide (l.length ≤ 1000) else decide ((l.length : Int) = fixE v)
def fitsL : List VD → List (List Int) → Bool
 | v :: vs, l :: ls => fit1 v l && fitsL vs ls
 | _, _ => true
def fitB (vs : List VD) (s : SS) : Bool := svB vs && decide (s.cells.length = vs.length) && decide (s.tin.length ≤ 4096) && decide (s.tout.length ≤ 4096) && fitsL vs s.cells
theorem fitsL_take : ∀ {vs : List VD} {ls : List (List Int)} {j : Nat} (h : j < vs.length) (h' : j < ls.length), fitsL (vs.take (j + 1)) (ls.take (j + 1)) = (fitsL (vs.take j) (ls.take j) && fit1 vs[j] ls[j])
 | v :: vs, l :: ls, 0, _, _ => by simp [fitsL]
 | v :: vs, l :: ls, j + 1, h, h' => by
  have := fitsL_take (vs := vs) (ls := ls) (j := j) (by simpa using h) (by simpa using h')
  simp only [List.take, fitsL, List.getElem_cons_succ] at this ⊢
  rw [this, Bool.and_assoc]
theorem fitsL_no : ∀ {vs : List VD} {ls : List (List Int)} {j : Nat} (h : j < vs.length) (h' : j < ls.length), fit1 vs[j] ls[j] = false → fitsL vs ls = false
 | v :: vs, l :: ls, 0, _, _, h => by simp only [fitsL, List.getElem_cons_zero] at *; simp [h]
 | v :: vs, l :: ls, j + 1, h, h', h0 => by
  have := fitsL_no (vs := vs) (ls := ls) (j := j) (by simpa using h) (by simpa using h') (by simpa using h0)
  simp [fitsL, this]
set_option maxHeartbeats 4000000 in
set_option maxRecDepth 100000 in
theorem Fits_any (vs : List VD) (s : SS) (A0 : Option Addr) (c0 : Nat) (v : Value) (w : World) (hrow : RowV w Any A0 vs) (hl : vs.length ≤ LV) (hv : SV w Any s v) : Calls Tryz.prog 22 #[.slice A0 vs.length c0, v] w fun e w' => e = .returned (.bool (fitB vs s)) ∧ Below w.heap.size w w' := by
 obtain ⟨A, c, B, d, D, e, rfl, hr1, hr2, hr3, hc1, hc2, hc3, hl1, hl2, hl3, hl4⟩ := hv
 have hl' := LV_int hl
 have hl1' := LI_int hl1
 have hl3' := LI_int hl3
 have hl4' := LI_int hl4
 obtain ⟨R, hR⟩ : ∃ R, fitB vs s = R := ⟨_, rfl⟩
 rw [hR]
 have HR := Lib.hid hR
 have HROW := Lib.hid hrow
 have HR1 := Lib.hid hr1
 have HL2 := Lib.hid hl2
 obtain ⟨b0, hb0⟩ : ∃ b, svB vs = b := ⟨_, rfl⟩
 have HV := Lib.hid (show ∀ w', Below w.heap.size w w' → Calls Tryz.prog 44 #[.slice A0 vs.length c0] w' fun e w'' => e = .returned (.bool b0) ∧ Below w'.heap.size w' w'' from fun w' hb => hb0 ▸ svalid_any vs A0 c0 w' (hrow.later hb) hl)
 have HB0 := Lib.hid hb0
 obtain ⟨n1, hn1⟩ : ∃ n, s.cells.length = n := ⟨_, rfl⟩
 obtain ⟨n2, hn2⟩ : ∃ n, s.tin.length = n := ⟨_, rfl⟩
 obtain ⟨n3, hn3⟩ : ∃ n, s.tout.length = n := ⟨_, rfl⟩
 have HN1 := Lib.hid hn1
 have HN := Lib.hid (show R = (b0 && decide (n1 = vs.length) && decide (n2 ≤ 4096) && decide (n3 ≤ 4096) && fitsL vs s.cells) by rw [← hR, ← hb0, ← hn1, ← hn2, ← hn3]; rfl)
 rw [hn1, hn2, hn3]
 rw [hn1] at hl1'
 rw [hn2] at hl3'
 rw [hn3] at hl4'
 clear hR hrow hr1 hr2 hr3 hc1 hc2 hc3 hl1 hl2 hl3 hl4 hl hb0 hn1 hn2 hn3 HR
 go_enter Tryz.func22, Tryz.ntmps22
 go_wp2_with fail
 refine (HV.out _ (bl_al (Below.refl _ _) _)).mono ?_
 rintro e9 w1 ⟨rfl, bw1⟩
 have q1 := bl_tt (bl_al (Below.refl w.heap.size w) _) bw1
 have hP := blk_bl (heap_alloc_new w (.cells #[.slice A n1 c, .slice B n2 d, .slice D n3 e] 32)) bw1
 have x0 : w1.cell? ⟨w.heap.size, 0, none⟩ = some (.slice A n1 c) := cell_of_blk hP rfl
 have x1 : w1.cell? ⟨w.heap.size, 1, none⟩ = some (.slice B n2 d) := cell_of_blk hP rfl
 have x2 : w1.cell? ⟨w.heap.size, 2, none⟩ = some (.slice D n3 e) := cell_of_blk hP rfl
 have HP := Lib.hid hP
 have HQ1 := Lib.hid q1
 clear hP q1 bw1
 cases b0
 ·have HX := Lib.hid (show R = false by rw [HN.out]; simp)
  clear HN
  go_wp2_with fail
  go_ret
  exact ⟨by rw [HX.out]; rfl, HQ1.out⟩
 by_cases k1 : n1 = vs.length
 case neg =>
  have HX := Lib.hid (show R = false by rw [HN.out]; simp [k1])
  have e1 : ((n1 : Int) == (vs.length : Int)) = false := by simp; omega
  have e2 : ((n1 : Int) != (vs.length : Int)) = true := by simp; omega
  clear HN k1
  go_wp2_with fail
  go_ret
  exact ⟨by rw [HX.out]; rfl, HQ1.out⟩
 by_cases k2 : n2 ≤ 4096
 case neg =>
  have HX := Lib.hid (show R = false by rw [HN.out]; simp [k2])
  have e1 : ((n1 : Int) == (vs.length : Int)) = true := by simp; omega
  have e2 : ((n1 : Int) != (vs.length : Int)) = false := by simp; omega
  have e3 : (4096 : Int) < (n2 : Int) := by omega
  clear HN k1 k2
  go_wp2_with fail
  go_ret
  exact ⟨by rw [HX.out]; rfl, HQ1.out⟩
 by_cases k3 : n3 ≤ 4096
 case neg =>
  have HX := Lib.hid (show R = false by rw [HN.out]; simp [k3])
  have e1 : ((n1 : Int) == (vs.length : Int)) = true := by simp; omega
  have e2 : ((n1 : Int) != (vs.length : Int)) = false := by simp; omega
  have e3 : ¬ (4096 : Int) < (n2 : Int) := by omega
  have e4 : (4096 : Int) < (n3 : Int) := by omega
  clear HN k1 k2 k3
  go_wp2_with fail
  go_ret
  exact ⟨by rw [HX.out]; rfl, HQ1.out⟩
 subst k1
 have HX := Lib.hid (show R = fitsL vs s.cells by rw [HN.out]; simp [k2, k3])
 have e3 : ¬ (4096 : Int) < (n2 : Int) := by omega
 have e4 : ¬ (4096 : Int) < (n3 : Int) := by omega
 clear HN k2 k3 HV
 go_wp2_with fail
 clear x0 x1 x2
 go_loopw [32] (fun i wr => ∃ j : Nat, j ≤ vs.length ∧ i = .int .i64 j ∧ Below w.heap.size w wr ∧ wr.heap[w.heap.size]? = some (.cells #[.slice A vs.length c, .slice B n2 d, .slice D n3 e] 32 (0, 0)) ∧ Hid (fitsL (vs.take j) (s.cells.take j) = true)) (fun i _ => vs.length - (intOf i).toNat)
 case atStart => exact ⟨0, Nat.zero_le _, rfl, HQ1.out, HP.out, Lib.hid (by simp [fitsL])⟩
 case round =>
  obtain ⟨j, hj, rfl, hbl, hbx, HJ⟩ := hrel
  have HBL := Lib.hid hbl
  have HBX := Lib.hid hbx
  by_cases hlt : j < vs.length
  ·have hlt2 : j < s.cells.length := by rw [HN1.out]; exact hlt
   obtain ⟨a, rfl, -, ⟨y0, y1, y2⟩, -⟩ := (HROW.out.later hbl) j hlt
   obtain ⟨a', l, A', c', rfl, Hl, z0, _, -⟩ := (HR1.out.later hbl).nd hlt2
   have hll : l.length ≤ LI := by rw [← Hl.out]; exact HL2.out _ (List.getElem_mem hlt2)
   have hll' := LI_int hll
   obtain ⟨v, hv⟩ : ∃ v, vs[j] = v := ⟨_, rfl⟩
   rw [hv] at y0 y1 y2
   have x0 : wr.cell? ⟨w.heap.size, 0, none⟩ = some (.slice (some a') vs.length c) := cell_of_blk hbx rfl
   have x0' := fun o => cell_al (o := o) x0
   have z0' := fun o => cell_al (o := o) z0
   have HGO := Lib.hid (show fit1 v l = true → fitsL (vs.take (j + 1)) (s.cells.take (j + 1)) = true from fun h => by rw [fitsL_take hlt hlt2, HJ.out, hv, Hl.out, h]; rfl)
   have HNO := Lib.hid (show fit1 v l = false → R = false from fun h => by rw [HX.out]; exact fitsL_no hlt hlt2 (by rw [hv, Hl.out]; exact h))
   have HFX := Lib.hid (fixed_any v)
   have hj1 : (j : Int) < (vs.length : Int) := by omega
   obtain ⟨vm, vk, vn⟩ := v
   dsimp only at y0 y1 y2 HFX
   clear hbl hbx hv hll
   by_cases k3 : vk = 3
   ·subst k3
    by_cases h1 : l.length ≤ 1000
    ·have HJ2 := Lib.hid (HGO.out (by simp [fit1, h1]))
     have e5 : ¬ (1000 : Int) < (l.length : Int) := by omega
     clear HGO HNO h1
     go_wp2_with fail
     go_roundw
     case rel => exact ⟨j + 1, by omega, by go_num, bl_al HBL.out _, blk_al HBX.out _, HJ2⟩
     case measure => simp [intOf]; omega
    ·have HX2 := Lib.hid (HNO.out (by simp [fit1]; omega))
     have e5 : (1000 : Int) < (l.length : Int) := by omega
     clear HGO HNO h1
     go_wp2_with fail
     go_ret
     exact ⟨by rw [HX2.out]; rfl, bl_al HBL.out _⟩
   ·have x3 : (vk == 3) = false := by simpa using k3
    obtain ⟨fx, hfx⟩ : ∃ fx, fixE ⟨vm, vk, vn⟩ = fx := ⟨_, rfl⟩
    rw [hfx] at HFX
    have HK3 := Lib.hid k3
    have HFE := Lib.hid hfx
    clear k3 hfx
    obtain ⟨W6, hW6⟩ : ∃ W6, wr.alloc (.cells #[.string vm, .int .u8 vk, .int .i64 vn] 58) = W6 := ⟨_, rfl⟩
    have hbo := heap_alloc_new wr (.cells #[.string vm, .int .u8 vk, .int .i64 vn] 58)
    have hx6 := x0' (.cells #[.string vm, .int .u8 vk, .int .i64 vn] 58)
    have hz6 := z0' (.cells #[.string vm, .int .u8 vk, .int .i64 vn] 58)
    have q6 : Below wr.heap.size wr W6 := hW6 ▸ bl_al (Below.refl _ _) _
    rw [hW6] at hbo hx6 hz6
    have HSS := Lib.hid (show ∀ w', Below W6.heap.size W6 w' → (fun w' : World => w'.cell? ⟨w.heap.size, 0, none⟩ = some (.slice (some a') vs.length c) ∧ w'.cell? (a'.add j) = some (.slice A' l.length c') ∧ w'.cell? ⟨wr.heap.size, 0, none⟩ = some (.string vm) ∧ w'.cell? ⟨wr.heap.size, 1, none⟩ = some (.int .u8 vk) ∧ w'.cell? ⟨wr.heap.size, 2, none⟩ = some (.int .i64 vn)) w' from fun w' hb => ⟨cell_bl hb hx6, cell_bl hb hz6, cell_of_blk (blk_bl hbo hb) rfl, cell_of_blk (blk_bl hbo hb) rfl, cell_of_blk (blk_bl hbo hb) rfl⟩)
    have HK0 := Lib.hid (HSS.out _ (Below.refl _ _).drew)
    have HQ6 := Lib.hid (bl_tt HBL.out q6)
    have HX6 := Lib.hid (blk_bl HBX.out q6)
    clear q6 hx6 hz6 x0 x0' z0 z0'
    have hk6 : W6.cell? ⟨wr.heap.size, 1, none⟩ = some (.int .u8 vk) := cell_of_blk hbo rfl
    go_upto_region 9 with fail
    clear hk6
    go_region_held3 (fun w' : World => w'.cell? ⟨w.heap.size, 0, none⟩ = some (.slice (some a') vs.length c) ∧ w'.cell? (a'.add j) = some (.slice A' l.length c') ∧ w'.cell? ⟨wr.heap.size, 0, none⟩ = some (.string vm) ∧ w'.cell? ⟨wr.heap.size, 1, none⟩ = some (.int .u8 vk) ∧ w'.cell? ⟨wr.heap.size, 2, none⟩ = some (.int .i64 vn))
     (first | with_reducible exact HK1.out | with_reducible exact HK0.out)
     (first
      | (go_at_call 45; refine (HFX.out _).mono ?_; rintro e7 y7 ⟨rfl, by7⟩; have b7 := bl_tt (Below.refl W6.heap.size W6).drew by7; have HK1 := Lib.hid (HSS.out _ b7))
      | fail)
    have HQ7 := Lib.hid (bl_tt HQ6.out b7)
    have HX7 := Lib.hid (blk_bl HX6.out b7)
    clear b7 by7 HK1 HK0 hbo y0 y1 y2 hW6
    by_cases hf : (l.length : Int) = fx
    ·have HJ2 := Lib.hid (HGO.out (by rw [fit1, if_neg HK3.out, HFE.out]; exact decide_eq_true hf))
     have e5 : ((l.length : Int) == fx) = true := by simpa using hf
     have e6 : ((l.length : Int) != fx) = false := by simpa using hf
     clear HGO HNO hf
     go_wp2_with fail
     go_roundw
     case rel => exact ⟨j + 1, by omega, by go_num, HQ7.out, HX7.out, HJ2⟩
     case measure => simp [intOf]; omega
    ·have HX2 := Lib.hid (HNO.out (by rw [fit1, if_neg HK3.out, HFE.out]; exact decide_eq_false hf))
     have e5 : ((l.length : Int) == fx) = false := by simpa using hf
     have e6 : ((l.length : Int) != fx) = true := by simpa using hf
     clear HGO HNO hf
     go_wp2_with fail
     go_ret
     exact ⟨by rw [HX2.out]; rfl, HQ7.out⟩
  ·obtain rfl : j = vs.length := by omega
   have HX2 := Lib.hid (show R = true by
    have := HJ.out
    rw [List.take_of_length_le (Nat.le_refl _), List.take_of_length_le (by rw [HN1.out]; exact Nat.le_refl _)] at this
    rw [HX.out]; exact this)
   clear hbl hbx
   go_wp2_with fail
   go_ret
   exact ⟨by rw [HX2.out]; rfl, HBL.out⟩
end Go.Proofs.YtgnfpcebmefhoaaGreat
namespace Go.Proofs.YtgnfpcebmefhoaaGreat
open Go Go.RowKit
def newS (vs : List VD) (s : SS) : ST := ⟨⟨vs, List.range vs.length, 0⟩, [], fun i => s.cells.getD i [], vs.length, s.tin, s.tout⟩
def FR.snoc (f : FR) (v : VD) (id : Nat) : FR := ⟨f.vs ++ [v], f.cs ++ [id], f.loc⟩
theorem newS_take (vs : List VD) (s : SS) (j : Nat) (hj : j < vs.length) (l : List Int) (hl : s.cells.getD j [] = l) :
  ((newS (vs.take j) s).newCell l).setCur ((newS (vs.take j) s).base.snoc vs[j] j) = newS (vs.take (j + 1)) s := by
 have h0 : ((newS (vs.take j) s).newCell l).calls.length = 0 := rfl
 have e1 : (vs.take j).length = j := by rw [List.length_take]; omega
 have e2 : (vs.take (j + 1)).length = j + 1 := by rw [List.length_take]; omega
 have e3 : vs.take (j + 1) = vs.take j ++ [vs[j]] := List.take_succ_eq_append_getElem hj
 simp only [ST.setCur, h0, if_true]
 simp only [newS, ST.newCell, FR.snoc, e1, e3]
 congr 1
 ·rw [← e3, e2, List.range_succ]
 ·funext i
  by_cases e : i = j
  ·subst e; simp [← hl]
  ·simp [e]
 ·rw [← e3, e2]
theorem fitsL_get : ∀ {vs : List VD} {ls : List (List Int)} (i : Nat) (h : i < vs.length) (h' : i < ls.length), fitsL vs ls = true → fit1 vs[i] ls[i] = true
 | v :: vs, l :: ls, 0, _, _, h => by simp only [fitsL, Bool.and_eq_true] at h; exact h.1
 | v :: vs, l :: ls, i + 1, h, h', h0 => by
  simp only [fitsL, Bool.and_eq_true] at h0
  exact fitsL_get i (by simpa using h) (by simpa using h') h0.2
theorem fitB_all {vs : List VD} {s : SS} (h : fitB vs s = true) : vs.length ≤ 32 ∧ s.cells.length = vs.length ∧ s.tin.length ≤ 4096 ∧ s.tout.length ≤ 4096 ∧ ∀ i (hi : i < vs.length) (hi' : i < s.cells.length), vdB vs[i] = true ∧ fit1 vs[i] s.cells[i] = true := by
 simp only [fitB, svB, Bool.and_eq_true, decide_eq_true_eq] at h
 obtain ⟨⟨⟨⟨⟨h1, h2⟩, h3⟩, h4⟩, h5⟩, h6⟩ := h
 exact ⟨h1, h3, h4, h5, fun i hi hi' => ⟨List.all_eq_true.1 h2 _ (List.getElem_mem hi), fitsL_get i hi hi' h6⟩⟩
theorem newS_WF {vs : List VD} {s : SS} (h : fitB vs s = true) (hf : ∀ v ∈ vs, FldV v) (hc : ∀ l ∈ s.cells, ∀ x ∈ l, I64 x) (hi : ∀ x ∈ s.tin, I64 x) (ho : ∀ x ∈ s.tout, I64 x) (j : Nat) (hj : j ≤ vs.length) : (newS (vs.take j) s).WF := by
 obtain ⟨h32, hlen, h1, h2, hall⟩ := fitB_all h
 have e1 : (vs.take j).length = j := by rw [List.length_take]; omega
 refine ⟨⟨fun i => ((vs.getD i ⟨⟨#[]⟩, 0, 0⟩).k, (vs.getD i ⟨⟨#[]⟩, 0, 0⟩).n), ⟨by simp [newS], by simp [newS], by simp only [newS, e1]; omega, fun v hv => hf v (List.mem_of_mem_take hv), fun c hc => by simpa [newS] using hc, fun i hi hi' => ?_⟩, by simp [newS], fun i hi => ?_⟩, by simp [newS], fun i hi => ?_, ⟨h1, hi⟩, ⟨h2, ho⟩⟩
 ·simp only [newS, e1] at hi hi' ⊢
  have : i < vs.length := by omega
  simp [this]
 ·simp only [newS, e1] at hi ⊢
  have hv : i < vs.length := by omega
  have hv' : i < s.cells.length := by omega
  obtain ⟨a1, a2⟩ := hall i hv hv'
  simp only [List.getD_eq_getElem?_getD, List.getElem?_eq_getElem hv, List.getElem?_eq_getElem hv', Option.getD_some]
  unfold vdB at a1
  unfold fit1 at a2
  refine ⟨fun hk => ?_, fun hk => ?_, ?_⟩
  ·rw [if_neg (by omega)] at a2
   have := of_decide_eq_true a2
   simp only [fixE, hk, if_true] at this
   omega
  ·rw [if_neg (by omega)] at a2
   have := of_decide_eq_true a2
   simp only [fixE, hk] at this
   simpa using this
  ·split at a1
   ·next h => rcases h with h | h <;> simp [h]
   ·split at a1
    ·next h => simp [h]
    ·cases a1
 ·simp only [newS, e1] at hi ⊢
  have hv : i < vs.length := by omega
  have hv' : i < s.cells.length := by omega
  obtain ⟨a1, a2⟩ := hall i hv hv'
  simp only [List.getD_eq_getElem?_getD, List.getElem?_eq_getElem hv', Option.getD_some]
  refine ⟨?_, hc _ (List.getElem_mem hv')⟩
  unfold vdB at a1
  unfold fit1 at a2
  split at a2
  ·exact of_decide_eq_true a2
  ·have := of_decide_eq_true a2
   unfold fixE at this
   split at this
   ·omega
   ·next hk hk1 =>
    rw [if_neg (by omega)] at a1
    split at a1
    ·have := of_decide_eq_true a1
     omega
    ·cases a1
theorem newCell_row {W w2 : World} {n0 : Nat} {P : Ph} {S : ST} (h : SR W n0 P S) (hb : Below W.heap.size W w2) (v : Value) (l : List Int) (ho : w2.ownsRow W.heap.size 3 1 v l.length (flatI l)) :
  Stp n0 (rows P S) W (rows (P.newCell S w2.heap.size v) (S.newCell l)) (w2.alloc (.cells #[v] 128)) := by
 have hn : n0 ≤ W.heap.size := by have := h.rws.lt .sb P.sb rfl; omega
 have hs := hb.size
 have s1 := Stp.take2 (W' := w2.alloc (.cells #[v] 128)) h.rws (bl_al hb _) (.cb S.nc) (.ci S.nc) (by simp) ⟨boxV w2.heap.size, 128, 1, 1, [v]⟩ ⟨v, 3, 1, l.length, flatI l⟩
  (own_new w2 n0 _ [_] (by omega) rfl) (own_mono (ho.alloc _) hn) (fun b e => by simp [Value.ownBlock] at e; omega) (fun b e => (ho.lt b e).1) (fun b e e2 => by simp [Value.ownBlock] at e; have := (ho.lt b e2).2; omega)
 exact s1.cast (rows_newCell h.wf P w2.heap.size v l).symm
theorem snoc_fin {W W' : World} {n0 : Nat} {P : Ph} {S : ST} (v : VD) (id : Nat) (vv vc : Value) (hlen : S.cur.cs.length = S.cur.vs.length)
  (hst : Stp n0 (rows P S) W (updR (updR (updR (rows P S) (vI S) ⟨vv, 58, 3, S.cur.vs.length + 1, flatV S.cur.vs ++ [.string v.s, .int .u8 v.k, .int .i64 v.n]⟩) (cI S) ⟨vc, 126, 1, S.cur.vs.length + 1, ptrs P.cb S.cur.cs ++ [.pointer (some ⟨P.cb id, 0, none⟩)]⟩) (hI S) { rows P S (hI S) with xs := ((rows P S (hI S)).xs.set (oI S) vv).set (oI S + 1) vc }) W') :
  Stp n0 (rows P S) W (rows (P.setCur S vv vc) (S.setCur (S.cur.snoc v id))) W' := by
 refine hst.cast ?_
 rw [rows_setCur]
 obtain ⟨_, _, g3⟩ := hold_get P S
 have e1 : (S.cur.snoc v id).vs.length = S.cur.vs.length + 1 := by simp [FR.snoc]
 have e2 : (S.cur.snoc v id).cs.length = S.cur.vs.length + 1 := by simp [FR.snoc, hlen]
 have e3 : flatV (S.cur.snoc v id).vs = flatV S.cur.vs ++ [.string v.s, .int .u8 v.k, .int .i64 v.n] := flatV_snoc _ _
 have e4 : ptrs P.cb (S.cur.snoc v id).cs = ptrs P.cb S.cur.cs ++ [.pointer (some ⟨P.cb id, 0, none⟩)] := by simp [FR.snoc, ptrs]
 rw [e1, e2, e3, e4]
 have e5 : (((rows P S (hI S)).xs.set (oI S) vv).set (oI S + 1) vc).set (oI S + 2) (.int .i64 (S.cur.snoc v id).loc) = ((rows P S (hI S)).xs.set (oI S) vv).set (oI S + 1) vc := by
  have hl : oI S + 2 < (rows P S (hI S)).xs.length := (List.getElem?_eq_some_iff.1 g3).1
  refine List.ext_getElem? fun q => ?_
  by_cases e : q = oI S + 2
  ·subst e
   rw [List.getElem?_set_self (by simpa using hl), List.getElem?_set_ne (by omega), List.getElem?_set_ne (by omega), g3]
   rfl
  ·rw [List.getElem?_set_ne (by omega)]
 rw [e5]
theorem newS_start {W w2 w3 : World} {vI vO : Value} {tb : Nat} {s : SS} (hwf : (newS [] s).WF) (hb : Below W.heap.size W w2) (h1 : w2.heap[tb]? = some (.cells #[vI, vO] 154 (0, 0))) (ht : W.heap.size ≤ tb)
  (o1 : w2.ownsRow W.heap.size 3 1 vI s.tin.length (flatI s.tin)) (o2 : w2.ownsRow W.heap.size 3 1 vO s.tout.length (flatI s.tout)) (n1 : vI.ownBlock ≠ some tb) (n2 : vO.ownBlock ≠ some tb) (n3 : ∀ b, vI.ownBlock = some b → vO.ownBlock ≠ some b)
  (hw : w3 = w2.alloc (.cells #[.slice none 0 0, .slice none 0 0, .int .i64 0, .slice none 0 0, .pointer (some ⟨tb, 0, none⟩)] 124)) :
  SR w3 W.heap.size ⟨w2.heap.size, tb, vI, vO, .slice none 0 0, .slice none 0 0, .slice none 0 0, fun _ => .slice none 0 0, fun _ => .slice none 0 0, fun _ => 0, fun _ => .slice none 0 0⟩ (newS [] s) := by
 subst hw
 have hs := hb.size
 have htb := blk_lt h1
 refine ⟨⟨fun i => ?_, ?_⟩, hwf⟩
 ·cases i with
  | sb => exact own_new w2 W.heap.size _ [_, _, _, _, _] hs rfl
  | tb => exact ⟨rfl, .inr ⟨tb, 1, #[vI, vO], rfl, ht, blk_al h1 _, Nat.le_refl _, by decide, rfl, rfl⟩⟩
  | tin => exact o1.alloc _
  | tout => exact o2.alloc _
  | bv => exact World.ownsRow_nil _ _ _ _
  | bc => exact World.ownsRow_nil _ _ _ _
  | calls => exact World.ownsRow_nil _ _ _ _
  | fv i => exact World.ownsRow_nil _ _ _ _
  | fc i => exact World.ownsRow_nil _ _ _ _
  | cb i => simp only [rows, newS, List.length_nil, Nat.not_lt_zero, if_false]; exact World.ownsRow_nil _ _ _ _
  | ci i => simp only [rows, newS, List.length_nil, Nat.not_lt_zero, if_false]; exact World.ownsRow_nil _ _ _ _
  | x i => exact World.ownsRow_nil _ _ _ _
 ·have key : ∀ (i : Res) b, (rows ⟨w2.heap.size, tb, vI, vO, .slice none 0 0, .slice none 0 0, .slice none 0 0, fun _ => .slice none 0 0, fun _ => .slice none 0 0, fun _ => 0, fun _ => .slice none 0 0⟩ (newS [] s) i).v.ownBlock = some b → (i = .sb ∧ b = w2.heap.size) ∨ (i = .tb ∧ b = tb) ∨ (i = .tin ∧ vI.ownBlock = some b) ∨ (i = .tout ∧ vO.ownBlock = some b) := fun i b hb => by
   cases i with
   | sb => simp [rows, Value.ownBlock] at hb; exact .inl ⟨rfl, hb.symm⟩
   | tb => simp [rows, Value.ownBlock] at hb; exact .inr (.inl ⟨rfl, hb.symm⟩)
   | tin => exact .inr (.inr (.inl ⟨rfl, hb⟩))
   | tout => exact .inr (.inr (.inr ⟨rfl, hb⟩))
   | bv => simp [rows, Value.ownBlock] at hb
   | bc => simp [rows, Value.ownBlock] at hb
   | calls => simp [rows, Value.ownBlock] at hb
   | fv i => simp [rows, newS, nilR, Value.ownBlock] at hb
   | fc i => simp [rows, newS, nilR, Value.ownBlock] at hb
   | cb i => simp [rows, newS, nilR, Value.ownBlock] at hb
   | ci i => simp [rows, newS, nilR, Value.ownBlock] at hb
   | x i => simp [rows, nilR, Value.ownBlock] at hb
  intro i j b hij h1 h2
  have l1 := fun b (e : vI.ownBlock = some b) => (o1.lt b e).2
  have l2 := fun b (e : vO.ownBlock = some b) => (o2.lt b e).2
  rcases key i b h1 with ⟨e1, a1⟩ | ⟨e1, a1⟩ | ⟨e1, a1⟩ | ⟨e1, a1⟩ <;> rcases key j b h2 with ⟨e2, a2⟩ | ⟨e2, a2⟩ | ⟨e2, a2⟩ | ⟨e2, a2⟩
  ·exact hij (e1.trans e2.symm)
  ·omega
  ·have := l1 b a2; omega
  ·have := l2 b a2; omega
  ·omega
  ·exact hij (e1.trans e2.symm)
  ·subst a1; exact n1 a2
  ·subst a1; exact n2 a2
  ·have := l1 b a1; omega
  ·subst a2; exact n1 a1
  ·exact hij (e1.trans e2.symm)
  ·exact n3 b a1 a2
  ·have := l2 b a1; omega
  ·subst a2; exact n2 a1
  ·exact n3 b a2 a1
  ·exact hij (e1.trans e2.symm)
theorem Rws.mono {I : Type} {W : World} {n0 n1 : Nat} {d : I → RowD} (h : Rws W n1 d) (hn : n0 ≤ n1) : Rws W n0 d := ⟨fun i => own_mono (h.row i) hn, h.sep⟩
theorem SR.mono {W : World} {n0 n1 : Nat} {P : Ph} {S : ST} (h : SR W n1 P S) (hn : n0 ≤ n1) : SR W n0 P S := ⟨h.rws.mono hn, h.wf⟩
theorem add_new {vs : List VD} {s : SS} {j : Nat} {hj : j < vs.length} {l : List Int} {hl : s.cells.getD j [] = l} {W : World} {n1 : Nat} {P : Ph} (h : Rws W n1 (rows P ((newS (vs.take j) s).newCell l))) (hm : j ≤ 1000) (sb b : Nat) (hsb : P.sb = sb) (hb : P.cb j = b) (v : VD) (hv : vs[j] = v) :
  Calls Tryz.prog 68 [.pointer (some ⟨sb, 0, none⟩), .agg #[.string v.s, .int .u8 v.k, .int .i64 v.n], .pointer (some ⟨b, 0, none⟩)].toArray W fun e W' => ∃ u, e = .returned u ∧ ∃ P', Stp n1 (rows P ((newS (vs.take j) s).newCell l)) W (rows P' (newS (vs.take (j + 1)) s)) W' ∧ P'.sb = sb := by
 subst hsb hb hv
 have e1 : (vs.take j).length = j := by rw [List.length_take]; omega
 have hadd := add_any h .sb .bv .bc (by simp) (by simp) (by simp) P.sb 0 rfl rfl rfl (flatV (vs.take j)) (ptrs P.cb (List.range j)) j (by simp [rows, newS, ST.newCell, e1]) (by simp [rows, newS, ST.newCell, e1]) (by omega) vs[j] (some ⟨P.cb j, 0, none⟩)
 refine hadd.mono ?_
 rintro e W' ⟨⟨u, hu⟩, vv, vc, hst⟩
 refine ⟨u, hu, P.setCur ((newS (vs.take j) s).newCell l) vv vc, ?_, ?_⟩
 ·have := snoc_fin (P := P) (S := (newS (vs.take j) s).newCell l) (W := W) (W' := W') (n0 := n1) vs[j] j vv vc (by simp [ST.cur, newS, ST.newCell]) (by
   have e2 : ((newS (vs.take j) s).newCell l).cur.vs.length = j := e1
   have e3 : ((newS (vs.take j) s).newCell l).cur.cs = List.range j := by show List.range (vs.take j).length = _; rw [e1]
   rw [e2, e3]
   exact hst)
  rw [show ((newS (vs.take j) s).newCell l).setCur (((newS (vs.take j) s).newCell l).cur.snoc vs[j] j) = newS (vs.take (j + 1)) s from newS_take vs s j hj l hl] at this
  exact this
 ·unfold Ph.setCur; split <;> rfl
theorem fnCloneI : IsFn Tryz.prog 34 Tryz.f34 := ⟨Tryz.func34, by kernel_rfl, by kernel_rfl⟩
theorem buildSt (p : Option Addr) (w : World) : (Instr.build 124 #[(2, .pointer p)]).run Tryz.prog w = .ok (.agg #[.slice none 0 0, .slice none 0 0, .int .i64 0, .slice none 0 0, .pointer p]) w := by kernel_rfl
theorem buildCe (A : Option Addr) (l c : Nat) (w : World) : (Instr.build 128 #[(0, .slice A l c)]).run Tryz.prog w = .ok (.agg #[.slice A l c]) w := by kernel_rfl
def NewP (vs : List VD) (s : SS) (w : World) (e : Ending) (w' : World) : Prop := Below w.heap.size w w' ∧
 ((fitB vs s = false ∧ e = .returned (.tuple #[.pointer none, .int .i64 3])) ∨ (fitB vs s = true ∧ ∃ P : Ph, e = .returned (.tuple #[.pointer (some ⟨P.sb, 0, none⟩), .int .i64 0]) ∧ SR w' w.heap.size P (newS vs s)))
set_option maxHeartbeats 4000000 in
set_option maxRecDepth 100000 in
theorem New_any (vs : List VD) (s : SS) (A : Option Addr) (c : Nat) (v : Value) (w : World) (hrow : RowV w Any A vs) (hl : vs.length ≤ LV) (hv : SV w Any s v) : Calls Tryz.prog 47 #[.slice A vs.length c, v] w (NewP vs s w) := by
 have HFT := Lib.hid (fun w' (hb : Below w.heap.size w w') => Fits_any vs s A c v w' (hrow.later hb) hl (hv.later hb))
 obtain ⟨AC, cC, AI, cI', AO, cO, rfl, hr1, hr2, hr3, hc1, hc2, hc3, hl1, hl2, hl3, hl4⟩ := hv
 have hl' := LV_int hl
 have HF := Lib.hid (show ∀ u ∈ vs, FldV u from fun u hu => by
  obtain ⟨q, hq, rfl⟩ := List.mem_iff_getElem.1 hu
  obtain ⟨_, _, _, _, hfq⟩ := hrow q hq
  exact hfq)
 have HCF := Lib.hid (show ∀ l ∈ s.cells, ∀ x ∈ l, I64 x from fun l hl => by
  obtain ⟨q, hq, rfl⟩ := List.mem_iff_getElem.1 hl
  obtain ⟨_, _, _, _, _, _, _, hr⟩ := hr1 q hq
  exact hr.fits)
 have HIF := Lib.hid hr2.fits
 have HOF := Lib.hid hr3.fits
 have HROW := Lib.hid hrow
 have HR1 := Lib.hid hr1
 have HR2 := Lib.hid hr2
 have HR3 := Lib.hid hr3
 have HL2 := Lib.hid hl2
 obtain ⟨R, hR⟩ : ∃ R, fitB vs s = R := ⟨_, rfl⟩
 have HR := Lib.hid hR
 rw [hR] at HFT
 obtain ⟨n1, hn1⟩ : ∃ n, s.cells.length = n := ⟨_, rfl⟩
 obtain ⟨n2, hn2⟩ : ∃ n, s.tin.length = n := ⟨_, rfl⟩
 obtain ⟨n3, hn3⟩ : ∃ n, s.tout.length = n := ⟨_, rfl⟩
 have HN1 := Lib.hid hn1
 have HN2 := Lib.hid hn2
 have HN3 := Lib.hid hn3
 rw [hn1, hn2, hn3] at HFT
 rw [hn1, hn2, hn3]
 clear hrow hr1 hr2 hr3 hc1 hc2 hc3 hl1 hl2 hl3 hl4 hl hR hn1 hn2 hn3
 go_enter Tryz.func47, Tryz.ntmps47
 go_wp2_with fail
 refine (HFT.out _ (bl_al (Below.refl _ _) _)).mono ?_
 rintro e9 w1 ⟨rfl, bw1⟩
 have HB1 := Lib.hid (bl_tt (bl_al (Below.refl w.heap.size w) _) bw1)
 have hP := blk_bl (heap_alloc_new w (.cells #[.slice AC n1 cC, .slice AI n2 cI', .slice AO n3 cO] 32)) bw1
 clear bw1
 cases R
 ·go_wp2_with fail
  go_ret2
  exact ⟨HB1.out, .inl ⟨HR.out, rfl⟩⟩
 ·obtain ⟨h32, hlen, h4i, h4o, hall⟩ := fitB_all HR.out
  have HALL := Lib.hid hall
  have HLEN := Lib.hid hlen
  have HTN := Lib.hid (TNew_any s.tin s.tout AI AO cI' cO w1 (HR2.out.later HB1.out) (HR3.out.later HB1.out) h4i h4o)
  rw [HN2.out, HN3.out] at HTN
  have x1 : w1.cell? ⟨w.heap.size, 1, none⟩ = some (.slice AI n2 cI') := cell_of_blk hP rfl
  have x2 : w1.cell? ⟨w.heap.size, 2, none⟩ = some (.slice AO n3 cO) := cell_of_blk hP rfl
  have HP0 := Lib.hid hP
  have hbst := buildSt
  clear hlen h4i h4o hall hP
  go_wp2_with fail
  refine HTN.out.mono ?_
  rintro e9 w2 ⟨tb, vI, vO, rfl, ht, h1, o1, o2, t1, t2, t3, bw2⟩
  rw [← HN2.out] at o1
  rw [← HN3.out] at o2
  have HSR := Lib.hid (newS_start (newS_WF HR.out HF.out HCF.out HIF.out HOF.out 0 (Nat.zero_le _)) bw2 h1 ht o1 o2 t1 t2 t3 rfl)
  have HB2 := Lib.hid bw2
  clear ht h1 o1 o2 t1 t2 t3 bw2 x1 x2
  go_wp2_with fail
  go_loopw [30] (fun i wr => ∃ j : Nat, j ≤ vs.length ∧ i = .int .i64 j ∧ Hid (Below w1.heap.size w1 wr) ∧ ∃ P : Ph, Hid (SR wr w1.heap.size P (newS (vs.take j) s)) ∧ Hid (P.sb = w2.heap.size)) (fun i _ => vs.length - (intOf i).toNat)
  case atStart => exact ⟨0, Nat.zero_le _, rfl, Lib.hid (bl_al HB2.out _), _, HSR, Lib.hid rfl⟩
  case round =>
   obtain ⟨j, hj, rfl, HBL, P, HS, HSB⟩ := hrel
   by_cases hlt : j < vs.length
   ·have hlc : j < s.cells.length := by rw [HLEN.out]; exact hlt
    obtain ⟨a, rfl, -, ⟨y0, y1, y2⟩, -⟩ := ((HROW.out.later HB1.out).later HBL.out) j hlt
    obtain ⟨b, l, A', c', rfl, Hl, x0, -, hri⟩ := ((HR1.out.later HB1.out).later HBL.out).nd hlc
    have HBB := Lib.hid (show b.block < w.heap.size by
     obtain ⟨a', _, _, hA, _, hcw, _⟩ := HR1.out j hlc
     injection hA with hA
     have := World.block_lt_of_cell? w _ hcw
     rw [block_add, ← hA] at this
     exact this)
    obtain ⟨v, hv⟩ : ∃ v, vs[j] = v := ⟨_, rfl⟩
    rw [hv] at y0 y1 y2
    have Hv := Lib.hid hv
    have hll : l.length ≤ LI := by rw [← Hl.out]; exact HL2.out _ (List.getElem_mem hlc)
    have Hgd := Lib.hid (show s.cells.getD j [] = l by rw [← Hl.out]; simp [hlc])
    obtain ⟨vm, vk, vn⟩ := v
    dsimp only at y0 y1 y2
    have hj1 : (j : Int) < (vs.length : Int) := by omega
    have hj2 : (j : Int) < (n1 : Int) := by have := HN1.out; have := HLEN.out; omega
    have HRI := Lib.hid hri
    have z0 : wr.cell? ⟨w.heap.size, 0, none⟩ = some (.slice (some b) n1 cC) := cell_bl HBL.out (cell_of_blk HP0.out rfl)
    have hbx := buildCe
    clear hri hv
    go_upto_region 10 with fail
    obtain ⟨wa, hwa⟩ : ∃ wa, wr.alloc (.cells #[.string vm, .int .u8 vk, .int .i64 vn] 58) = wa := ⟨_, rfl⟩
    have hba : Below wr.heap.size wr wa := hwa ▸ bl_al (Below.refl _ _) _
    have hvb : wa.heap[wr.heap.size]? = some (.cells #[.string vm, .int .u8 vk, .int .i64 vn] 58 (0, 0)) := hwa ▸ heap_alloc_new wr _
    rw [hwa]
    have q0 : wa.cell? ⟨wr.heap.size, 0, none⟩ = some (.string vm) := cell_of_blk hvb rfl
    have q1 : wa.cell? ⟨wr.heap.size, 1, none⟩ = some (.int .u8 vk) := cell_of_blk hvb rfl
    have q2 : wa.cell? ⟨wr.heap.size, 2, none⟩ = some (.int .i64 vn) := cell_of_blk hvb rfl
    have q3 := cell_bl hba z0
    have q4 := cell_bl hba x0
    have HBA := Lib.hid hba
    clear hwa hba hvb y0 y1 y2 x0 z0
    obtain ⟨S1, hS1⟩ : ∃ S1 : World → Prop, S1 = fun w' : World => w'.cell? ⟨wr.heap.size, 0, none⟩ = some (.string vm) ∧ w'.cell? ⟨wr.heap.size, 1, none⟩ = some (.int .u8 vk) ∧ w'.cell? ⟨wr.heap.size, 2, none⟩ = some (.int .i64 vn) ∧ w'.cell? ⟨w.heap.size, 0, none⟩ = some (.slice (some b) n1 cC) ∧ w'.cell? (b.add j) = some (.slice A' l.length c') := ⟨_, rfl⟩
    have HSa := Lib.hid (show S1 wa by rw [hS1]; exact ⟨q0, q1, q2, q3, q4⟩)
    have HSk := Lib.hid (show ∀ W W', S1 W → (∀ p u, W.cell? p = some u → (p.block = wr.heap.size ∨ p.block = w.heap.size ∨ p.block = b.block) → W'.cell? p = some u) → S1 W' by
     rw [hS1]
     rintro W W' ⟨a0, a1, a2, a3, a4⟩ hk
     exact ⟨hk _ _ a0 (.inl rfl), hk _ _ a1 (.inl rfl), hk _ _ a2 (.inl rfl), hk _ _ a3 (.inr (.inl rfl)), hk _ _ a4 (.inr (.inr (block_add b j)))⟩)
    have HSb := Lib.hid (show ∀ W W', S1 W → Below W.heap.size W W' → S1 W' from fun W W' h hb => HSk.out W W' h fun p u hp _ => cell_bl hb hp)
    have hSS : S1 wa.drew ∧ (fun _ : World => True) wa.drew := ⟨HSb.out _ _ HSa.out (Below.refl _ _).drew, trivial⟩
    refine wp_region_noPanic ?_
    refine wp_region_G S1 (fun _ : World => True) 12 (by kernel_rfl) ?_
    subst hS1
    refine wpG_take1 (i := 0) (v := ?_) rfl (by kernel_rfl) (by kernel_rfl) (by kernel_rfl) (by decide) (fun _ _ _ h => h) (Or.inl ⟨by rfl, ?_⟩) hSS ?_
    rotate_left 1
    ·(intro w hSw; (try dsimp only at hSw); (try simp only [zA, zC]); go_simp; (try with_reducible rfl))
    (try simp only [Act.put, zA, zC, zD, zE, zF])
    refine wpG_take1 (i := 1) (v := ?_) rfl (by kernel_rfl) (by kernel_rfl) (by kernel_rfl) (by decide) (fun _ _ _ h => h) (Or.inl ⟨by rfl, ?_⟩) hSS ?_
    rotate_left 1
    ·(intro w hSw; (try dsimp only at hSw); (try simp only [zA, zB, zC]); go_simp; (try with_reducible rfl))
    (try simp only [Act.put, zA, zB, zC, zD, zE, zF])
    refine wpG_take1 (i := 2) (v := ?_) rfl (by kernel_rfl) (by kernel_rfl) (by kernel_rfl) (by decide) (fun _ _ _ h => h) (Or.inl ⟨by rfl, ?_⟩) hSS ?_
    rotate_left 1
    ·(intro w hSw; (try dsimp only at hSw); (try simp only [zA, zB, zC]); go_simp; (try with_reducible rfl))
    (try simp only [Act.put, zA, zB, zC, zD, zE, zF])
    refine wpG_take1 (i := 3) (v := ?_) rfl (by kernel_rfl) (by kernel_rfl) (by kernel_rfl) (by decide) (fun _ _ _ h => h) (Or.inl ⟨by rfl, ?_⟩) hSS ?_
    rotate_left 1
    ·(intro w hSw; (try dsimp only at hSw); (try simp only [zA, zB, zC]); go_simp; (try with_reducible rfl))
    (try simp only [Act.put, zA, zB, zC, zD, zE, zF])
    refine wpG_take1 (i := 4) (v := ?_) rfl (by kernel_rfl) (by kernel_rfl) (by kernel_rfl) (by decide) (fun _ _ _ h => h) (Or.inl ⟨by rfl, ?_⟩) hSS ?_
    rotate_left 1
    ·(intro w hSw; (try dsimp only at hSw); (try simp only [zA, zB, zC]); go_simp; (try with_reducible rfl))
    (try simp only [Act.put, zA, zB, zC, zD, zE, zF])
    refine wpG_take1 (i := 5) (v := ?_) rfl (by kernel_rfl) (by kernel_rfl) (by kernel_rfl) (by decide) (fun _ _ _ h => h) (Or.inl ⟨by rfl, ?_⟩) hSS ?_
    rotate_left 1
    ·(intro w hSw; (try dsimp only at hSw); (try simp only [zA, zB, zC]); go_simp; (try with_reducible rfl))
    (try simp only [Act.put, zA, zB, zC, zD, zE, zF])
    refine wpG_take1 (i := 6) (v := ?_) rfl (by kernel_rfl) (by kernel_rfl) (by kernel_rfl) (by decide) (fun _ _ _ h => h) (Or.inl ⟨by rfl, ?_⟩) hSS ?_
    rotate_left 1
    ·(intro w hSw; (try dsimp only at hSw); (try simp only [zA, zB, zC]); go_simp; (try with_reducible rfl))
    (try simp only [Act.put, zA, zB, zC, zD, zE, zF])
    refine wpG_take1 (i := 7) (v := ?_) rfl (by kernel_rfl) (by kernel_rfl) (by kernel_rfl) (by decide) (fun _ _ _ h => h) (Or.inl ⟨by rfl, ?_⟩) hSS ?_
    rotate_left 1
    ·(intro w hSw; (try dsimp only at hSw); (try simp only [zA, zB, zC]); go_simp; (try with_reducible rfl))
    (try simp only [Act.put, zA, zB, zC, zD, zE, zF])
    refine wpG_take1 (i := 8) (v := ?_) rfl (by kernel_rfl) (by kernel_rfl) (by kernel_rfl) (by decide) (fun _ _ _ h => h) (Or.inl ⟨by rfl, ?_⟩) hSS ?_
    rotate_left 1
    ·(intro w hSw; (try dsimp only at hSw); (try simp only [zA, zB, zC]); go_simp; (try with_reducible rfl))
    (try simp only [Act.put, zA, zB, zC, zD, zE, zF])
    have had : Calls Tryz.prog 34 [.slice A' l.length c'].toArray wa.drew fun e w' => ∃ u, e = .returned u ∧ w'.ownsRow wa.drew.heap.size 3 1 u l.length (flatI l) ∧ Below wa.drew.heap.size wa.drew w' :=
     (CloneI_own l A' c' Any wa.drew ((HRI.out.later HBA.out).later (Below.refl _ _).drew) hll).mono fun e w' ⟨u, hu, h1, _, h2⟩ => ⟨u, hu, h1, h2⟩
    refine wpG_one (i := 9) (by kernel_rfl) rfl (fun K hK => ?_)
    refine step_callL (by rfl) (.func 34) [.tmp 43] _ (by rfl) 34 _ fnCloneI (by rfl) _ (by rfl) _ had ?_
    rintro v4 w4 ⟨ho4, hb4⟩
    obtain ⟨A4, c4, rfl, -, -⟩ := row_slice ho4
    have HO4 := Lib.hid ho4
    have HB4 := Lib.hid hb4
    have HS4 := Lib.hid (HSb.out _ _ hSS.1 hb4)
    refine hK.out _ _ ⟨HS4.out, trivial⟩ ?_
    clear hK K hSS had ho4 hb4 q0 q1 q2 q3 q4
    (try simp only [Act.put, zA, zB, zC, zD, zE, zF])
    refine wpG_one (i := 10) (by kernel_rfl) rfl (fun K hK => ?_)
    (try simp only [zA, zB, zC])
    go_simp
    refine hK.out _ _ ⟨HS4.out, trivial⟩ ?_
    clear hK K
    (try simp only [Act.put, zA, zB, zC, zD, zE, zF])
    refine wpG_one (i := 11) (by kernel_rfl) rfl (fun K hK => ?_)
    (try simp only [zA, zB, zC])
    go_simp
    have HS5 := Lib.hid (HSb.out _ _ HS4.out (bl_al (Below.refl _ _) (.cells #[.slice A4 l.length c4] 128)))
    refine hK.out _ _ ⟨HS5.out, trivial⟩ ?_
    clear hK K
    (try simp only [Act.put, zA, zB, zC, zD, zE, zF])
    have e1 : (vs.take j).length = j := by rw [List.length_take]; omega
    have s1 := newCell_row ((HS.out.later HBA.out).later (Below.refl _ _).drew) HB4.out (.slice A4 l.length c4) l HO4.out
    have had := add_new (hj := hlt) (hl := Hgd.out) s1.rws (by omega) w2.heap.size w4.heap.size HSB.out (by simp [Ph.newCell, newS, e1]) ⟨vm, vk, vn⟩ Hv.out
    dsimp only at had
    refine wpG_past (i := 12) (by kernel_rfl) rfl (by kernel_rfl) (fun K hK => ?_)
    refine step_callL (by rfl) (.func 68) [.tmp 37, .tmp 38, .tmp 46] _ (by rfl) 68 _ fnAdd (by rfl) _ (by rfl) _ had ?_
    rintro v6 w6 ⟨P', hst, hsb'⟩
    have hza : wr.heap.size < wa.drew.heap.size := World.block_lt_of_cell? _ _ HSa.out.1
    have hzw : w.heap.size < w1.heap.size := blk_lt HP0.out
    have hBl := HBL.out.size
    have hown : ∀ b', OwnB (rows (P.newCell (newS (vs.take j) s) w4.heap.size (.slice A4 l.length c4)) ((newS (vs.take j) s).newCell l)) b' → w1.heap.size ≤ b' ∧ b' ≠ wr.heap.size := fun b' hb' => by
     rcases s1.own b' hb' with ⟨q, hq⟩ | hq
     ·have := HS.out.rws.lt q b' hq; omega
     ·omega
    have hS6 := HSk.out _ _ HS5.out fun p u hp hpb => chg_cell hst.chg hp fun hb' => by
     have h1 := hown _ hb'
     have h2 := HBB.out
     rcases hpb with e | e | e <;> rw [e] at h1 <;> omega
    refine hK.out _ _ hS6 ?_
    have HST := Lib.hid (show SR w6 w1.heap.size P' (newS (vs.take (j + 1)) s) from ⟨hst.rws, newS_WF HR.out HF.out HCF.out HIF.out HOF.out (j + 1) hlt⟩)
    have HB6 := Lib.hid (show Below w1.heap.size w1 w6 by
     have b4 : Below w1.heap.size w1 w4 := bl_tt (bl_tt HBL.out HBA.out).drew HB4.out
     have b5 : Below w1.heap.size w1 (w4.alloc (.cells #[.slice A4 l.length c4] 128)) := bl_al b4 _
     exact b5.trans (hst.chg.below b5.size fun b' hb' => (hown b' hb').1))
    have HSB' := Lib.hid hsb'
    clear hK K hst had s1 hown hsb' hS6
    (try simp only [Act.put, zA, zB, zC, zD, zE, zF])
    refine wpG_done (by kernel_rfl) ?_
    refine NoPanic.normal ?_
    go_wp2_with fail
    go_roundw
    case rel => exact ⟨j + 1, by omega, by go_num, HB6, P', HST, HSB'⟩
    case measure => simp [intOf]; omega
   ·obtain rfl : j = vs.length := by omega
    have hj1 : ¬ (vs.length : Int) < (vs.length : Int) := by omega
    go_wp2_with fail
    go_ret2
    refine ⟨HB1.out.trans (HBL.out.mono ?_), .inr ⟨HR.out, P, by rw [HSB.out]; rfl, ?_⟩⟩
    ·have := HB1.out.size; omega
    ·have h1 := HS.out
     rw [List.take_of_length_le (Nat.le_refl _)] at h1
     exact h1.mono HB1.out.size
end Go.Proofs.YtgnfpcebmefhoaaGreat
namespace Go.Proofs.YtgnfpcebmefhoaaGreat
open Go Go.RowKit
def rowsM (vc : Value) (fc : Nat → Value) (ls : List (List Int)) (j : Nat) : Option Nat → RowD
 | none => ⟨vc, 30, 1, ls.length, (List.range ls.length).map fun i => if i < j then fc i else .slice none 0 0⟩
 | some i => if i < j then ⟨fc i, 3, 1, (ls.getD i []).length, flatI (ls.getD i [])⟩ else nilR
inductive SI where
 | all | el (i : Nat) | inp | out
 deriving DecidableEq
def rowsS (vc vi vo : Value) (fc : Nat → Value) (s : SS) : SI → RowD
 | .all => ⟨vc, 30, 1, s.cells.length, (List.range s.cells.length).map fc⟩
 | .el i => if i < s.cells.length then ⟨fc i, 3, 1, (s.cells.getD i []).length, flatI (s.cells.getD i [])⟩ else nilR
 | .inp => ⟨vi, 3, 1, s.tin.length, flatI s.tin⟩
 | .out => ⟨vo, 3, 1, s.tout.length, flatI s.tout⟩
def SS.I (s : SS) : Prop := (∀ l ∈ s.cells, ∀ x ∈ l, I64 x) ∧ (∀ x ∈ s.tin, I64 x) ∧ ∀ x ∈ s.tout, I64 x
def OwnS (W : World) (n0 : Nat) (s : SS) (v : Value) : Prop := ∃ vc vi vo fc, v = .agg #[vc, vi, vo] ∧ Rws W n0 (rowsS vc vi vo fc s) ∧ s.I
theorem madeCells_one (z : Value) (n : Nat) : madeCells #[z] n = Array.replicate n z := by
 unfold madeCells
 refine Array.ext (by simp) fun i h1 h2 => ?_
 simp [Nat.mod_one]
theorem rowsM_new (w : World) (fc : Nat → Value) (ls : List (List Int)) (n : Nat) (hn : ls.length = n) (hm : n ≤ maxLen) : Rws (w.alloc (.cells (madeCells #[.slice none 0 0] n) 30)) w.heap.size (rowsM (.slice (some ⟨w.heap.size, 0, none⟩) n n) fc ls 0) := by
 refine ⟨fun i => ?_, fun i j b hij hi hj => ?_⟩
 ·cases i with
  | none =>
   refine ⟨by simp [rowsM], .inr ⟨w.heap.size, n, madeCells #[.slice none 0 0] n, by simp [rowsM, hn], Nat.le_refl _, heap_alloc_new w _, by simp [rowsM, hn], hm, by simp [rowsM, size_madeCells], ?_⟩⟩
   rw [madeCells_one]
   simp only [rowsM, hn, Array.toList_replicate, Nat.mul_one, List.take_replicate, Nat.min_self, Nat.not_lt_zero, if_false]
   exact List.ext_getElem (by simp) fun i h1 h2 => by simp
  | some i => simp only [rowsM, Nat.not_lt_zero, if_false]; exact ownsRow_nilR _ _
 ·cases i with
  | some i => simp [rowsM, nilR, Value.ownBlock] at hi
  | none =>
   cases j with
   | none => exact hij rfl
   | some j => simp [rowsM, nilR, Value.ownBlock] at hj
theorem rowsM_step {W W2 : World} {n1 g n c j : Nat} {fc : Nat → Value} {ls : List (List Int)} (h : Rws W n1 (rowsM (.slice (some ⟨g, 0, none⟩) n c) fc ls j)) (hb : Below W.heap.size W W2) (hj : j < ls.length) (l : List Int) (hl : ls[j] = l) (v : Value) (ho : W2.ownsRow W.heap.size 3 1 v l.length (flatI l)) :
  Stp n1 (rowsM (.slice (some ⟨g, 0, none⟩) n c) fc ls j) W (rowsM (.slice (some ⟨g, 0, none⟩) n c) (fun i => if i = j then v else fc i) ls (j + 1)) (W2.setCell ⟨g, j, none⟩ v) := by
 have hn : n1 ≤ W.heap.size := by have := h.lt none g rfl; omega
 have s1 := Stp.upd (i := some j) (r := ⟨v, 3, 1, l.length, flatI l⟩) h (Chg.of_below hb) (own_mono ho hn) (fun b e => .inr (ho.lt b e).1)
 have s2 := Stp.set (i := none) s1.rws (g := g) (by rw [updR_other (by simp)]; rfl) (o := j) (by rw [updR_other (by simp)]; simpa [rowsM] using hj) v
 refine (s1.trans s2).cast ?_
 funext q
 cases q with
 | none =>
  rw [updR_same, updR_other (by simp)]
  simp only [rowsM, RowD.mk.injEq, true_and]
  refine List.ext_getElem (by simp) fun i h1 h2 => ?_
  simp only [List.getElem_set, List.getElem_map, List.getElem_range]
  by_cases e : j = i
  ·subst e; simp
  ·rw [if_neg e]
   have e' : i ≠ j := fun h => e h.symm
   by_cases h3 : i < j
   ·rw [if_pos h3, if_pos (by omega), if_neg e']
   ·rw [if_neg h3, if_neg (by omega)]
 | some i =>
  rw [updR_other (by simp)]
  by_cases e : i = j
  ·subst e
   rw [updR_same]
   simp [rowsM, hj, hl]
  ·rw [updR_other (by simpa using e)]
   simp only [rowsM, e, if_false]
   by_cases h3 : i < j
   ·rw [if_pos h3, if_pos (by omega)]
   ·rw [if_neg h3, if_neg (by omega)]
theorem rowsS_of {W1 W2 W3 : World} {n1 : Nat} {vc vi vo : Value} {fc : Nat → Value} {s : SS} (h : Rws W1 n1 (rowsM vc fc s.cells s.cells.length)) (hn : n1 ≤ W1.heap.size) (b2 : Below W1.heap.size W1 W2) (o2 : W2.ownsRow W1.heap.size 3 1 vi s.tin.length (flatI s.tin)) (b3 : Below W2.heap.size W2 W3)
  (o3 : W3.ownsRow W2.heap.size 3 1 vo s.tout.length (flatI s.tout)) : Rws W3 n1 (rowsS vc vi vo fc s) := by
 have h3 := (h.later b2).later b3
 have hs2 := b2.size
 have l1 : ∀ i b, (rowsM vc fc s.cells s.cells.length i).v.ownBlock = some b → b < W1.heap.size := fun i b e => (h.lt i b e).2
 have l2 : ∀ b, vi.ownBlock = some b → W1.heap.size ≤ b ∧ b < W2.heap.size := fun b e => o2.lt b e
 have l3 : ∀ b, vo.ownBlock = some b → W2.heap.size ≤ b := fun b e => (o3.lt b e).1
 have eo : rowsS vc vi vo fc s .all = rowsM vc fc s.cells s.cells.length none := by
  simp only [rowsS, rowsM, RowD.mk.injEq, true_and]
  refine List.map_congr_left fun i hi => ?_
  rw [if_pos (by simpa using hi)]
 refine ⟨fun i => ?_, fun i j b hij h1 h2 => ?_⟩
 ·cases i with
  | all => rw [eo]; exact h3.row none
  | el i => exact h3.row (some i)
  | inp => exact own_mono (own_later o2 b3) hn
  | out => exact own_mono o3 (by omega)
 ·have key : ∀ i b, (rowsS vc vi vo fc s i).v.ownBlock = some b → (∃ q, i = (match q with | none => SI.all | some k => SI.el k) ∧ (rowsM vc fc s.cells s.cells.length q).v.ownBlock = some b) ∨ (i = .inp ∧ vi.ownBlock = some b) ∨ (i = .out ∧ vo.ownBlock = some b) := fun i b e => by
   cases i with
   | all => exact .inl ⟨none, rfl, by rw [eo] at e; exact e⟩
   | el i => exact .inl ⟨some i, rfl, e⟩
   | inp => exact .inr (.inl ⟨rfl, e⟩)
   | out => exact .inr (.inr ⟨rfl, e⟩)
  rcases key i b h1 with ⟨q, e1, a1⟩ | ⟨e1, a1⟩ | ⟨e1, a1⟩ <;> rcases key j b h2 with ⟨q', e2, a2⟩ | ⟨e2, a2⟩ | ⟨e2, a2⟩
  ·exact h.sep q q' b (fun e => hij (by rw [e1, e2, e])) a1 a2
  ·have := l1 q b a1; have := l2 b a2; omega
  ·have := l1 q b a1; have := l3 b a2; omega
  ·have := l2 b a1; have := l1 q' b a2; omega
  ·exact hij (e1.trans e2.symm)
  ·have := l2 b a1; have := l3 b a2; omega
  ·have := l3 b a1; have := l1 q' b a2; omega
  ·have := l3 b a1; have := l2 b a2; omega
  ·exact hij (e1.trans e2.symm)
theorem OwnS.later {W W' : World} {n0 : Nat} {s : SS} {v : Value} (h : OwnS W n0 s v) (hb : Below W.heap.size W W') : OwnS W' n0 s v := by
 obtain ⟨vc, vi, vo, fc, h1, h2, h3⟩ := h
 exact ⟨vc, vi, vo, fc, h1, h2.later hb, h3⟩
theorem OwnS.mono {W : World} {n0 n1 : Nat} {s : SS} {v : Value} (h : OwnS W n1 s v) (hn : n0 ≤ n1) : OwnS W n0 s v := by
 obtain ⟨vc, vi, vo, fc, h1, h2, h3⟩ := h
 exact ⟨vc, vi, vo, fc, h1, h2.mono hn, h3⟩
theorem OwnS.sv {W : World} {n0 : Nat} {s : SS} {v : Value} (h : OwnS W n0 s v) (hl : s.Lim) : SV W Any s v := by
 obtain ⟨vc, vi, vo, fc, rfl, hr, h1, h2, h3⟩ := h
 obtain ⟨AI, cI, e2, k2, r2⟩ := row_I (hr.row .inp) h2
 obtain ⟨AO, cO, e3, k3, r3⟩ := row_I (hr.row .out) h3
 change vi = _ at e2
 change vo = _ at e3
 have key : ∃ A c, vc = .slice A s.cells.length c ∧ s.cells.length ≤ c ∧ RowII W Any A s.cells := by
  rcases Nat.eq_zero_or_pos s.cells.length with h0 | h0
  ·obtain ⟨A, c, e1, hc, _⟩ := row_slice (hr.row .all)
   exact ⟨A, c, e1, hc, fun i hi => by omega⟩
  ·obtain ⟨g, c, e1, hc, _, hcell⟩ := row_some (hr.row .all) h0
   refine ⟨_, c, e1, hc, fun i hi => ?_⟩
   have hri := hr.row (.el i)
   simp only [rowsS, hi, if_true, List.getD_eq_getElem?_getD, List.getElem?_eq_getElem hi, Option.getD_some] at hri
   obtain ⟨A', c', e4, k4, r4⟩ := row_I hri (h1 _ (List.getElem_mem hi))
   have ha : (⟨g, 0, none⟩ : Addr).add i = ⟨g, i, none⟩ := by unfold Addr.add; split <;> simp_all
   refine ⟨⟨g, 0, none⟩, A', c', rfl, trivial, ?_, k4, r4⟩
   rw [ha, ← e4, hcell i (by show i < s.cells.length * 1; omega)]
   simp [rowsS, hi]
 obtain ⟨A, c, e1, k1, r1⟩ := key
 exact ⟨A, c, AI, cI, AO, cO, by rw [e1, e2, e3], r1, r2, r3, k1, k2, k3, hl⟩
def ST.state (S : ST) : SS := ⟨(S.base.cs.take (S.base.cs.length - S.base.loc)).map S.cell, S.tin, S.tout⟩
theorem state_I {S : ST} (h : S.WF) : S.state.I ∧ S.state.Lim ∧ ∀ l ∈ S.state.cells, l.length ≤ 1000 := by
 obtain ⟨kd, h1, _, _⟩ := h.ex
 have hc : ∀ l ∈ S.state.cells, l.length ≤ 1000 ∧ ∀ x ∈ l, I64 x := fun l hl => by
  simp only [ST.state, List.mem_map] at hl
  obtain ⟨c, hc, rfl⟩ := hl
  exact h.cells c (h1.num c (List.mem_of_mem_take hc))
 have := h1.len
 have := h1.lim
 have := h.tin.1
 have := h.tout.1
 refine ⟨⟨fun l hl => (hc l hl).2, h.tin.2, h.tout.2⟩, ⟨?_, fun l hl => ?_, ?_, ?_⟩, fun l hl => (hc l hl).1⟩
 ·simp only [ST.state, List.length_map, List.length_take, LI]; omega
 ·have := (hc l hl).1; simp only [LI]; omega
 ·simp only [ST.state, LI]; omega
 ·simp only [ST.state, LI]; omega
theorem sIInfo : (Tryz.prog.info? 30).map (fun i => (i.zero, i.size, i.bytes)) = some (some (.slice none 0 0), 1, 24) := by kernel_rfl
theorem fnTIn : IsFn Tryz.prog 73 Tryz.f73 := ⟨Tryz.func73, by kernel_rfl, by kernel_rfl⟩
theorem fnTOut : IsFn Tryz.prog 74 Tryz.f74 := ⟨Tryz.func74, by kernel_rfl, by kernel_rfl⟩
theorem buildSS (A B C : Option Addr) (l c m d n e : Nat) (w : World) : (Instr.build 32 #[(0, .slice A l c), (1, .slice B m d), (2, .slice C n e)]).run Tryz.prog w = .ok (.agg #[.slice A l c, .slice B m d, .slice C n e]) w := by kernel_rfl
set_option maxHeartbeats 4000000 in
set_option maxRecDepth 100000 in
theorem State_any {W : World} {n0 : Nat} {P : Ph} {S : ST} (h : SR W n0 P S) : Calls Tryz.prog 51 #[.pointer (some ⟨P.sb, 0, none⟩)] W fun e W' => ∃ v, e = .returned v ∧ OwnS W' W.heap.size S.state v ∧ Below W.heap.size W W' := by
 obtain ⟨kd, hw, _, _⟩ := h.wf.ex
 obtain ⟨m, hm⟩ : ∃ m, S.base.cs.length = m + S.base.loc := ⟨S.base.cs.length - S.base.loc, by have := hw.len; have := hw.loc; omega⟩
 have hlim := hw.lim
 have hlen := hw.len
 obtain ⟨A, c, hvC, -, -⟩ := row_slice (h.rws.row .bc)
 change P.vC = .slice A S.base.cs.length c at hvC
 obtain ⟨hI, hL, hL2⟩ := state_I h.wf
 have HI := Lib.hid hI
 have HL2 := Lib.hid hL2
 have HNUM := Lib.hid hw.num
 have hst : S.state.cells.length = m := by simp [ST.state, hm]
 have HSG := Lib.hid (show ∀ j (hj : j < m), ∃ hj' : j < S.base.cs.length, ∃ h2 : j < S.state.cells.length, S.state.cells[j] = S.cell S.base.cs[j] from fun j hj => ⟨by omega, by omega, by simp [ST.state]⟩)
 have HST := Lib.hid hst
 have HS := Lib.hid h
 obtain ⟨lc, hlc⟩ : ∃ lc, S.base.loc = lc := ⟨_, rfl⟩
 rw [hlc] at hm
 have hx : W.cell? ⟨P.sb, 1, none⟩ = some (.slice A (m + lc) c) := by rw [← hm, ← hvC]; exact cell_of_blk h.box rfl
 have hy : W.cell? ⟨P.sb, 2, none⟩ = some (.int .i64 lc) := by rw [← hlc]; exact cell_of_blk h.box rfl
 have HX := Lib.hid hx
 have HM := Lib.hid hm
 have HVC := Lib.hid hvC
 have x1 : ∀ o, (W.alloc o).cell? ⟨P.sb, 1, none⟩ = some (.slice A (m + lc) c) := fun o => cell_al hx o
 have x2 : ∀ o, (W.alloc o).cell? ⟨P.sb, 2, none⟩ = some (.int .i64 lc) := fun o => cell_al hy o
 have hmk := fun W => run_make_row' (P := Tryz.prog) 29 30 (.slice none 0 0) 24 Tryz.underlying29 sIInfo rfl .i64 .i64 m (by omega) (by omega) W
 have hml : m ≤ 4398046511000 := by omega
 clear h hw hm hvC hI hL hL2 hst hlim hlen hx hy hlc
 go_enter Tryz.func51, Tryz.ntmps51
 go_wp2_with fail
 go_quiet (fail)
 go_wp2_with fail
 obtain ⟨W0, hW0⟩ : ∃ W0, (W.alloc (.cells #[.slice none 0 0, .slice none 0 0, .slice none 0 0] 32)).drewN nq = W0 := ⟨_, rfl⟩
 have HB0 := Lib.hid (show Below W.heap.size W W0 from hW0 ▸ drewN_below (bl_al (Below.refl _ _) _) nq)
 have HR0 := Lib.hid (show W0.heap[W.heap.size]? = some (.cells #[.slice none 0 0, .slice none 0 0, .slice none 0 0] 32 (0, 0)) by
  rw [← hW0]; exact heap_alloc_new W _)
 have hz0 : W0.heap.size = W.heap.size + 1 := by rw [← hW0]; show (W.alloc _).heap.size = _; simp
 have HRW0 := Lib.hid (rowsM_new W0 (fun _ => .slice none 0 0) S.state.cells m HST.out (by unfold maxLen; omega))
 rw [hW0]
 rw [hz0] at HRW0
 have HZ0 := Lib.hid hz0
 clear hW0 x1 x2 hmk nq hz0
 go_loopw [25] (fun i wr => ∃ j : Nat, j ≤ m ∧ i = .int .i64 j ∧ Hid (Below W0.heap.size W0 wr) ∧ ∃ fc, Hid (Rws wr (W.heap.size + 1) (rowsM (.slice (some ⟨W.heap.size + 1, 0, none⟩) m m) fc S.state.cells j))) (fun i _ => m - (intOf i).toNat)
 case atStart => exact ⟨0, Nat.zero_le _, rfl, Lib.hid (bl_al (Below.refl _ _) _), _, HRW0⟩
 case round =>
  obtain ⟨j, hj, rfl, HBL, fc, HRW⟩ := hrel
  have HSr := Lib.hid ((HS.out.later HB0.out).later HBL.out)
  by_cases hlt : j < m
  ·obtain ⟨hj', hj2, hjc⟩ := HSG.out j hlt
   obtain ⟨id, hid⟩ : ∃ id, S.base.cs[j] = id := ⟨_, rfl⟩
   have hidn : id < S.nc := by rw [← hid]; exact HNUM.out _ (List.getElem_mem hj')
   obtain ⟨gc, c2, hcc, -, -, hcell⟩ := row_some (HSr.out.rws.row .bc) (by show 0 < S.base.cs.length; omega)
   change P.vC = .slice _ S.base.cs.length c2 at hcc
   have y0 : wr.cell? ⟨P.sb, 1, none⟩ = some (.slice (some ⟨gc, 0, none⟩) (m + lc) c2) := by rw [← HM.out, ← hcc]; exact cell_of_blk HSr.out.box rfl
   have y1 : wr.cell? ⟨gc, j, none⟩ = some (.pointer (some ⟨P.cb id, 0, none⟩)) := by rw [hcell j (by show j < S.base.cs.length * 1; omega)]; simp [rows, ptrs, hj', hid]
   obtain ⟨A3, c3, hci, hc3, hri⟩ := HSr.out.items hidn
   have y2 : wr.cell? ⟨P.cb id, 0, none⟩ = some (.slice A3 (S.cell id).length c3) := by rw [← hci]; exact cell_of_blk (HSr.out.cbox hidn) rfl
   obtain ⟨l, hl⟩ : ∃ l, S.cell id = l := ⟨_, rfl⟩
   rw [hl] at y2 hri
   have HL := Lib.hid (show S.state.cells[j] = l by rw [hjc, hid, hl])
   have hll : l.length ≤ 1000 := by rw [← HL.out]; exact HL2.out _ (List.getElem_mem hj2)
   have HCL := Lib.hid (CloneI_own l A3 c3 Any wr hri (by unfold LI; omega))
   have hj1 : (j : Int) < (m : Int) := by omega
   have hj3 : (j : Int) < (m : Int) + (lc : Int) := by omega
   have H2 := Lib.hid hj2
   clear hcell hcc hci hri hc3 hid hl hjc hj'
   go_wp2_with fail
   refine HCL.out.mono ?_
   rintro e9 w2 ⟨v2, rfl, ho2, -, hb2⟩
   obtain ⟨A4, c4, rfl, -, -⟩ := row_slice ho2
   have hrl := HRW.out.later hb2
   have u0 : w2.cell? ⟨W.heap.size + 1, j, none⟩ = some (.slice none 0 0) := hrl.cell none rfl (by have := HST.out; simp [rowsM, this, hlt])
   have u1 : w2.frozen? ⟨W.heap.size + 1, j, none⟩ = false := hrl.frozen none rfl j
   have s1 := rowsM_step HRW.out hb2 H2.out l HL.out _ ho2
   have HR2 := Lib.hid s1.rws
   have HB2 := Lib.hid (show Below W0.heap.size W0 (w2.setCell ⟨W.heap.size + 1, j, none⟩ (.slice A4 l.length c4)) from HBL.out.trans (s1.chg.below HBL.out.size fun b ⟨q, hq⟩ => by have := (HRW.out.lt q b hq).1; have := HZ0.out; omega))
   clear ho2 hb2 s1 hrl
   go_wp2_with fail
   go_roundw
   case rel => exact ⟨j + 1, by omega, by go_num, HB2, _, HR2⟩
   case measure => simp [intOf]; omega
  ·obtain rfl : j = m := by omega
   have hj1 : ¬ (j : Int) < (j : Int) := by omega
   have y4 : wr.cell? ⟨P.sb, 4, none⟩ = some (.pointer (some ⟨P.tb, 0, none⟩)) := cell_of_blk HSr.out.box rfl
   have hbss := buildSS
   go_upto_region 10 with fail
   obtain ⟨S1, hS1⟩ : ∃ S1 : World → Prop, S1 = fun w' : World => w'.cell? ⟨P.sb, 4, none⟩ = some (.pointer (some ⟨P.tb, 0, none⟩)) := ⟨_, rfl⟩
   have HSb := Lib.hid (show ∀ W W', S1 W → Below W.heap.size W W' → S1 W' by rw [hS1]; exact fun W W' h hb => cell_bl hb h)
   have hSS : S1 wr.drew ∧ (fun _ : World => True) wr.drew := ⟨by rw [hS1]; exact y4, trivial⟩
   refine wp_region_noPanic ?_
   refine wp_region_G S1 (fun _ : World => True) 12 (by kernel_rfl) ?_
   subst hS1
   refine wpG_take1 (i := 0) (v := ?_) rfl (by kernel_rfl) (by kernel_rfl) (by kernel_rfl) (by decide) (fun _ _ _ h => h) (Or.inl ⟨by rfl, ?_⟩) hSS ?_
   rotate_left 1
   ·(intro w hSw; (try dsimp only at hSw); (try simp only [zA, zC]); go_simp; (try with_reducible rfl))
   (try simp only [Act.put, zA, zC, zD, zE, zF])
   refine wpG_take1 (i := 1) (v := ?_) rfl (by kernel_rfl) (by kernel_rfl) (by kernel_rfl) (by decide) (fun _ _ _ h => h) (Or.inl ⟨by rfl, ?_⟩) hSS ?_
   rotate_left 1
   ·(intro w hSw; (try dsimp only at hSw); (try simp only [zA, zB, zC]); go_simp; (try with_reducible rfl))
   (try simp only [Act.put, zA, zB, zC, zD, zE, zF])
   refine wpG_take1 (i := 2) (v := ?_) rfl (by kernel_rfl) (by kernel_rfl) (by kernel_rfl) (by decide) (fun _ _ _ h => h) (Or.inl ⟨by rfl, ?_⟩) hSS ?_
   rotate_left 1
   ·(intro w hSw; (try dsimp only at hSw); (try simp only [zA, zB, zC]); go_simp; (try with_reducible rfl))
   (try simp only [Act.put, zA, zB, zC, zD, zE, zF])
   refine wpG_take1 (i := 3) (v := ?_) rfl (by kernel_rfl) (by kernel_rfl) (by kernel_rfl) (by decide) (fun _ _ _ h => h) (Or.inl ⟨by rfl, ?_⟩) hSS ?_
   rotate_left 1
   ·(intro w hSw; (try dsimp only at hSw); (try simp only [zA, zB, zC]); go_simp; (try with_reducible rfl))
   (try simp only [Act.put, zA, zB, zC, zD, zE, zF])
   refine wpG_take1 (i := 4) (v := ?_) rfl (by kernel_rfl) (by kernel_rfl) (by kernel_rfl) (by decide) (fun _ _ _ h => h) (Or.inl ⟨by rfl, ?_⟩) hSS ?_
   rotate_left 1
   ·(intro w hSw; (try dsimp only at hSw); (try simp only [zA, zB, zC]); go_simp; (try with_reducible rfl))
   (try simp only [Act.put, zA, zB, zC, zD, zE, zF])
   refine wpG_take1 (i := 6) (v := ?_) rfl (by kernel_rfl) (by kernel_rfl) (by kernel_rfl) (by decide) (fun _ _ _ h => h) (Or.inl ⟨by rfl, ?_⟩) hSS ?_
   rotate_left 1
   ·(intro w hSw; (try dsimp only at hSw); (try simp only [zA, zB, zC]); go_simp; (try with_reducible rfl))
   (try simp only [Act.put, zA, zB, zC, zD, zE, zF])
   refine wpG_take1 (i := 7) (v := ?_) rfl (by kernel_rfl) (by kernel_rfl) (by kernel_rfl) (by decide) (fun _ _ _ h => h) (Or.inl ⟨by rfl, ?_⟩) hSS ?_
   rotate_left 1
   ·(intro w hSw; (try dsimp only at hSw); (try simp only [zA, zB, zC]); go_simp; (try with_reducible rfl))
   (try simp only [Act.put, zA, zB, zC, zD, zE, zF])
   refine wpG_take1 (i := 8) (v := ?_) rfl (by kernel_rfl) (by kernel_rfl) (by kernel_rfl) (by decide) (fun _ _ _ h => h) (Or.inl ⟨by rfl, ?_⟩) hSS ?_
   rotate_left 1
   ·(intro w hSw; (try dsimp only at hSw); (try simp only [zA, zB, zC]); go_simp; (try with_reducible rfl))
   (try simp only [Act.put, zA, zB, zC, zD, zE, zF])
   refine wpG_take1 (i := 9) (v := ?_) rfl (by kernel_rfl) (by kernel_rfl) (by kernel_rfl) (by decide) (fun _ _ _ h => h) (Or.inl ⟨by rfl, ?_⟩) hSS ?_
   rotate_left 1
   ·(intro w hSw; (try dsimp only at hSw); (try simp only [zA, zB, zC]); go_simp; (try with_reducible rfl))
   (try simp only [Act.put, zA, zB, zC, zD, zE, zF])
   have had : Calls Tryz.prog 73 [.pointer (some ⟨P.tb, 0, none⟩)].toArray wr.drew fun e w' => ∃ u, e = .returned u ∧ w'.ownsRow wr.drew.heap.size 3 1 u S.tin.length (flatI S.tin) ∧ Below wr.drew.heap.size wr.drew w' :=
    (TIn_any (HSr.out.later (Below.refl _ _).drew)).mono fun e w' ⟨u, hu, h1, _, h2⟩ => ⟨u, hu, h1, h2⟩
   refine wpG_one (i := 5) (by kernel_rfl) rfl (fun K hK => ?_)
   refine step_callL (by rfl) (.func 73) [.tmp 48] _ (by rfl) 73 _ fnTIn (by rfl) _ (by rfl) _ had ?_
   rintro v4 w4 ⟨ho4, hb4⟩
   obtain ⟨A4, c4, rfl, -, -⟩ := row_slice ho4
   have HO4 := Lib.hid ho4
   have HB4 := Lib.hid hb4
   have HS4 := Lib.hid (HSb.out _ _ hSS.1 hb4)
   refine hK.out _ _ ⟨HS4.out, trivial⟩ ?_
   clear hK K hSS had ho4 hb4
   (try simp only [Act.put, zA, zB, zC, zD, zE, zF])
   have had : Calls Tryz.prog 74 [.pointer (some ⟨P.tb, 0, none⟩)].toArray w4 fun e w' => ∃ u, e = .returned u ∧ w'.ownsRow w4.heap.size 3 1 u S.tout.length (flatI S.tout) ∧ Below w4.heap.size w4 w' :=
    (TOut_any ((HSr.out.later (Below.refl _ _).drew).later HB4.out)).mono fun e w' ⟨u, hu, h1, _, h2⟩ => ⟨u, hu, h1, h2⟩
   refine wpG_one (i := 10) (by kernel_rfl) rfl (fun K hK => ?_)
   refine step_callL (by rfl) (.func 74) [.tmp 53] _ (by rfl) 74 _ fnTOut (by rfl) _ (by rfl) _ had ?_
   rintro v5 w5 ⟨ho5, hb5⟩
   obtain ⟨A5, c5, rfl, -, -⟩ := row_slice ho5
   have HO5 := Lib.hid ho5
   have HB5 := Lib.hid hb5
   have HS5 := Lib.hid (HSb.out _ _ HS4.out hb5)
   refine hK.out _ _ ⟨HS5.out, trivial⟩ ?_
   clear hK K had ho5 hb5
   (try simp only [Act.put, zA, zB, zC, zD, zE, zF])
   refine wpG_one (i := 11) (by kernel_rfl) rfl (fun K hK => ?_)
   (try simp only [zA, zB, zC])
   go_simp
   refine hK.out _ _ ⟨HS5.out, trivial⟩ ?_
   clear hK K
   (try simp only [Act.put, zA, zB, zC, zD, zE, zF])
   have hb5 : Below W0.heap.size W0 w5 := bl_tt (bl_tt HBL.out.drew HB4.out) HB5.out
   have hr5 := blk_bl HR0.out hb5
   have r0 : w5.cell? ⟨W.heap.size, 0, none⟩ = some (.slice none 0 0) := cell_of_blk hr5 rfl
   have r1 : w5.cell? ⟨W.heap.size, 1, none⟩ = some (.slice none 0 0) := cell_of_blk hr5 rfl
   have r2 : w5.cell? ⟨W.heap.size, 2, none⟩ = some (.slice none 0 0) := cell_of_blk hr5 rfl
   have rf : ∀ o, w5.frozen? ⟨W.heap.size, o, none⟩ = false := fun o => frozen_of_blk hr5
   refine wpG_past (i := 12) (by kernel_rfl) rfl (by kernel_rfl) (fun K hK => ?_)
   (try simp only [zA, zB, zC])
   go_simp
   have hc6 : Chg (fun b => b = W.heap.size) w5 (((w5.setCell ⟨W.heap.size, 0, none⟩ (.slice (some ⟨W.heap.size + 1, 0, none⟩) j j)).setCell ⟨W.heap.size, 1, none⟩ (.slice A4 S.tin.length c4)).setCell ⟨W.heap.size, 2, none⟩ (.slice A5 S.tout.length c5)) :=
    (((Chg.refl (fun b => b = W.heap.size) w5).setCell (p := ⟨W.heap.size, 0, none⟩) (.inl rfl) _).setCell (p := ⟨W.heap.size, 1, none⟩) (.inl rfl) _).setCell (p := ⟨W.heap.size, 2, none⟩) (.inl rfl) _
   have hh6 := heap_setCell_same _ W.heap.size 2 _ _ (.slice A5 S.tout.length c5) (heap_setCell_same _ W.heap.size 1 _ _ (.slice A4 S.tin.length c4) (heap_setCell_same w5 W.heap.size 0 _ _ (.slice (some ⟨W.heap.size + 1, 0, none⟩) j j) hr5))
   obtain ⟨w6, hw6⟩ : ∃ w6, ((w5.setCell ⟨W.heap.size, 0, none⟩ (.slice (some ⟨W.heap.size + 1, 0, none⟩) j j)).setCell ⟨W.heap.size, 1, none⟩ (.slice A4 S.tin.length c4)).setCell ⟨W.heap.size, 2, none⟩ (.slice A5 S.tout.length c5) = w6 := ⟨_, rfl⟩
   rw [hw6] at hc6 hh6 ⊢
   have hsb : P.sb < W.heap.size := (HS.out.rws.lt .sb P.sb rfl).2
   have z0 : w6.cell? ⟨W.heap.size, 0, none⟩ = some (.slice (some ⟨W.heap.size + 1, 0, none⟩) j j) := cell_of_blk hh6 rfl
   have z1 : w6.cell? ⟨W.heap.size, 1, none⟩ = some (.slice A4 S.tin.length c4) := cell_of_blk hh6 rfl
   have z2 : w6.cell? ⟨W.heap.size, 2, none⟩ = some (.slice A5 S.tout.length c5) := cell_of_blk hh6 rfl
   have hZ := HZ0.out
   have hr6 : Rws w6 (W.heap.size + 1) (rowsS (.slice (some ⟨W.heap.size + 1, 0, none⟩) j j) (.slice A4 S.tin.length c4) (.slice A5 S.tout.length c5) fc S.state) := by
    have hrw : Rws wr (W.heap.size + 1) (rowsM (.slice (some ⟨W.heap.size + 1, 0, none⟩) j j) fc S.state.cells S.state.cells.length) := by rw [HST.out]; exact HRW.out
    have h5 := rowsS_of (s := S.state) (vi := .slice A4 S.tin.length c4) (vo := .slice A5 S.tout.length c5) (hrw.later (Below.refl _ _).drew) (by have := HBL.out.size; simp; omega) HB4.out HO4.out HB5.out HO5.out
    exact h5.chg hc6 fun i b hb e => by have := (h5.lt i b hb).1; omega
   have HFIN := Lib.hid (show OwnS w6 W.heap.size S.state (.agg #[.slice (some ⟨W.heap.size + 1, 0, none⟩) j j, .slice A4 S.tin.length c4, .slice A5 S.tout.length c5]) from ⟨_, _, _, fc, rfl, hr6.mono (Nat.le_succ _), HI.out⟩)
   have HBF := Lib.hid (show Below W.heap.size W w6 by
    have b5 : Below W.heap.size W w5 := HB0.out.trans (hb5.mono (by omega))
    exact b5.trans (hc6.below b5.size fun b hb => by omega))
   refine hK.out _ _ (chg_cell hc6 HS5.out fun e => by have h9 : P.sb = W.heap.size := e; omega) ?_
   clear hK K hc6 hh6 hw6 hr6 hr5 r0 r1 r2 rf hb5
   (try simp only [Act.put, zA, zB, zC, zD, zE, zF])
   refine wpG_done (by kernel_rfl) ?_
   refine NoPanic.normal ?_
   go_wp2_with fail
   exact bodyPost_ret (v := .agg #[.slice (some ⟨W.heap.size + 1, 0, none⟩) j j, .slice A4 S.tin.length c4, .slice A5 S.tout.length c5]) (by simp [results, Tryz.results51, go_sem, z0, z1, z2]) rfl ⟨_, rfl, HFIN.out, HBF.out⟩
end Go.Proofs.YtgnfpcebmefhoaaGreat
namespace Go.Proofs.YtgnfpcebmefhoaaGreat
open Go Go.RowKit
def renDel : Go.Shelf.Ren := ⟨fun | 23 => 178 | n => n, fun | 22 => 30 | 3 => 3 | 4 => 4 | 0 => 0 | n => n, fun | n => n⟩
theorem laysDel : Go.Proofs.Lays2.n23 Tryz.prog renDel := {
 mixed := by kernel_rfl
 f23 := Tryz.func178.trans (congrArg some (by kernel_rfl))
 t0 := Tryz.underlying0
 a0 := Tryz.isAgg0
 z0 := Tryz.sizeOf0
 v0 := Tryz.zeroValue0
 t3 := Tryz.underlying3
 a3 := Tryz.isAgg3
 z3 := Tryz.sizeOf3
 v3 := Tryz.zeroValue3
 t4 := Tryz.underlying4
 a4 := Tryz.isAgg4
 z4 := Tryz.sizeOf4
 v4 := Tryz.zeroValue4
 t22 := Tryz.underlying30
 a22 := Tryz.isAgg30
 z22 := Tryz.sizeOf30
 v22 := Tryz.zeroValue30
 i3 := by kernel_rfl }
def renIns : Go.Shelf.Ren := ⟨fun | 21 => 179 | 27 => 180 | 28 => 181 | 35 => 182 | 39 => 183 | n => n, fun | 22 => 30 | 3 => 3 | 4 => 4 | 0 => 0 | n => n, fun | n => n⟩
theorem laysIns : Go.Proofs.Lays2.n21 Tryz.prog renIns := {
 mixed := by kernel_rfl
 f21 := Tryz.func179.trans (congrArg some (by kernel_rfl))
 f27 := Tryz.func180.trans (congrArg some (by kernel_rfl))
 f28 := Tryz.func181.trans (congrArg some (by kernel_rfl))
 f35 := Tryz.func182.trans (congrArg some (by kernel_rfl))
 f39 := Tryz.func183.trans (congrArg some (by kernel_rfl))
 t0 := Tryz.underlying0
 a0 := Tryz.isAgg0
 z0 := Tryz.sizeOf0
 v0 := Tryz.zeroValue0
 t3 := Tryz.underlying3
 a3 := Tryz.isAgg3
 z3 := Tryz.sizeOf3
 v3 := Tryz.zeroValue3
 t4 := Tryz.underlying4
 a4 := Tryz.isAgg4
 z4 := Tryz.sizeOf4
 v4 := Tryz.zeroValue4
 t22 := Tryz.underlying30
 a22 := Tryz.isAgg30
 z22 := Tryz.sizeOf30
 v22 := Tryz.zeroValue30
 i3 := by kernel_rfl }
theorem blk_setCells {g : Nat} {e : TypeId} : ∀ (vs : List Value) (o : Nat) (w : World) (cur : Array Value), w.heap[g]? = some (.cells cur e (0, 0)) → ∃ cur', (w.setCells g o vs).heap[g]? = some (.cells cur' e (0, 0)) ∧ cur'.size = cur.size
 | [], _, _, cur, h => ⟨cur, h, rfl⟩
 | v :: vs, o, w, cur, h => by
  obtain ⟨cur', h1, h2⟩ := blk_setCells vs (o + 1) (w.setCell ⟨g, o, none⟩ v) _ (heap_setCell_same w g o cur _ v h)
  exact ⟨cur', h1, by rw [h2]; simp⟩
theorem chg_setCells (g : Nat) : ∀ (vs : List Value) (o : Nat) (w : World), Chg (fun b => b = g) w (w.setCells g o vs)
 | [], _, w => Chg.refl _ w
 | v :: vs, o, w => ((Chg.refl (fun b => b = g) w).setCell (p := ⟨g, o, none⟩) (.inl rfl) v).trans (chg_setCells g vs (o + 1) (w.setCell ⟨g, o, none⟩ v))
theorem own_of_cells {W : World} {base g cap n : Nat} {e : TypeId} {cur : Array Value} {xs : List Value} (hb : base ≤ g) (hg : W.heap[g]? = some (.cells cur e (0, 0))) (hs : cur.size = cap) (hn : n ≤ cap) (hm : cap ≤ maxLen) (hx : xs.length = n) (hc : ∀ j u, xs[j]? = some u → W.cell? ⟨g, j, none⟩ = some u) :
  W.ownsRow base e 1 (.slice (some ⟨g, 0, none⟩) n cap) n xs := by
 refine ⟨by omega, .inr ⟨g, cap, cur, rfl, hb, hg, hn, hm, by omega, ?_⟩⟩
 refine List.ext_getElem (by simp; omega) fun j h1 h2 => ?_
 have := hc j xs[j] (List.getElem?_eq_getElem h2)
 simp only [World.cell?, hg] at this
 simp at this
 rw [List.getElem_take]
 have h3 : j < cur.size := by omega
 rw [Array.getElem?_eq_getElem h3] at this
 simpa using this
theorem cell_ins {w : World} {g o : Nat} {vs : List Value} (h : ∀ j, j < vs.length → (w.cell? ⟨g, o + j, none⟩).isSome = true) {k : Nat} {u : Value} (hk : o ≤ k) (hu : vs[k - o]? = some u) : (w.setCells g o vs).cell? ⟨g, k, none⟩ = some u := by
 obtain ⟨h1, h2⟩ := List.getElem?_eq_some_iff.1 hu
 have := World.cell?_setCells_in g vs o w h (k - o) h1
 rw [show o + (k - o) = k by omega] at this
 rw [this, h2]
theorem cell_outs {w : World} {g o : Nat} {vs : List Value} {k : Nat} (hk : k < o ∨ o + vs.length ≤ k) : (w.setCells g o vs).cell? ⟨g, k, none⟩ = w.cell? ⟨g, k, none⟩ := World.cell?_setCells_out g vs o w ⟨g, k, none⟩ fun _ _ => hk
theorem some_setCells {w : World} {g o : Nat} {vs : List Value} (k : Nat) (hk : (w.cell? ⟨g, k, none⟩).isSome = true) : ((w.setCells g o vs).cell? ⟨g, k, none⟩).isSome = true := by
 induction vs generalizing w o with
 | nil => exact hk
 | cons v vs ih =>
  refine ih ?_
  by_cases e : o = k
  ·subst e
   obtain ⟨u, hu⟩ := Option.isSome_iff_exists.1 hk
   rw [World.cell?_setCell_same _ _ _ hu]
   rfl
  ·rw [World.cell?_setCell_other]
   ·exact hk
   ·intro h; injection h; omega
theorem cell_new (w : World) (cs : Array Value) (E : TypeId) (j : Nat) : (w.alloc (.cells cs E)).cell? ⟨w.heap.size, j, none⟩ = cs[j]? := by
 have h := heap_alloc_new w (.cells cs E)
 simp only [World.cell?, h]
 simp
def InsP (W : World) (n0 : Nat) (v : Value) (ys : List Int) (e : Ending) (W' : World) : Prop := ∃ v', e = .returned v' ∧ W'.ownsRow n0 3 1 v' ys.length (flatI ys) ∧ Chg (fun b => v.ownBlock = some b) W W' ∧ ∀ b, v'.ownBlock = some b → v.ownBlock = some b ∨ W.heap.size ≤ b
theorem flatI_one (xs : List Int) : ∀ u ∈ flatI xs, u.oneCell' = true := fun u hu => by
 simp only [flatI, List.mem_map] at hu
 obtain ⟨x, _, rfl⟩ := hu
 rfl
theorem flatI_len (xs : List Int) : (flatI xs).length = xs.length := by simp [flatI]
theorem flatI_app (xs ys : List Int) : flatI (xs ++ ys) = flatI xs ++ flatI ys := by simp [flatI]
theorem Insert_any {W : World} {n0 : Nat} {v : Value} {xs : List Int} (h : W.ownsRow n0 3 1 v xs.length (flatI xs)) (i : Nat) (hi : i ≤ xs.length) (hl : xs.length ≤ 4096) (hn0 : n0 ≤ W.heap.size) (x : Int) (vb : Nat) (hvb : W.heap[vb]? = some (.cells #[.int .i64 x] 3 (0, 0))) (hne : v.ownBlock ≠ some vb) :
  Calls Tryz.prog 179 #[v, .int .i64 i, .slice (some ⟨vb, 0, none⟩) 1 1] W (InsP W n0 v (xs.take i ++ x :: xs.drop i)) := by
 have hvs : ∀ j u, [Value.int .i64 x][j]? = some u → W.cell? ⟨vb, 0 + j, none⟩ = some u := fun j u hj => by
  rw [Nat.zero_add]
  simp only [World.cell?, hvb]
  simpa using hj
 have hv1 : ∀ u ∈ [Value.int .i64 x], u.oneCell' = true := fun u hu => by simp at hu; subst hu; rfl
 have hys : (xs.take i ++ x :: xs.drop i).length = xs.length + 1 := by simp; omega
 have hmax : maxLen = 9223372036854775807 := rfl
 have grow_end : ∀ (base : Option Addr) (c : Nat), xs.length ≤ c → c < xs.length + 1 → (base = none → xs.length = 0) → (∀ a, base = some a → ∀ j u, (flatI xs)[j]? = some u → W.cell? (a.add j) = some u) → i = xs.length → v = .slice base xs.length c →
   Calls Tryz.prog 179 #[.slice base xs.length c, .int .i64 i, .slice (some ⟨vb, 0, none⟩) 1 1] W (InsP W n0 v (xs.take i ++ x :: xs.drop i)) := fun base c h1 h2 h3 h4 hie _ => by
  subst hie
  refine (Any2.slices_Insert_int_end_grow laysIns base xs.length c vb 0 1 1 (flatI xs) [.int .i64 x] W (by omega) h1 h2 (by omega) (flatI_len xs) rfl h3 h4 hvs hv1).mono ?_
  rintro e W' ⟨rfl, rfl⟩
  refine ⟨_, rfl, ?_, (Chg.refl _ W).drew.alloc _, fun b hb => .inr ?_⟩
  ·rw [hys]
   have hge := grownCap_ge W (xs.length + 1) c (renIns.t 3)
   refine own_of_cells (e := 3) hn0 (heap_alloc_new W.drew _) ?_ hge (grownCap_le_maxLen _ _ _ _ (by omega)) (by rw [flatI_len, hys]) ?_
   ·rw [Array.size_append, size_zeroCells, List.size_toArray, List.length_append, flatI_len, show (Value.int .i64 0).cells.size = 1 from rfl]
    simp only [List.length_singleton, Nat.mul_one]
    omega
   ·intro j u hj
    rw [List.take_of_length_le (Nat.le_refl _), List.drop_eq_nil_of_le (Nat.le_refl _), flatI_app] at hj
    rw [show W.heap.size = W.drew.heap.size from rfl, cell_new]
    obtain ⟨h5, h6⟩ := List.getElem?_eq_some_iff.1 hj
    rw [Array.getElem?_append_left (by simpa [flatI] using h5)]
    simpa [flatI] using hj
  ·simp [Value.ownBlock] at hb; omega
 rcases h.2 with ⟨rfl, h0⟩ | ⟨g, cap, cur, rfl, hb, hg, hnc, hcm, hz, hx⟩
 ·have h0' : xs.length = 0 := h0
  have hi0 : i = xs.length := by omega
  have := grow_end none 0 (by omega) (by omega) (fun _ => h0') (fun a e => by cases e) hi0 (by rw [h0'])
  rw [h0'] at this
  exact this
 ·have hcs : ∀ j u, (flatI xs)[j]? = some u → W.cell? ⟨g, j, none⟩ = some u := fun j u hj => by
   have hj' := (List.getElem?_eq_some_iff.1 hj).1
   rw [flatI_len] at hj'
   exact (h.cellAt j (by omega)).trans hj
  have hgv : g ≠ vb := fun e => hne (by rw [e]; rfl)
  have hsp : ∀ j, j < cap → (W.cell? ⟨g, j, none⟩).isSome = true := fun j hj => by
   simp only [World.cell?, hg]
   have : j < cur.size := by omega
   simp [this]
  have hfz : ∀ j, W.frozen? ⟨g, j, none⟩ = false := fun j => frozen_of_blk hg
  rcases Nat.lt_or_ge cap (xs.length + 1) with hroom | hroom
  ·rcases Nat.lt_or_ge i xs.length with hlt | hge
   ·refine (Any2.slices_Insert_int_grow laysIns g 0 xs.length cap i vb 0 1 1 (flatI xs) [.int .i64 x] W hlt (by omega) hnc hroom (by omega) (flatI_len xs) rfl (fun j u hj => by rw [Nat.zero_add]; exact hcs j u hj) hvs (flatI_one xs) hv1).mono ?_
    rintro e W' ⟨rfl, rfl⟩
    have hge := grownCap_ge W (xs.length + 1) cap (renIns.t 3)
    obtain ⟨G, hG⟩ : ∃ G, grownCap W (xs.length + 1) cap (renIns.t 3) = G := ⟨_, rfl⟩
    have hGm : G ≤ maxLen := hG ▸ grownCap_le_maxLen W _ _ _ (by omega)
    rw [hG] at hge ⊢
    obtain ⟨C, hC⟩ : ∃ C, (((flatI xs).take i).toArray ++ Builtin.zeroCells (Value.int .i64 0).cells (xs.length + 1 - i) ++ Builtin.zeroCells (Value.int .i64 0).cells (G - (xs.length + 1))) = C := ⟨_, rfl⟩
    have hCs : C.size = G := by
     rw [← hC, Array.size_append, Array.size_append, size_zeroCells, size_zeroCells, show (Value.int .i64 0).cells.size = 1 from rfl, List.size_toArray, List.length_take, flatI_len]
     omega
    have hC0 : ∀ j, j < i → C[j]? = (flatI xs)[j]? := fun j hj => by
     rw [← hC, Array.getElem?_append_left (by simp [flatI]; omega), Array.getElem?_append_left (by simp [flatI]; omega)]
     simp [List.getElem?_take_of_lt hj]
    rw [hC]
    obtain ⟨W1, hW1⟩ : ∃ W1, W.alloc (.cells C 3) = W1 := ⟨_, rfl⟩
    have e1 : W.alloc (.cells C (renIns.t 3)) = W1 := hW1
    rw [e1]
    have hh : W1.heap[W.heap.size]? = some (.cells C 3 (0, 0)) := hW1 ▸ heap_alloc_new W _
    have hcell : ∀ j, W1.cell? ⟨W.heap.size, j, none⟩ = C[j]? := fun j => by rw [← hW1]; exact cell_new W C _ j
    have hb1 : Below W.heap.size W W1 := hW1 ▸ bl_al (Below.refl _ _) _
    have hdl : ((flatI xs).drop i).length = xs.length - i := by rw [List.length_drop, flatI_len]
    obtain ⟨cur1, k1, k2⟩ := blk_setCells [.int .i64 x] i W1.drew C hh
    obtain ⟨cur2, k3, k4⟩ := blk_setCells ((flatI xs).drop i) (i + 1) (W1.drew.setCells W.heap.size i [.int .i64 x]).drew cur1 k1
    have hsp0 : ∀ j, j < G → (W1.drew.cell? ⟨W.heap.size, j, none⟩).isSome = true := fun j hj => by
     have h9 : W1.drew.cell? ⟨W.heap.size, j, none⟩ = C[j]? := hcell j
     rw [h9, Array.getElem?_eq_getElem (by omega)]; rfl
    have hsp1 : ∀ j, j < G → ((W1.drew.setCells W.heap.size i [.int .i64 x]).drew.cell? ⟨W.heap.size, j, none⟩).isSome = true := fun j hj => some_setCells j (hsp0 j hj)
    refine ⟨_, rfl, ?_, ?_, fun b hb => .inr (by simp [Value.ownBlock] at hb; omega)⟩
    ·rw [hys]
     refine own_of_cells hn0 k3 (by omega) hge hGm (by rw [flatI_len, hys]) ?_
     intro j u hj
     rw [flatI_app] at hj
     have hti : (flatI (xs.take i)).length = i := by rw [flatI_len, List.length_take]; omega
     rcases Nat.lt_trichotomy j i with hji | hji | hji
     ·rw [cell_outs (.inl (by omega))]
      show (W1.drew.setCells W.heap.size i [.int .i64 x]).cell? ⟨W.heap.size, j, none⟩ = _
      rw [cell_outs (.inl hji)]
      show W1.cell? ⟨W.heap.size, j, none⟩ = _
      rw [hcell j, hC0 j hji]
      rw [List.getElem?_append_left (by omega)] at hj
      rw [flatI, List.map_take, List.getElem?_take_of_lt hji] at hj
      exact hj
     ·subst hji
      rw [cell_outs (.inl (by omega))]
      show (W1.drew.setCells W.heap.size j [.int .i64 x]).cell? ⟨W.heap.size, j, none⟩ = _
      refine cell_ins (fun q hq => hsp0 (j + q) (by simp at hq; omega)) (Nat.le_refl _) ?_
      rw [List.getElem?_append_right (by omega), hti] at hj
      simpa [flatI] using hj
     ·refine cell_ins (fun q hq => hsp1 (i + 1 + q) (by rw [hdl] at hq; omega)) (by omega) ?_
      rw [List.getElem?_append_right (by omega), hti, show j - i = (j - (i + 1)) + 1 by omega] at hj
      simpa [flatI] using hj
    ·have c1 : Chg (fun b => b = W.heap.size) W (((W1.drew.setCells W.heap.size i [.int .i64 x]).drew).setCells W.heap.size (i + 1) ((flatI xs).drop i)) :=
      (((Chg.of_below hb1).drew.trans (chg_setCells W.heap.size _ _ _)).drew).trans (chg_setCells W.heap.size _ _ _)
     exact c1.mono fun b hb e => by omega
   ·exact grow_end (some ⟨g, 0, none⟩) cap hnc hroom (fun e => by cases e) (fun a e j u hj => by injection e with e; subst e; rw [Addr.add_lit, Nat.zero_add]; exact hcs j u hj) (by omega) rfl
  ·rcases Nat.lt_or_ge i xs.length with hlt | hge
   ·refine (Any2.slices_Insert_int_shift laysIns g 0 xs.length cap i vb 0 1 1 (flatI xs) [.int .i64 x] W hlt (by omega) hroom (by omega) (Ne.symm hgv) (flatI_len xs) rfl (fun j u hj => by rw [Nat.zero_add]; exact hcs j u hj) (fun j hj => by rw [Nat.zero_add]; exact hsp j (by omega)) (fun j _ => hfz _) hvs (flatI_one xs) hv1 3 3 1 cur.size (by simp [World.shape?, hvb]) (by simp [World.shape?, hg]) (by omega) (frozen_of_blk hvb) (frozen_of_blk hvb)).mono ?_
    rintro e W' ⟨rfl, rfl⟩
    simp only [Nat.zero_add]
    have hdl : ((flatI xs).drop i).length = xs.length - i := by rw [List.length_drop, flatI_len]
    obtain ⟨cur1, k1, k2⟩ := blk_setCells ((flatI xs).drop i) (i + 1) W.drew cur hg
    obtain ⟨cur2, k3, k4⟩ := blk_setCells [.int .i64 x] i _ cur1 k1
    have hsp1 : ∀ j, j < cap → ((W.drew.setCells g (i + 1) ((flatI xs).drop i)).cell? ⟨g, j, none⟩).isSome = true := fun j hj => some_setCells j (hsp j hj)
    refine ⟨_, rfl, ?_, ((Chg.of_below (Below.refl _ W).drew).trans ((chg_setCells g _ _ _).trans (chg_setCells g _ _ _))).mono fun b _ e => by rw [e]; rfl, fun b hb => .inl hb⟩
    rw [hys]
    refine own_of_cells hb k3 (by omega) hroom hcm (by rw [flatI_len, hys]) ?_
    intro j u hj
    rw [flatI_app] at hj
    have hti : (flatI (xs.take i)).length = i := by rw [flatI_len, List.length_take]; omega
    rcases Nat.lt_trichotomy j i with hji | hji | hji
    ·rw [cell_outs (.inl hji), cell_outs (.inl (by omega))]
     rw [List.getElem?_append_left (by omega)] at hj
     refine hcs j u ?_
     rw [flatI, List.map_take, List.getElem?_take_of_lt hji] at hj
     exact hj
    ·subst hji
     refine cell_ins (fun q hq => hsp1 _ (by simp at hq; omega)) (Nat.le_refl _) ?_
     rw [List.getElem?_append_right (by omega), hti] at hj
     simpa [flatI] using hj
    ·rw [cell_outs (.inr (by simp; omega))]
     refine cell_ins (w := W.drew) (o := i + 1) (fun q hq => hsp (i + 1 + q) (by rw [hdl] at hq; omega)) (by omega) ?_
     rw [List.getElem?_append_right (by omega), hti, show j - i = (j - (i + 1)) + 1 by omega] at hj
     simpa [flatI] using hj
   ·have hie : i = xs.length := by omega
    subst hie
    refine (Any2.slices_Insert_int_end_room laysIns g 0 xs.length cap vb 0 1 1 [.int .i64 x] W (by omega) hroom (by omega) rfl (fun j hj => by rw [Nat.zero_add]; exact hsp _ (by omega)) (fun j _ => hfz _) hvs hv1).mono ?_
    rintro e W' ⟨rfl, rfl⟩
    simp only [Nat.zero_add]
    obtain ⟨cur1, k1, k2⟩ := blk_setCells [.int .i64 x] xs.length W cur hg
    refine ⟨_, rfl, ?_, (chg_setCells g _ _ _).mono fun b _ e => by rw [e]; rfl, fun b hb => .inl hb⟩
    rw [hys]
    refine own_of_cells hb k1 (by omega) hroom hcm (by rw [flatI_len, hys]) ?_
    intro j u hj
    rw [List.take_of_length_le (Nat.le_refl _), List.drop_eq_nil_of_le (Nat.le_refl _), flatI_app] at hj
    rcases Nat.lt_or_ge j xs.length with hji | hji
    ·rw [cell_outs (.inl hji)]
     rw [List.getElem?_append_left (by rw [flatI_len]; exact hji)] at hj
     exact hcs j u hj
    ·refine cell_ins (fun q hq => hsp _ (by simp at hq; omega)) hji ?_
     rw [List.getElem?_append_right (by rw [flatI_len]; exact hji), flatI_len] at hj
     exact hj
theorem Delete_any {W : World} {n0 : Nat} {v : Value} {xs : List Int} (h : W.ownsRow n0 3 1 v xs.length (flatI xs)) (i : Nat) (hi : i < xs.length) (hl : xs.length ≤ 4096) :
  Calls Tryz.prog 178 #[v, .int .i64 i, .int .i64 ((i : Int) + 1)] W (InsP W n0 v (xs.take i ++ xs.drop (i + 1))) := by
 rcases h.2 with ⟨rfl, h0⟩ | ⟨g, cap, cur, rfl, hb, hg, hnc, hcm, hz, hx⟩
 ·omega
 ·have hcs : ∀ j u, (flatI xs)[j]? = some u → W.cell? ⟨g, j, none⟩ = some u := fun j u hj => by
   have hj' := (List.getElem?_eq_some_iff.1 hj).1
   rw [flatI_len] at hj'
   exact (h.cellAt j (by omega)).trans hj
  have hsp : ∀ j, j < cap → (W.cell? ⟨g, j, none⟩).isSome = true := fun j hj => by
   simp only [World.cell?, hg]
   have : j < cur.size := by omega
   simp [this]
  have hmax : maxLen = 9223372036854775807 := rfl
  refine (Any.slices_Delete_int_cells laysDel g 0 xs.length cap i (i + 1) xs W (Nat.le_refl _) hnc (by omega) (by omega) (by omega) (fun j hj => by rw [Nat.zero_add]; exact hcs j _ (by simp [flatI, hj])) (fun j _ => frozen_of_blk hg)).mono ?_
  rintro e W' ⟨rfl, q, rfl⟩
  have hys : (xs.take i ++ xs.drop (i + 1)).length = xs.length - 1 := by simp; omega
  rw [List.take_of_length_le (Nat.le_refl _)]
  obtain ⟨cur1, k1, k2⟩ := blk_setCells ((xs.take i ++ xs.drop (i + 1) ++ List.replicate (i + 1 - i) 0).map (Value.int .i64)) 0 (W.drewN q) cur hg
  have hlen : ((xs.take i ++ xs.drop (i + 1) ++ List.replicate (i + 1 - i) (0 : Int)).map (Value.int .i64)).length = xs.length := by simp; omega
  refine ⟨_, rfl, ?_, ((Chg.of_below (drewN_below (Below.refl _ W) q)).trans (chg_setCells g _ _ _)).mono fun b _ e => by rw [e]; rfl, fun b hb => .inl hb⟩
  rw [show xs.length - (i + 1 - i) = xs.length - 1 by omega, hys]
  refine own_of_cells hb k1 (by omega) (by omega) hcm (by rw [flatI_len, hys]) ?_
  intro j u hj
  have hj' := (List.getElem?_eq_some_iff.1 hj).1
  rw [flatI_len, hys] at hj'
  refine cell_ins (w := W.drewN q) (o := 0) (fun k hk => by rw [Nat.zero_add]; exact hsp k (by omega)) (Nat.zero_le _) ?_
  rw [Nat.sub_zero, List.map_append, List.getElem?_append_left (by rw [List.length_map, hys]; exact hj')]
  exact hj
section
variable {I : Type} [DecidableEq I] {n0 : Nat} {d : I → RowD} {W : World}
set_option maxHeartbeats 4000000 in
set_option maxRecDepth 100000 in
theorem tinsert_any (h : Rws W n0 d) (i0 iv : I) (h01 : i0 ≠ iv) (b o : Nat) (hb : (d i0).v.ownBlock = some b) (hov : (d i0).xs[o]? = some (d iv).v) (xs : List Int) (hiv : d iv = ⟨(d iv).v, 3, 1, xs.length, flatI xs⟩) (hl : xs.length ≤ 4096) (i : Nat) (hi : i ≤ xs.length) (x : Int) :
  Calls Tryz.prog 175 #[.pointer (some ⟨b, o, none⟩), .int .i64 i, .int .i64 x] W fun e W' => (4096 ≤ xs.length ∧ e = .returned (.int .i64 5) ∧ Below W.heap.size W W') ∨
   (xs.length < 4096 ∧ e = .returned (.int .i64 0) ∧ ∃ vv, Stp n0 d W (updR (updR d iv ⟨vv, 3, 1, xs.length + 1, flatI (xs.take i ++ x :: xs.drop i)⟩) i0 { d i0 with xs := (d i0).xs.set o vv }) W') := by
 have hrv := h.row iv
 rw [hiv] at hrv
 obtain ⟨A1, c1, e1, -⟩ := row_slice hrv
 dsimp only at e1 hrv
 have x0 : W.cell? ⟨b, o, none⟩ = some (.slice A1 xs.length c1) := by rw [← e1]; exact h.cell i0 hb hov
 have HX0 := Lib.hid x0
 have HR := Lib.hid h
 have hn0 := h.lt i0 b hb
 obtain ⟨n, hn⟩ : ∃ n, xs.length = n := ⟨_, rfl⟩
 have HN := Lib.hid hn
 have HE1 := Lib.hid e1
 have HIV := Lib.hid hrv
 rw [hn] at x0 hl
 have hbi := buildI1
 clear h hrv hn e1
 by_cases hfull : 4096 ≤ n
 ·obtain rfl : n = 4096 := by omega
  go_enter Tryz.func175, Tryz.ntmps175
  go_wp2_with fail
  go_ret
  exact .inl ⟨by rw [HN.out]; exact Nat.le_refl _, rfl, Below.refl _ _⟩
 ·have hnf : ¬ (4096 : Int) ≤ (n : Int) := by omega
  have hbl : Below W.heap.size W (W.alloc (.cells #[.int .i64 x] 3)) := bl_al (Below.refl _ _) _
  have hnw : ∀ b', (d iv).v.ownBlock = some b' → b' < W.heap.size := fun b' e => (HR.out.lt iv b' e).2
  have HIN := Lib.hid (Insert_any (own_later HIV.out hbl) i hi (by rw [HN.out]; exact hl) (by simp; omega) x W.heap.size (heap_alloc_new W _) (fun e => by have := hnw _ e; omega))
  rw [HE1.out, HN.out] at HIN
  have hcb := cell_bl hbl HX0.out
  go_enter Tryz.func175, Tryz.ntmps175
  go_wp2_with fail
  refine HIN.out.mono ?_
  rintro e w2 ⟨v', rfl, ho, hc, hob⟩
  have hys : (xs.take i ++ x :: xs.drop i).length = n + 1 := by rw [← HN.out]; simp; have := HN.out; omega
  rw [hys] at ho
  obtain ⟨g8, cap8, rfl⟩ := ownsRow_succ ho
  have HR1 := HR.out.later hbl
  have st1 : Stp n0 d (W.alloc (.cells #[.int .i64 x] 3)) (updR d iv ⟨.slice (some ⟨g8, 0, none⟩) (n + 1) cap8, 3, 1, n + 1, flatI (xs.take i ++ x :: xs.drop i)⟩) w2 :=
   Stp.upd (i := iv) HR1 (hc.mono fun b' _ hb' => by rw [HE1.out, HN.out]; exact hb') ho (fun b' hb' => by rw [HE1.out, HN.out]; exact hob b' hb')
  have hd0 : updR d iv ⟨.slice (some ⟨g8, 0, none⟩) (n + 1) cap8, 3, 1, n + 1, flatI (xs.take i ++ x :: xs.drop i)⟩ i0 = d i0 := updR_other h01
  have z0 : w2.cell? ⟨b, o, none⟩ = some (.slice A1 n c1) := by rw [← HN.out, ← HE1.out]; exact st1.rws.cell i0 (by rw [hd0]; exact hb) (by rw [hd0]; exact hov)
  have zf : w2.frozen? ⟨b, o, none⟩ = false := st1.rws.frozen i0 (by rw [hd0]; exact hb) o
  have st2 := Stp.set (i := i0) st1.rws (g := b) (by rw [hd0]; exact hb) (o := o) (by rw [hd0]; exact (List.getElem?_eq_some_iff.1 hov).1) (.slice (some ⟨g8, 0, none⟩) (n + 1) cap8)
  rw [hd0] at st2
  have HFN := Lib.hid ((st1.trans st2).after hbl HR.out)
  clear st1 st2 ho hc hob HIN hcb
  go_wp2_with fail
  go_ret
  refine .inr ⟨by rw [HN.out]; omega, rfl, .slice (some ⟨g8, 0, none⟩) (n + 1) cap8, ?_⟩
  rw [HN.out]
  exact HFN.out
set_option maxHeartbeats 4000000 in
set_option maxRecDepth 100000 in
theorem tremove_any (h : Rws W n0 d) (i0 iv : I) (h01 : i0 ≠ iv) (b o : Nat) (hb : (d i0).v.ownBlock = some b) (hov : (d i0).xs[o]? = some (d iv).v) (xs : List Int) (hiv : d iv = ⟨(d iv).v, 3, 1, xs.length, flatI xs⟩) (hl : xs.length ≤ 4096) (k : Int) (i : Nat) (hi : 0 < xs.length → k = i ∧ i < xs.length) :
  Calls Tryz.prog 174 #[.pointer (some ⟨b, o, none⟩), .int .i64 k] W fun e W' => (xs.length = 0 ∧ e = .returned (.tuple #[.int .i64 0, .int .i64 17]) ∧ Below W.heap.size W W') ∨
   (0 < xs.length ∧ e = .returned (.tuple #[.int .i64 (xs.getD i 0), .int .i64 0]) ∧ ∃ vv, Stp n0 d W (updR (updR d iv ⟨vv, 3, 1, xs.length - 1, flatI (xs.take i ++ xs.drop (i + 1))⟩) i0 { d i0 with xs := (d i0).xs.set o vv }) W') := by
 have hrv := h.row iv
 rw [hiv] at hrv
 obtain ⟨A1, c1, e1, -⟩ := row_slice hrv
 dsimp only at e1 hrv
 have x0 : W.cell? ⟨b, o, none⟩ = some (.slice A1 xs.length c1) := by rw [← e1]; exact h.cell i0 hb hov
 have HX0 := Lib.hid x0
 have HR := Lib.hid h
 obtain ⟨n, hn⟩ : ∃ n, xs.length = n := ⟨_, rfl⟩
 have HN := Lib.hid hn
 have HE1 := Lib.hid e1
 have HIV := Lib.hid hrv
 rw [hn] at x0 hl hi
 clear h hn e1
 rcases Nat.eq_zero_or_pos n with h0 | h0
 ·subst h0
  clear hrv
  go_enter Tryz.func174, Tryz.ntmps174
  go_wp2_with fail
  go_ret2
  exact .inl ⟨HN.out, rfl, Below.refl _ _⟩
 ·obtain ⟨rfl, hin⟩ := hi h0
  obtain ⟨g, c2, hv2, -, -, hcell⟩ := row_some hrv (by rw [HN.out]; exact h0)
  rw [HE1.out] at hv2
  injection hv2 with a1 a2 a3
  subst a1 a3
  obtain ⟨y, hy⟩ : ∃ y, xs.getD i 0 = y := ⟨_, rfl⟩
  have x1 : W.cell? ⟨g, i, none⟩ = some (.int .i64 y) := by
   rw [hcell i (by rw [HN.out]; omega), ← hy]
   have : i < xs.length := by rw [HN.out]; exact hin
   simp [flatI, this]
  have hn0 : ¬ (n : Int) = 0 := by omega
  have hn1 : ((n : Int) == 0) = false := by simpa using hn0
  have hin' : (i : Int) < (n : Int) := by omega
  have HIN := Lib.hid (Delete_any HIV.out i (by rw [HN.out]; exact hin) (by rw [HN.out]; exact hl))
  rw [HE1.out, HN.out] at HIN
  have HY := Lib.hid hy
  clear hrv hcell hy hi
  go_enter Tryz.func174, Tryz.ntmps174
  go_wp2_with fail
  refine HIN.out.mono ?_
  rintro e w2 ⟨v', rfl, ho, hc, hob⟩
  have hys : (xs.take i ++ xs.drop (i + 1)).length = n - 1 := by rw [← HN.out]; simp; have := HN.out; omega
  rw [hys] at ho
  obtain ⟨A8, cap8, rfl, -, -⟩ := row_slice ho
  have st1 : Stp n0 d W (updR d iv ⟨.slice A8 (n - 1) cap8, 3, 1, n - 1, flatI (xs.take i ++ xs.drop (i + 1))⟩) w2 :=
   Stp.upd (i := iv) HR.out (hc.mono fun b' _ hb' => by rw [HE1.out, HN.out]; exact hb') ho (fun b' hb' => by rw [HE1.out, HN.out]; exact hob b' hb')
  have hd0 : updR d iv ⟨.slice A8 (n - 1) cap8, 3, 1, n - 1, flatI (xs.take i ++ xs.drop (i + 1))⟩ i0 = d i0 := updR_other h01
  have z0 : w2.cell? ⟨b, o, none⟩ = some (.slice (some ⟨g, 0, none⟩) n c1) := by rw [← HN.out, ← HE1.out]; exact st1.rws.cell i0 (by rw [hd0]; exact hb) (by rw [hd0]; exact hov)
  have zf : w2.frozen? ⟨b, o, none⟩ = false := st1.rws.frozen i0 (by rw [hd0]; exact hb) o
  have st2 := Stp.set (i := i0) st1.rws (g := b) (by rw [hd0]; exact hb) (o := o) (by rw [hd0]; exact (List.getElem?_eq_some_iff.1 hov).1) (.slice A8 (n - 1) cap8)
  rw [hd0] at st2
  have HFN := Lib.hid (st1.trans st2)
  clear st1 st2 ho hc hob HIN
  go_wp2_with fail
  go_ret2
  refine .inr ⟨by rw [HN.out]; omega, by rw [HY.out]; rfl, .slice A8 (n - 1) cap8, ?_⟩
  rw [HN.out]
  exact HFN.out
end
end Go.Proofs.YtgnfpcebmefhoaaGreat
namespace Go.Proofs.YtgnfpcebmefhoaaGreat
open Go Go.RowKit
theorem rows_tin (P : Ph) (S : ST) (vv : Value) (ys : List Int) : rows { P with vI := vv } { S with tin := ys } = updR (updR (rows P S) .tin ⟨vv, 3, 1, ys.length, flatI ys⟩) .tb { rows P S .tb with xs := (rows P S .tb).xs.set 0 vv } := by
 funext r
 cases r with
 | calls => simp only [updR, reduceCtorEq, if_false, rows]; rw [flatF_congr (P := P) (P' := { P with vI := vv }) rfl rfl]
 | _ => simp [updR, rows]
theorem rows_tout (P : Ph) (S : ST) (vv : Value) (ys : List Int) : rows { P with vO := vv } { S with tout := ys } = updR (updR (rows P S) .tout ⟨vv, 3, 1, ys.length, flatI ys⟩) .tb { rows P S .tb with xs := (rows P S .tb).xs.set 1 vv } := by
 funext r
 cases r with
 | calls => simp only [updR, reduceCtorEq, if_false, rows]; rw [flatF_congr (P := P) (P' := { P with vO := vv }) rfl rfl]
 | _ => simp [updR, rows]
theorem WF_tin {S : ST} (h : S.WF) (ys : List Int) (hl : ys.length ≤ 4096) (hy : ∀ x ∈ ys, I64 x) : ({ S with tin := ys } : ST).WF := ⟨h.ex, h.ncalls, h.cells, ⟨hl, hy⟩, h.tout⟩
theorem WF_tout {S : ST} (h : S.WF) (ys : List Int) (hl : ys.length ≤ 4096) (hy : ∀ x ∈ ys, I64 x) : ({ S with tout := ys } : ST).WF := ⟨h.ex, h.ncalls, h.cells, h.tin, ⟨hl, hy⟩⟩
set_option maxHeartbeats 4000000 in
set_option maxRecDepth 100000 in
theorem Read_any {W : World} {n0 : Nat} {P : Ph} {S : ST} (h : SR W n0 P S) : Calls Tryz.prog 162 #[.pointer (some ⟨P.tb, 0, none⟩)] W fun e W' =>
  (S.tin = [] ∧ e = .returned (.tuple #[.int .i64 0, .int .i64 17]) ∧ Below W.heap.size W W') ∨ (∃ x r, S.tin = x :: r ∧ e = .returned (.tuple #[.int .i64 x, .int .i64 0]) ∧ ∃ vv, SStp n0 P S W { P with vI := vv } { S with tin := r } W') := by
 have HRM := Lib.hid (tremove_any h.rws .tb .tin (by simp) P.tb 0 rfl rfl S.tin rfl h.wf.tin.1 0 0 (fun h => ⟨rfl, h⟩))
 have HWF := Lib.hid h.wf
 clear h
 go_enter Tryz.func162, Tryz.ntmps162
 go_wp2_with fail
 refine HRM.out.mono ?_
 rintro e w1 hh
 rcases hh with ⟨h0, rfl, hb⟩ | ⟨h0, rfl, vv, hst⟩
 ·have HH := Lib.hid h0
  have HB := Lib.hid hb
  clear h0 hb
  go_wp2_with fail
  go_ret2
  exact .inl ⟨List.length_eq_zero_iff.1 HH.out, rfl, HB.out⟩
 ·have HH := Lib.hid h0
  have HST := Lib.hid hst
  clear h0 hst
  go_wp2_with fail
  go_ret2
  refine .inr ?_
  obtain ⟨x, r, hxr⟩ : ∃ x r, S.tin = x :: r := by
   cases hc : S.tin with
   | nil => have := HH.out; rw [hc] at this; simp at this
   | cons x r => exact ⟨x, r, rfl⟩
  have ht := HWF.out.tin
  rw [hxr] at ht
  refine ⟨x, r, hxr, by rw [hxr]; rfl, vv, ⟨HST.out.cast ?_, WF_tin HWF.out r (by have := ht.1; simp at this; omega) fun y hy => ht.2 y (List.mem_cons_of_mem _ hy)⟩⟩
  rw [rows_tin P S vv r, hxr]
  simp
set_option maxHeartbeats 4000000 in
set_option maxRecDepth 100000 in
theorem Unread_any {W : World} {n0 : Nat} {P : Ph} {S : ST} (h : SR W n0 P S) (x : Int) (hx : I64 x) : Calls Tryz.prog 163 #[.pointer (some ⟨P.tb, 0, none⟩), .int .i64 x] W fun e W' =>
  (4096 ≤ S.tin.length ∧ e = .returned (.int .i64 5) ∧ Below W.heap.size W W') ∨ (S.tin.length < 4096 ∧ e = .returned (.int .i64 0) ∧ ∃ vv, SStp n0 P S W { P with vI := vv } { S with tin := x :: S.tin } W') := by
 have HRM := Lib.hid (tinsert_any h.rws .tb .tin (by simp) P.tb 0 rfl rfl S.tin rfl h.wf.tin.1 0 (Nat.zero_le _) x)
 have HWF := Lib.hid h.wf
 clear h
 go_enter Tryz.func163, Tryz.ntmps163
 go_wp2_with fail
 refine HRM.out.mono ?_
 rintro e w1 hh
 rcases hh with ⟨h0, rfl, hb⟩ | ⟨h0, rfl, vv, hst⟩
 ·have HH := Lib.hid h0
  have HB := Lib.hid hb
  clear h0 hb
  go_wp2_with fail
  go_ret
  exact .inl ⟨HH.out, rfl, HB.out⟩
 ·have HH := Lib.hid h0
  have HST := Lib.hid hst
  clear h0 hst
  go_wp2_with fail
  go_ret
  have ht := HWF.out.tin
  refine .inr ⟨HH.out, rfl, vv, ⟨HST.out.cast ?_, WF_tin HWF.out _ (by have := HH.out; simp; omega) fun y hy => ?_⟩⟩
  ·rw [rows_tin P S vv (x :: S.tin)]
   simp
  ·rcases List.mem_cons.1 hy with rfl | hy
   ·exact hx
   ·exact ht.2 y hy
theorem fnTinsert : IsFn Tryz.prog 175 Tryz.f175 := ⟨Tryz.func175, by kernel_rfl, by kernel_rfl⟩
theorem fnTremove : IsFn Tryz.prog 174 Tryz.f174 := ⟨Tryz.func174, by kernel_rfl, by kernel_rfl⟩
set_option maxHeartbeats 4000000 in
set_option maxRecDepth 100000 in
theorem Write_any {W : World} {n0 : Nat} {P : Ph} {S : ST} (h : SR W n0 P S) (x : Int) (hx : I64 x) : Calls Tryz.prog 165 #[.pointer (some ⟨P.tb, 0, none⟩), .int .i64 x] W fun e W' =>
  (4096 ≤ S.tout.length ∧ e = .returned (.int .i64 5) ∧ Below W.heap.size W W') ∨ (S.tout.length < 4096 ∧ e = .returned (.int .i64 0) ∧ ∃ vv, SStp n0 P S W { P with vO := vv } { S with tout := S.tout ++ [x] } W') := by
 have HRM := Lib.hid (tinsert_any (h.later (Below.refl _ _).drew).rws .tb .tout (by simp) P.tb 1 rfl rfl S.tout rfl h.wf.tout.1 S.tout.length (Nat.le_refl _) x)
 have HWF := Lib.hid h.wf
 have HS := Lib.hid h
 obtain ⟨A, c, hv, hc, -⟩ := row_slice (h.rws.row .tout)
 change P.vO = .slice A S.tout.length c at hv
 have x0 : W.cell? ⟨P.tb, 1, none⟩ = some (.slice A S.tout.length c) := by rw [← hv]; exact cell_of_blk h.tbox rfl
 obtain ⟨n, hn⟩ : ∃ n, S.tout.length = n := ⟨_, rfl⟩
 rw [hn] at x0
 have HN := Lib.hid hn
 have had : Calls Tryz.prog 175 [.pointer (some ⟨P.tb, 1, none⟩), .int .i64 n, .int .i64 x].toArray W.drew fun e W' => ∃ u, e = .returned u ∧
   ((4096 ≤ n ∧ u = .int .i64 5 ∧ Below W.heap.size W W') ∨ (n < 4096 ∧ u = .int .i64 0 ∧ ∃ vv, SStp n0 P S W { P with vO := vv } { S with tout := S.tout ++ [x] } W')) := by
  rw [← hn]
  refine HRM.out.mono ?_
  rintro e W' hh
  rcases hh with ⟨h0, rfl, hb⟩ | ⟨h0, rfl, vv, hst⟩
  ·exact ⟨_, rfl, .inl ⟨h0, rfl, bl_tt (Below.refl _ _).drew hb⟩⟩
  ·have ht := HWF.out.tout
   refine ⟨_, rfl, .inr ⟨h0, rfl, vv, ⟨((Stp.after hst (Below.refl _ _).drew HS.out.rws).cast ?_), WF_tout HWF.out _ (by simp; omega) fun y hy => ?_⟩⟩⟩
   ·rw [rows_tout P S vv (S.tout ++ [x]), List.take_of_length_le (Nat.le_refl _), List.drop_eq_nil_of_le (Nat.le_refl _)]
    simp
   ·simp only [List.mem_append, List.mem_singleton] at hy
    rcases hy with hy | rfl
    ·exact ht.2 y hy
    ·exact hx
 clear h hv hc hn HRM
 go_enter Tryz.func165, Tryz.ntmps165
 go_upto_region 3 with fail
 have hSS : (fun _ : World => True) W.drew ∧ (fun w' : World => w'.cell? ⟨P.tb, 1, none⟩ = some (.slice A n c)) W.drew := ⟨trivial, x0⟩
 refine wp_region_noPanic ?_
 refine wp_region_G (fun _ : World => True) (fun w' : World => w'.cell? ⟨P.tb, 1, none⟩ = some (.slice A n c)) 9 (by kernel_rfl) ?_
 refine wpG_take1 (i := 0) (v := ?_) rfl (by kernel_rfl) (by kernel_rfl) (by kernel_rfl) (by decide) (fun _ _ _ h => h) (Or.inl ⟨by rfl, ?_⟩) hSS ?_
 rotate_left 1
 ·(intro w hSw; (try dsimp only at hSw); (try simp only [zA, zC]); go_simp; (try with_reducible rfl))
 (try simp only [Act.put, zA, zC, zD, zE, zF])
 refine wpG_take1 (i := 1) (v := ?_) rfl (by kernel_rfl) (by kernel_rfl) (by kernel_rfl) (by decide) (fun _ _ _ h => h) (Or.inl ⟨by rfl, ?_⟩) hSS ?_
 rotate_left 1
 ·(intro w hSw; (try dsimp only at hSw); (try simp only [zA, zB, zC]); go_simp; (try with_reducible rfl))
 (try simp only [Act.put, zA, zB, zC, zD, zE, zF])
 refine wpG_take1 (i := 2) (v := ?_) rfl (by kernel_rfl) (by kernel_rfl) (by kernel_rfl) (by decide) (fun _ _ _ h => h) (Or.inl ⟨by rfl, ?_⟩) hSS ?_
 rotate_left 1
 ·(intro w hSw; (try dsimp only at hSw); (try simp only [zA, zB, zC]); go_simp; (try with_reducible rfl))
 (try simp only [Act.put, zA, zB, zC, zD, zE, zF])
 refine wpG_take1 (i := 3) (v := ?_) rfl (by kernel_rfl) (by kernel_rfl) (by kernel_rfl) (by decide) (fun _ _ _ h => h) (Or.inl ⟨by rfl, ?_⟩) hSS ?_
 rotate_left 1
 ·(intro w hSw; (try dsimp only at hSw); (try simp only [zA, zB, zC]); go_simp; (try with_reducible rfl))
 (try simp only [Act.put, zA, zB, zC, zD, zE, zF])
 refine wpG_take1 (i := 4) (v := ?_) rfl (by kernel_rfl) (by kernel_rfl) (by kernel_rfl) (by decide) (fun _ _ _ h => h) (Or.inl ⟨by rfl, ?_⟩) hSS ?_
 rotate_left 1
 ·(intro w hSw; (try dsimp only at hSw); (try simp only [zA, zB, zC]); go_simp; (try with_reducible rfl))
 (try simp only [Act.put, zA, zB, zC, zD, zE, zF])
 refine wpG_take1 (i := 5) (v := ?_) rfl (by kernel_rfl) (by kernel_rfl) (by kernel_rfl) (by decide) (fun _ _ _ h => h) (Or.inl ⟨by rfl, ?_⟩) hSS ?_
 rotate_left 1
 ·(intro w hSw; (try dsimp only at hSw); (try simp only [zA, zB, zC]); go_simp; (try with_reducible rfl))
 (try simp only [Act.put, zA, zB, zC, zD, zE, zF])
 refine wpG_takeC (i := 6) (v := ?_) [7] rfl (by kernel_rfl) (by kernel_rfl) (by kernel_rfl) (by decide) (by kernel_rfl) (by kernel_rfl) (fun _ _ _ h => h) (Or.inl ⟨by rfl, ?_⟩) hSS ?_
 rotate_left 1
 ·(intro w hSw; (try dsimp only at hSw); (try simp only [zA, zB, zC]); go_simp; (try with_reducible rfl))
 (try simp only [Act.put, zA, zB, zC, zD, zE, zF])
 refine wpG_take1 (i := 7) (v := ?_) rfl (by kernel_rfl) (by kernel_rfl) (by kernel_rfl) (by decide) (fun _ _ _ h => h) (Or.inl ⟨by rfl, ?_⟩) hSS ?_
 rotate_left 1
 ·(intro w hSw; (try dsimp only at hSw); (try simp only [zA, zB, zC]); go_simp; (try with_reducible rfl))
 (try simp only [Act.put, zA, zB, zC, zD, zE, zF])
 refine wpG_take1 (i := 8) (v := ?_) rfl (by kernel_rfl) (by kernel_rfl) (by kernel_rfl) (by decide) (fun _ _ _ h => h) (Or.inl ⟨by rfl, ?_⟩) hSS ?_
 rotate_left 1
 ·(intro w hSw; (try dsimp only at hSw); (try simp only [zA, zB, zC]); go_simp; (try with_reducible rfl))
 (try simp only [Act.put, zA, zB, zC, zD, zE, zF])
 refine wpG_past (i := 9) (by kernel_rfl) rfl (by kernel_rfl) (fun K hK => ?_)
 refine step_callL (by rfl) (.func 175) [.tmp 9, .tmp 14, .tmp 15] _ (by rfl) 175 _ fnTinsert (by rfl) _ (by rfl) _ had ?_
 rintro v4 w4 hh
 have HH := Lib.hid hh
 have hv4 : ∃ y, v4 = .int .i64 y := by rcases hh with ⟨_, rfl, _⟩ | ⟨_, rfl, _⟩ <;> exact ⟨_, rfl⟩
 obtain ⟨y, rfl⟩ := hv4
 refine hK.out _ _ trivial ?_
 clear hK K hSS had hh
 (try simp only [Act.put, zA, zB, zC, zD, zE, zF])
 refine wpG_past (i := 10) (by kernel_rfl) rfl (by kernel_rfl) (fun K hK => ?_)
 (try simp only [zA, zB, zC])
 go_simp
 refine hK.out _ _ trivial ?_
 clear hK K
 (try simp only [Act.put, zA, zB, zC, zD, zE, zF])
 refine wpG_done (by kernel_rfl) ?_
 refine NoPanic.normal ?_
 go_wp2_with fail
 go_ret
 rcases HH.out with ⟨h0, h1, h2⟩ | ⟨h0, h1, h2⟩
 ·exact .inl ⟨by rw [HN.out]; exact h0, by rw [← h1]; rfl, h2⟩
 ·exact .inr ⟨by rw [HN.out]; exact h0, by rw [← h1]; rfl, h2⟩
set_option maxHeartbeats 4000000 in
set_option maxRecDepth 100000 in
theorem Unwrite_any {W : World} {n0 : Nat} {P : Ph} {S : ST} (h : SR W n0 P S) : Calls Tryz.prog 164 #[.pointer (some ⟨P.tb, 0, none⟩)] W fun e W' =>
  (S.tout = [] ∧ e = .returned (.tuple #[.int .i64 0, .int .i64 17]) ∧ Below W.heap.size W W') ∨ (∃ r x, S.tout = r ++ [x] ∧ e = .returned (.tuple #[.int .i64 x, .int .i64 0]) ∧ ∃ vv, SStp n0 P S W { P with vO := vv } { S with tout := r } W') := by
 have HRM := Lib.hid (tremove_any (h.later (Below.refl _ _).drew).rws .tb .tout (by simp) P.tb 1 rfl rfl S.tout rfl h.wf.tout.1 ((S.tout.length : Int) - 1) (S.tout.length - 1) (fun h => ⟨by omega, by omega⟩))
 have HWF := Lib.hid h.wf
 have HS := Lib.hid h
 obtain ⟨A, c, hv, hc, -⟩ := row_slice (h.rws.row .tout)
 change P.vO = .slice A S.tout.length c at hv
 have x0 : W.cell? ⟨P.tb, 1, none⟩ = some (.slice A S.tout.length c) := by rw [← hv]; exact cell_of_blk h.tbox rfl
 have hlen := h.wf.tout.1
 obtain ⟨n, hn⟩ : ∃ n, S.tout.length = n := ⟨_, rfl⟩
 rw [hn] at x0 hlen
 have had : Calls Tryz.prog 174 [.pointer (some ⟨P.tb, 1, none⟩), .int .i64 ((n : Int) - 1)].toArray W.drew fun e W' => ∃ u, e = .returned u ∧ ∃ a1 a2, u = .tuple #[.int .i64 a1, .int .i64 a2] ∧
   ((S.tout = [] ∧ (a1, a2) = ((0 : Int), (17 : Int)) ∧ Below W.heap.size W W') ∨ (∃ r x, S.tout = r ++ [x] ∧ (a1, a2) = (x, 0) ∧ ∃ vv, SStp n0 P S W { P with vO := vv } { S with tout := r } W')) := by
  rw [← hn]
  refine HRM.out.mono ?_
  rintro e W' hh
  rcases hh with ⟨h0, rfl, hb⟩ | ⟨h0, rfl, vv, hst⟩
  ·exact ⟨_, rfl, _, _, rfl, .inl ⟨List.length_eq_zero_iff.1 h0, rfl, bl_tt (Below.refl _ _).drew hb⟩⟩
  ·have ht := HWF.out.tout
   obtain ⟨r, x, hrx⟩ : ∃ r x, S.tout = r ++ [x] := ⟨S.tout.dropLast, S.tout.getLast (by intro e; rw [e] at h0; simp at h0), (List.dropLast_concat_getLast _).symm⟩
   rw [hrx] at ht
   refine ⟨_, rfl, _, _, rfl, .inr ⟨r, x, hrx, ?_, vv, ⟨((Stp.after hst (Below.refl _ _).drew HS.out.rws).cast ?_), WF_tout HWF.out _ (by have := ht.1; simp at this; omega) fun y hy => ht.2 y (List.mem_append_left _ hy)⟩⟩⟩
   ·rw [hrx]; simp
   ·rw [rows_tout P S vv r, hrx]
    simp
 clear h hv hc hn HRM
 have hw1 : IntKind.i64.wrap ((n : Int) - 1) = (n : Int) - 1 := IntWalk.i64_in _ (by omega)
 go_enter Tryz.func164, Tryz.ntmps164
 go_upto_region 3 with fail
 have hSS : (fun _ : World => True) W.drew ∧ (fun w' : World => w'.cell? ⟨P.tb, 1, none⟩ = some (.slice A n c)) W.drew := ⟨trivial, x0⟩
 refine wp_region_noPanic ?_
 refine wp_region_G (fun _ : World => True) (fun w' : World => w'.cell? ⟨P.tb, 1, none⟩ = some (.slice A n c)) 9 (by kernel_rfl) ?_
 refine wpG_take1 (i := 0) (v := ?_) rfl (by kernel_rfl) (by kernel_rfl) (by kernel_rfl) (by decide) (fun _ _ _ h => h) (Or.inl ⟨by rfl, ?_⟩) hSS ?_
 rotate_left 1
 ·(intro w hSw; (try dsimp only at hSw); (try simp only [zA, zC]); go_simp; (try with_reducible rfl))
 (try simp only [Act.put, zA, zC, zD, zE, zF])
 refine wpG_take1 (i := 1) (v := ?_) rfl (by kernel_rfl) (by kernel_rfl) (by kernel_rfl) (by decide) (fun _ _ _ h => h) (Or.inl ⟨by rfl, ?_⟩) hSS ?_
 rotate_left 1
 ·(intro w hSw; (try dsimp only at hSw); (try simp only [zA, zB, zC]); go_simp; (try with_reducible rfl))
 (try simp only [Act.put, zA, zB, zC, zD, zE, zF])
 refine wpG_take1 (i := 2) (v := ?_) rfl (by kernel_rfl) (by kernel_rfl) (by kernel_rfl) (by decide) (fun _ _ _ h => h) (Or.inl ⟨by rfl, ?_⟩) hSS ?_
 rotate_left 1
 ·(intro w hSw; (try dsimp only at hSw); (try simp only [zA, zB, zC]); go_simp; (try with_reducible rfl))
 (try simp only [Act.put, zA, zB, zC, zD, zE, zF])
 refine wpG_take1 (i := 3) (v := ?_) rfl (by kernel_rfl) (by kernel_rfl) (by kernel_rfl) (by decide) (fun _ _ _ h => h) (Or.inl ⟨by rfl, ?_⟩) hSS ?_
 rotate_left 1
 ·(intro w hSw; (try dsimp only at hSw); (try simp only [zA, zB, zC]); go_simp; (try with_reducible rfl))
 (try simp only [Act.put, zA, zB, zC, zD, zE, zF])
 refine wpG_take1 (i := 4) (v := ?_) rfl (by kernel_rfl) (by kernel_rfl) (by kernel_rfl) (by decide) (fun _ _ _ h => h) (Or.inl ⟨by rfl, ?_⟩) hSS ?_
 rotate_left 1
 ·(intro w hSw; (try dsimp only at hSw); (try simp only [zA, zB, zC]); go_simp; (try with_reducible rfl))
 (try simp only [Act.put, zA, zB, zC, zD, zE, zF])
 refine wpG_take1 (i := 5) (v := ?_) rfl (by kernel_rfl) (by kernel_rfl) (by kernel_rfl) (by decide) (fun _ _ _ h => h) (Or.inl ⟨by rfl, ?_⟩) hSS ?_
 rotate_left 1
 ·(intro w hSw; (try dsimp only at hSw); (try simp only [zA, zB, zC]); go_simp; (try with_reducible rfl))
 (try simp only [Act.put, zA, zB, zC, zD, zE, zF])
 refine wpG_takeC (i := 6) (v := ?_) [7, 8] rfl (by kernel_rfl) (by kernel_rfl) (by kernel_rfl) (by decide) (by kernel_rfl) (by kernel_rfl) (fun _ _ _ h => h) (Or.inl ⟨by rfl, ?_⟩) hSS ?_
 rotate_left 1
 ·(intro w hSw; (try dsimp only at hSw); (try simp only [zA, zB, zC]); go_simp; (try with_reducible rfl))
 (try simp only [Act.put, zA, zB, zC, zD, zE, zF])
 refine wpG_take1 (i := 7) (v := ?_) rfl (by kernel_rfl) (by kernel_rfl) (by kernel_rfl) (by decide) (fun _ _ _ h => h) (Or.inl ⟨by rfl, ?_⟩) hSS ?_
 rotate_left 1
 ·(intro w hSw; (try dsimp only at hSw); (try simp only [zA, zB, zC]); go_simp; (try with_reducible rfl))
 (try simp only [Act.put, zA, zB, zC, zD, zE, zF])
 refine wpG_take1 (i := 8) (v := ?_) rfl (by kernel_rfl) (by kernel_rfl) (by kernel_rfl) (by decide) (fun _ _ _ h => h) (Or.inl ⟨by rfl, ?_⟩) hSS ?_
 rotate_left 1
 ·(intro w hSw; (try dsimp only at hSw); (try simp only [zA, zB, zC]); go_simp; (try with_reducible rfl))
 (try simp only [Act.put, zA, zB, zC, zD, zE, zF])
 refine wpG_past (i := 9) (by kernel_rfl) rfl (by kernel_rfl) (fun K hK => ?_)
 refine step_callL (by rfl) (.func 174) [.tmp 8, .tmp 14] _ (by rfl) 174 _ fnTremove (by rfl) _ (by rfl) _ had ?_
 rintro v4 w4 ⟨a1, a2, rfl, hh⟩
 have HH := Lib.hid hh
 refine hK.out _ _ trivial ?_
 clear hK K hSS had hh
 (try simp only [Act.put, zA, zB, zC, zD, zE, zF])
 refine wpG_takeP (i := 10) (v := ?_) rfl (by kernel_rfl) (by kernel_rfl) (by kernel_rfl) (by decide) (by kernel_rfl) (fun _ _ _ h => h) (Or.inl ⟨by rfl, ?_⟩) trivial ?_
 rotate_left 1
 ·(intro w hSw; (try dsimp only at hSw); (try simp only [zA, zB, zC]); go_simp; (try with_reducible rfl))
 (try simp only [Act.put, zA, zB, zC, zD, zE, zF])
 refine wpG_takeP (i := 11) (v := ?_) rfl (by kernel_rfl) (by kernel_rfl) (by kernel_rfl) (by decide) (by kernel_rfl) (fun _ _ _ h => h) (Or.inl ⟨by rfl, ?_⟩) trivial ?_
 rotate_left 1
 ·(intro w hSw; (try dsimp only at hSw); (try simp only [zA, zB, zC]); go_simp; (try with_reducible rfl))
 (try simp only [Act.put, zA, zB, zC, zD, zE, zF])
 refine wpG_past (i := 12) (by kernel_rfl) rfl (by kernel_rfl) (fun K hK => ?_)
 (try simp only [zA, zB, zC])
 go_simp
 refine hK.out _ _ trivial ?_
 clear hK K
 (try simp only [Act.put, zA, zB, zC, zD, zE, zF])
 refine wpG_past (i := 13) (by kernel_rfl) rfl (by kernel_rfl) (fun K hK => ?_)
 (try simp only [zA, zB, zC])
 go_simp
 refine hK.out _ _ trivial ?_
 clear hK K
 (try simp only [Act.put, zA, zB, zC, zD, zE, zF])
 refine wpG_done (by kernel_rfl) ?_
 refine NoPanic.normal ?_
 go_wp2_with fail
 go_ret2
 rcases HH.out with ⟨h0, h1, h2⟩ | ⟨r, x, h0, h1, h2⟩
 ·injection h1 with e1 e2
  subst e1 e2
  exact .inl ⟨h0, rfl, h2⟩
 ·injection h1 with e1 e2
  subst e1 e2
  exact .inr ⟨r, a1, h0, rfl, h2⟩
end Go.Proofs.YtgnfpcebmefhoaaGreat
