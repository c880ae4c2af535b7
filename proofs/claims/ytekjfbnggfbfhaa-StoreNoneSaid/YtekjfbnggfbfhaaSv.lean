/-
  slices.Equal at integers; backstepref10.Ints. Printed by wip/gen/sf_eq.py.
-/
import Derived.Test.YtekjfbnggfbfhaaRowI
import Derived.Test.YtekjfbnggfbfhaaEv
import Derived.Deep.RegionHeld3
import Derived.Deep.DeepCutAuto
namespace Go.Proofs.Ytekjfbnggfbfhaa
open Go Go.RowKit

set_option maxHeartbeats 4000000 in
set_option maxRecDepth 100000 in
theorem SEqual_any (xs ys : List Int) (A B : Option Addr) (c d : Nat) (w : World) (hx : RowI w Any A xs) (hy : RowI w Any B ys) (hl : xs.length ≤ 1000000) (hm : ys.length ≤ 1000000) :
    Calls Try.prog 43 #[.slice A xs.length c, .slice B ys.length d] w fun e w' => e = .returned (.bool (decide (xs = ys))) ∧ Below w.heap.size w w' := by
  obtain ⟨R, hR⟩ : ∃ R, decide (xs = ys) = R := ⟨_, rfl⟩
  rw [hR]
  have HR := Lib.hid hR
  have HX := Lib.hid hx
  have HY := Lib.hid hy
  clear hR hx hy
  by_cases hlen : xs.length = ys.length
  · have HL := Lib.hid hlen
    rw [← hlen]
    clear hlen
    go_enter Try.func43, Try.ntmps43
    go_wp2_with fail
    go_loopw [5, 13] (fun _ i wr => ∃ j : Nat, j ≤ xs.length ∧ i = .int .i64 j ∧ Below w.heap.size w wr ∧ Hid (xs.take j = ys.take j)) (fun _ i _ => xs.length - (intOf i).toNat)
    case atStart => exact ⟨0, Nat.zero_le _, rfl, Below.refl _ _, Lib.hid rfl⟩
    case round =>
      obtain ⟨j, hj, rfl, hbl, HJ⟩ := hrel
      have HBL := Lib.hid hbl
      by_cases hlt : j < xs.length
      · have hlt2 : j < ys.length := by rw [← HL.out]; exact hlt
        obtain ⟨a, rfl, h1⟩ := (HX.out.later hbl).nd hlt
        obtain ⟨b, rfl, h2⟩ := (HY.out.later hbl).nd hlt2
        obtain ⟨x, hx⟩ : ∃ x, xs.getD j 0 = x := ⟨_, rfl⟩
        obtain ⟨y, hy⟩ : ∃ y, ys.getD j 0 = y := ⟨_, rfl⟩
        rw [hx] at h1
        rw [hy] at h2
        have hx' : xs[j] = x := by rw [← hx]; simp [hlt]
        have hy' : ys[j] = y := by rw [← hy]; simp [hlt2]
        have HS := Lib.hid (show (fun w' : World => w'.cell? (a.add j) = some (.int .i64 x) ∧ w'.cell? (b.add j) = some (.int .i64 y)) wr.drew from ⟨h1, h2⟩)
        have hj1 : (j : Int) < (xs.length : Int) := by omega
        have HXJ := Lib.hid hx'
        have HYJ := Lib.hid hy'
        clear hbl hx hy hx' hy' h1 h2
        go_upto_region 6 with fail
        go_region_held3 (fun w' : World => w'.cell? (a.add j) = some (.int .i64 x) ∧ w'.cell? (b.add j) = some (.int .i64 y))
          (with_reducible exact HS.out)
          (first | fail)
        by_cases hxy : x = y
        · subst hxy
          have HJ2 : Hid (xs.take (j + 1) = ys.take (j + 1)) := Lib.hid (by rw [List.take_succ_eq_append_getElem hlt, List.take_succ_eq_append_getElem hlt2, HJ.out, HXJ.out, HYJ.out])
          go_wp2_with fail
          go_roundw
          case rel => exact ⟨j + 1, by omega, by go_num, HBL.out.drew, HJ2⟩
          case measure => simp [intOf]; omega
        · have e1 : (x == y) = false := by simpa using hxy
          have e2 : (x != y) = true := by simpa using hxy
          have HF := Lib.hid (show R = false by rw [← HR.out]; exact decide_eq_false fun h => hxy (by subst h; rw [← HXJ.out, ← HYJ.out]))
          clear hxy
          go_wp2_with fail
          go_ret
          exact ⟨by rw [HF.out]; rfl, HBL.out.drew⟩
      · obtain rfl : j = xs.length := by omega
        have HF := Lib.hid (show R = true by
          have h1 := HJ.out
          rw [List.take_of_length_le (Nat.le_refl _), List.take_of_length_le (by rw [HL.out]; exact Nat.le_refl _)] at h1
          rw [← HR.out]
          exact decide_eq_true h1)
        clear hbl
        go_wp2_with fail
        go_ret
        exact ⟨by rw [HF.out]; rfl, HBL.out⟩
  · have HF := Lib.hid (show R = false by rw [← HR.out]; exact decide_eq_false fun h => hlen (by rw [h]))
    have e1 : ((xs.length : Int) == (ys.length : Int)) = false := by simp; omega
    have e2 : ((xs.length : Int) != (ys.length : Int)) = true := by simp; omega
    go_enter Try.func43, Try.ntmps43
    go_wp2_with fail
    go_ret
    exact ⟨by rw [HF.out]; rfl, Below.refl _ _⟩

set_option maxHeartbeats 4000000 in
set_option maxRecDepth 100000 in
theorem Ints_any (xs ys : List Int) (A B : Option Addr) (c d : Nat) (w : World) (hx : RowI w Any A xs) (hy : RowI w Any B ys) (hl : xs.length ≤ 1000000) (hm : ys.length ≤ 1000000) :
    Calls Try.prog 21 #[.slice A xs.length c, .slice B ys.length d] w fun e w' => e = .returned (.bool (decide (xs = ys))) ∧ Below w.heap.size w w' := by
  obtain ⟨R, hR⟩ : ∃ R, decide (xs = ys) = R := ⟨_, rfl⟩
  rw [hR]
  have HR := Lib.hid hR
  have HX := Lib.hid hx
  have HY := Lib.hid hy
  clear hR hx hy
  by_cases hlen : xs.length = ys.length
  · have HL := Lib.hid hlen
    rw [← hlen]
    clear hlen
    go_enter Try.func21, Try.ntmps21
    go_wp2_with fail
    go_loopw [5] (fun i wr => ∃ j : Nat, j ≤ xs.length ∧ i = .int .i64 j ∧ Below w.heap.size w wr ∧ Hid (xs.take j = ys.take j)) (fun i _ => xs.length - (intOf i).toNat)
    case atStart => exact ⟨0, Nat.zero_le _, rfl, Below.refl _ _, Lib.hid rfl⟩
    case round =>
      obtain ⟨j, hj, rfl, hbl, HJ⟩ := hrel
      have HBL := Lib.hid hbl
      by_cases hlt : j < xs.length
      · have hlt2 : j < ys.length := by rw [← HL.out]; exact hlt
        obtain ⟨a, rfl, h1⟩ := (HX.out.later hbl).nd hlt
        obtain ⟨b, rfl, h2⟩ := (HY.out.later hbl).nd hlt2
        obtain ⟨x, hx⟩ : ∃ x, xs.getD j 0 = x := ⟨_, rfl⟩
        obtain ⟨y, hy⟩ : ∃ y, ys.getD j 0 = y := ⟨_, rfl⟩
        rw [hx] at h1
        rw [hy] at h2
        have hx' : xs[j] = x := by rw [← hx]; simp [hlt]
        have hy' : ys[j] = y := by rw [← hy]; simp [hlt2]
        have HS := Lib.hid (show (fun w' : World => w'.cell? (a.add j) = some (.int .i64 x) ∧ w'.cell? (b.add j) = some (.int .i64 y)) wr.drew from ⟨h1, h2⟩)
        have hj1 : (j : Int) < (xs.length : Int) := by omega
        have HXJ := Lib.hid hx'
        have HYJ := Lib.hid hy'
        clear hbl hx hy hx' hy' h1 h2
        go_upto_region 5 with fail
        go_region_held3 (fun w' : World => w'.cell? (a.add j) = some (.int .i64 x) ∧ w'.cell? (b.add j) = some (.int .i64 y))
          (with_reducible exact HS.out)
          (first | fail)
        by_cases hxy : x = y
        · subst hxy
          have HJ2 : Hid (xs.take (j + 1) = ys.take (j + 1)) := Lib.hid (by rw [List.take_succ_eq_append_getElem hlt, List.take_succ_eq_append_getElem hlt2, HJ.out, HXJ.out, HYJ.out])
          go_wp2_with fail
          go_roundw
          case rel => exact ⟨j + 1, by omega, by go_num, HBL.out.drew, HJ2⟩
          case measure => simp [intOf]; omega
        · have e1 : (x == y) = false := by simpa using hxy
          have e2 : (x != y) = true := by simpa using hxy
          have HF := Lib.hid (show R = false by rw [← HR.out]; exact decide_eq_false fun h => hxy (by subst h; rw [← HXJ.out, ← HYJ.out]))
          clear hxy
          go_wp2_with fail
          go_ret
          exact ⟨by rw [HF.out]; rfl, HBL.out.drew⟩
      · obtain rfl : j = xs.length := by omega
        have HF := Lib.hid (show R = true by
          have h1 := HJ.out
          rw [List.take_of_length_le (Nat.le_refl _), List.take_of_length_le (by rw [HL.out]; exact Nat.le_refl _)] at h1
          rw [← HR.out]
          exact decide_eq_true h1)
        clear hbl
        go_wp2_with fail
        go_ret
        exact ⟨by rw [HF.out]; rfl, HBL.out⟩
  · have HF := Lib.hid (show R = false by rw [← HR.out]; exact decide_eq_false fun h => hlen (by rw [h]))
    have e1 : ((xs.length : Int) == (ys.length : Int)) = false := by simp; omega
    have e2 : ((xs.length : Int) != (ys.length : Int)) = true := by simp; omega
    go_enter Try.func21, Try.ntmps21
    go_wp2_with fail
    go_ret
    exact ⟨by rw [HF.out]; rfl, Below.refl _ _⟩

end Go.Proofs.Ytekjfbnggfbfhaa

/-
  State values: rows of rows of integers; the contracts of state.Equal, valid, fixed, Fits.
-/
namespace Go.Proofs.Ytekjfbnggfbfhaa
open Go Go.RowKit

/-- The slice address A leads to the rows ls. -/
def RowII (w : World) (S : Nat → Prop) (A : Option Addr) (ls : List (List Int)) : Prop :=
  ∀ i (hi : i < ls.length), ∃ (a : Addr) (A' : Option Addr) (c' : Nat), A = some a ∧ S a.block ∧ w.cell? (a.add i) = some (.slice A' ls[i].length c') ∧ ls[i].length ≤ c' ∧ RowI w S A' ls[i]
/-- A state: cells, input, output. -/
structure SS where
  cells : List (List Int)
  tin : List Int
  tout : List Int
/-- How long the rows are. -/
def SS.Lim (s : SS) : Prop := s.cells.length ≤ LI ∧ (∀ l ∈ s.cells, l.length ≤ LI) ∧ s.tin.length ≤ LI ∧ s.tout.length ≤ LI
/-- Value v reads as the state s. -/
def SV (w : World) (S : Nat → Prop) (s : SS) (v : Value) : Prop :=
  ∃ A c B d D e, v = .agg #[.slice A s.cells.length c, .slice B s.tin.length d, .slice D s.tout.length e] ∧ RowII w S A s.cells ∧ RowI w S B s.tin ∧ RowI w S D s.tout ∧ s.cells.length ≤ c ∧ s.tin.length ≤ d ∧ s.tout.length ≤ e ∧ s.Lim
section
variable {w w' : World} {S S' : Nat → Prop} {A : Option Addr} {ls : List (List Int)}
theorem RowII.keep (h : RowII w S A ls) (hS : ∀ b, S b → b < w.heap.size → S' b) (hk : ∀ b, S b → b < w.heap.size → w'.heap[b]? = w.heap[b]?) : RowII w' S' A ls := fun i hi => by
  obtain ⟨a, A', c', hA, hSa, h0, hc, hr⟩ := h i hi
  have hlt : a.block < w.heap.size := by have := World.block_lt_of_cell? w _ h0; rwa [block_add] at this
  refine ⟨a, A', c', hA, hS _ hSa hlt, cell_kp h0 ?_, hc, hr.keep hS hk⟩
  simp only [block_add]; exact hk _ hSa hlt
theorem RowII.later (h : RowII w S A ls) (hb : Below w.heap.size w w') : RowII w' S A ls := h.keep (fun _ h _ => h) fun b _ hlt => hb.block b hlt
theorem SV.keep {s : SS} {v : Value} (h : SV w S s v) (hS : ∀ b, S b → b < w.heap.size → S' b) (hk : ∀ b, S b → b < w.heap.size → w'.heap[b]? = w.heap[b]?) : SV w' S' s v := by
  obtain ⟨A, c, B, d, D, e, rfl, h1, h2, h3, h4⟩ := h
  exact ⟨A, c, B, d, D, e, rfl, h1.keep hS hk, h2.keep hS hk, h3.keep hS hk, h4⟩
theorem SV.later {s : SS} {v : Value} (h : SV w S s v) (hb : Below w.heap.size w w') : SV w' S s v := h.keep (fun _ h _ => h) fun b _ hlt => hb.block b hlt
theorem RowII.nd (h : RowII w Any A ls) {i : Nat} (hi : i < ls.length) : ∃ (a : Addr) (l : List Int) (A' : Option Addr) (c' : Nat), A = some a ∧ Hid (ls[i] = l) ∧ w.cell? (a.add i) = some (.slice A' l.length c') ∧ l.length ≤ c' ∧ RowI w Any A' l :=
  let ⟨a, A', c', h1, _, h3, h4, h5⟩ := h i hi; ⟨a, ls[i], A', c', h1, rfl, h3, h4, h5⟩
end

theorem fnSEqual : IsFn Try.prog 43 Try.f43 := ⟨Try.func43, by kernel_rfl, by kernel_rfl⟩

set_option maxHeartbeats 4000000 in
set_option maxRecDepth 100000 in
theorem EqualFuncI_any (xs ys : List (List Int)) (A B : Option Addr) (c d : Nat) (w : World) (hx : RowII w Any A xs) (hy : RowII w Any B ys) (hl : xs.length ≤ 1000000) (hm : ys.length ≤ 1000000) (hbx : ∀ l ∈ xs, l.length ≤ 1000000) (hby : ∀ l ∈ ys, l.length ≤ 1000000) :
    Calls Try.prog 42 #[.slice A xs.length c, .slice B ys.length d, .func (.func 43) #[] #[]] w fun e w' => e = .returned (.bool (decide (xs = ys))) ∧ Below w.heap.size w w' := by
  obtain ⟨R, hR⟩ : ∃ R, decide (xs = ys) = R := ⟨_, rfl⟩
  rw [hR]
  have HR := Lib.hid hR
  have HX := Lib.hid hx
  have HY := Lib.hid hy
  have HBX := Lib.hid hbx
  have HBY := Lib.hid hby
  clear hR hx hy hbx hby
  by_cases hlen : xs.length = ys.length
  · have HL := Lib.hid hlen
    rw [← hlen]
    clear hlen
    go_enter Try.func42, Try.ntmps42
    go_wp2_with fail
    go_loopw [17] (fun i wr => ∃ j : Nat, j ≤ xs.length ∧ i = .int .i64 j ∧ Below w.heap.size w wr ∧ Hid (xs.take j = ys.take j)) (fun i _ => xs.length - (intOf i).toNat)
    case atStart => exact ⟨0, Nat.zero_le _, rfl, Below.refl _ _, Lib.hid rfl⟩
    case round =>
      obtain ⟨j, hj, rfl, hbl, HJ⟩ := hrel
      have HBL := Lib.hid hbl
      by_cases hlt : j < xs.length
      · have hlt2 : j < ys.length := by rw [← HL.out]; exact hlt
        obtain ⟨a, x, A1, c1, rfl, Hx, h1, _, hr1⟩ := (HX.out.later hbl).nd hlt
        obtain ⟨b, y, B1, d1, rfl, Hy, h2, _, hr2⟩ := (HY.out.later hbl).nd hlt2
        have hlx : x.length ≤ 1000000 := by rw [← Hx.out]; exact HBX.out _ (List.getElem_mem hlt)
        have hly : y.length ≤ 1000000 := by rw [← Hy.out]; exact HBY.out _ (List.getElem_mem hlt2)
        obtain ⟨b0, hb0⟩ : ∃ b0, decide (x = y) = b0 := ⟨_, rfl⟩
        have HCA := Lib.hid (hb0 ▸ SEqual_any x y A1 B1 c1 d1 wr hr1 hr2 hlx hly)
        have HB0 := Lib.hid hb0
        have hj1 : (j : Int) < (xs.length : Int) := by omega
        clear hbl hr1 hr2 hb0
        go_wp2_with fail
        refine HCA.out.mono ?_
        rintro e w2 ⟨rfl, bw2⟩
        have HB2 := Lib.hid (bl_tt HBL.out bw2)
        clear bw2 h1 h2
        cases b0
        · have HF := Lib.hid (show R = false by
            rw [← HR.out]
            refine decide_eq_false fun h => of_decide_eq_false HB0.out ?_
            subst h
            rw [← Hx.out, ← Hy.out])
          go_wp2_with fail
          go_ret
          exact ⟨by rw [HF.out]; rfl, HB2.out⟩
        · have HJ2 : Hid (xs.take (j + 1) = ys.take (j + 1)) := Lib.hid (by rw [List.take_succ_eq_append_getElem hlt, List.take_succ_eq_append_getElem hlt2, HJ.out, Hx.out, Hy.out, of_decide_eq_true HB0.out])
          go_wp2_with fail
          go_roundw
          case rel => exact ⟨j + 1, by omega, by go_num, HB2.out, HJ2⟩
          case measure => simp [intOf]; omega
      · obtain rfl : j = xs.length := by omega
        have HF := Lib.hid (show R = true by
          have h1 := HJ.out
          rw [List.take_of_length_le (Nat.le_refl _), List.take_of_length_le (by rw [HL.out]; exact Nat.le_refl _)] at h1
          rw [← HR.out]
          exact decide_eq_true h1)
        clear hbl
        go_wp2_with fail
        go_ret
        exact ⟨by rw [HF.out]; rfl, HBL.out⟩
  · have HF := Lib.hid (show R = false by rw [← HR.out]; exact decide_eq_false fun h => hlen (by rw [h]))
    have e1 : ((xs.length : Int) == (ys.length : Int)) = false := by simp; omega
    have e2 : ((xs.length : Int) != (ys.length : Int)) = true := by simp; omega
    go_enter Try.func42, Try.ntmps42
    go_wp2_with fail
    go_ret
    exact ⟨by rw [HF.out]; rfl, Below.refl _ _⟩

/-- State lengths within these bounds. -/
def SS.Sm (s : SS) : Prop := s.cells.length ≤ 1000000 ∧ (∀ l ∈ s.cells, l.length ≤ 1000000) ∧ s.tin.length ≤ 1000000 ∧ s.tout.length ≤ 1000000
/-- state.Equal. -/
def eqS (s t : SS) : Bool := decide (s.cells = t.cells) && decide (s.tin = t.tin) && decide (s.tout = t.tout)

set_option maxHeartbeats 4000000 in
set_option maxRecDepth 100000 in
theorem StEqual_any (s t : SS) (v1 v2 : Value) (w : World) (h1 : SV w Any s v1) (h2 : SV w Any t v2) (hs : s.Sm) (ht : t.Sm) : Calls Try.prog 24 #[v1, v2] w fun e w' => e = .returned (.bool (eqS s t)) ∧ Below w.heap.size w w' := by
  obtain ⟨A, c, B, d, D, e, rfl, hr1, hr2, hr3, -⟩ := h1
  obtain ⟨A', c', B', d', D', e', rfl, hq1, hq2, hq3, -⟩ := h2
  obtain ⟨b1, hb1⟩ : ∃ b, decide (s.cells = t.cells) = b := ⟨_, rfl⟩
  obtain ⟨b2, hb2⟩ : ∃ b, decide (s.tin = t.tin) = b := ⟨_, rfl⟩
  obtain ⟨b3, hb3⟩ : ∃ b, decide (s.tout = t.tout) = b := ⟨_, rfl⟩
  have hR : eqS s t = (b1 && b2 && b3) := by rw [← hb1, ← hb2, ← hb3]; rfl
  obtain ⟨R, hRR⟩ : ∃ R, eqS s t = R := ⟨_, rfl⟩
  have HRR := Lib.hid (show R = (b1 && b2 && b3) by rw [← hRR]; exact hR)
  rw [hRR]
  have H1 := Lib.hid (show ∀ w', Below w.heap.size w w' → Calls Try.prog 42 #[.slice A s.cells.length c, .slice A' t.cells.length c', .func (.func 43) #[] #[]] w' fun e w'' => e = .returned (.bool b1) ∧ Below w'.heap.size w' w'' from fun w' hb => hb1 ▸ EqualFuncI_any s.cells t.cells A A' c c' w' (hr1.later hb) (hq1.later hb) hs.1 ht.1 hs.2.1 ht.2.1)
  have H2 := Lib.hid (show ∀ w', Below w.heap.size w w' → Calls Try.prog 43 #[.slice B s.tin.length d, .slice B' t.tin.length d'] w' fun e w'' => e = .returned (.bool b2) ∧ Below w'.heap.size w' w'' from fun w' hb => hb2 ▸ SEqual_any s.tin t.tin B B' d d' w' (hr2.later hb) (hq2.later hb) hs.2.2.1 ht.2.2.1)
  have H3 := Lib.hid (show ∀ w', Below w.heap.size w w' → Calls Try.prog 43 #[.slice D s.tout.length e, .slice D' t.tout.length e'] w' fun e w'' => e = .returned (.bool b3) ∧ Below w'.heap.size w' w'' from fun w' hb => hb3 ▸ SEqual_any s.tout t.tout D D' e e' w' (hr3.later hb) (hq3.later hb) hs.2.2.2 ht.2.2.2)
  generalize s.cells.length = l1, s.tin.length = l2, s.tout.length = l3, t.cells.length = m1, t.tin.length = m2, t.tout.length = m3 at *
  clear hr1 hr2 hr3 hq1 hq2 hq3 hs ht hb1 hb2 hb3 hR hRR
  go_enter Try.func24, Try.ntmps24
  go_wp2_with fail
  have q0 : Below w.heap.size w ((w.alloc (.cells #[.slice A l1 c, .slice B l2 d, .slice D l3 e] 29)).alloc (.cells #[.slice A' m1 c', .slice B' m2 d', .slice D' m3 e'] 29)) := bl_al (bl_al (Below.refl _ _) _) _
  have hP := blk_al (heap_alloc_new w (.cells #[.slice A l1 c, .slice B l2 d, .slice D l3 e] 29)) (.cells #[.slice A' m1 c', .slice B' m2 d', .slice D' m3 e'] 29)
  have hQ := heap_alloc_new (w.alloc (.cells #[.slice A l1 c, .slice B l2 d, .slice D l3 e] 29)) (.cells #[.slice A' m1 c', .slice B' m2 d', .slice D' m3 e'] 29)
  simp only [World.size_alloc] at hQ
  refine (H1.out _ q0).mono ?_
  rintro e9 w1 ⟨rfl, bw1⟩
  have q1 := bl_tt q0 bw1
  have hP1 := blk_bl hP bw1
  have hQ1 := blk_bl hQ bw1
  have x1 : w1.cell? ⟨w.heap.size, 1, none⟩ = some (.slice B l2 d) := cell_of_blk hP1 rfl
  have x2 : w1.cell? ⟨w.heap.size, 2, none⟩ = some (.slice D l3 e) := cell_of_blk hP1 rfl
  have y1 : w1.cell? ⟨w.heap.size + 1, 1, none⟩ = some (.slice B' m2 d') := cell_of_blk hQ1 rfl
  have y2 : w1.cell? ⟨w.heap.size + 1, 2, none⟩ = some (.slice D' m3 e') := cell_of_blk hQ1 rfl
  clear hP hQ hP1 hQ1 q0 bw1
  cases b1
  · have HX := Lib.hid (show R = false by rw [HRR.out]; rfl)
    go_wp2_with fail
    go_ret
    exact ⟨by rw [HX.out]; rfl, q1⟩
  · go_wp2_with fail
    refine (H2.out _ q1).mono ?_
    rintro e9 w2 ⟨rfl, bw2⟩
    have q2 := bl_tt q1 bw2
    have z2 := cell_bl bw2 x2
    have u2 := cell_bl bw2 y2
    clear bw2 x1 x2 y1 y2
    cases b2
    · have HX := Lib.hid (show R = false by rw [HRR.out]; rfl)
      go_wp2_with fail
      go_ret
      exact ⟨by rw [HX.out]; rfl, q2⟩
    · go_wp2_with fail
      refine (H3.out _ q2).mono ?_
      rintro e9 w3 ⟨rfl, bw3⟩
      have q3 := bl_tt q2 bw3
      have HX := Lib.hid (show R = b3 by rw [HRR.out]; simp)
      clear bw3 z2 u2
      go_wp2_with fail
      go_ret
      exact ⟨by rw [HX.out]; rfl, q3⟩

/-- A declaration that state.valid takes. -/
def vdB (v : VD) : Bool := if v.k = 1 ∨ v.k = 3 then v.n == 0 else if v.k = 2 then decide (1 ≤ v.n ∧ v.n ≤ 16) else false
/-- state.valid. -/
def svB (vs : List VD) : Bool := decide (vs.length ≤ 32) && vs.all vdB
/-- state.fixed. -/
def fixE (v : VD) : Int := if v.k = 1 then 1 else v.n

set_option maxHeartbeats 4000000 in
theorem fixed_any (v : VD) (w : World) : Calls Try.prog 47 #[.agg #[.string v.s, .int .u8 v.k, .int .i64 v.n]] w fun e w' => e = .returned (.int .i64 (fixE v)) ∧ Below w.heap.size w w' := by
  obtain ⟨s, k, n⟩ := v
  dsimp only
  by_cases h : k = 1
  · subst h
    go_enter Try.func47, Try.ntmps47
    go_wp2_with fail
    go_ret
    exact ⟨rfl, bl_al (Below.refl _ _) _⟩
  · have e1 : (k == 1) = false := by simpa using h
    have HX := Lib.hid (show fixE ⟨s, k, n⟩ = n by simp [fixE, h])
    obtain ⟨R, hR⟩ : ∃ R, fixE ⟨s, k, n⟩ = R := ⟨_, rfl⟩
    rw [hR] at HX ⊢
    clear h hR
    go_enter Try.func47, Try.ntmps47
    go_wp2_with fail
    go_ret
    exact ⟨by rw [HX.out]; rfl, bl_al (Below.refl _ _) _⟩

set_option maxHeartbeats 4000000 in
set_option maxRecDepth 100000 in
theorem svalid_any (vs : List VD) (A : Option Addr) (c : Nat) (w : World) (hrow : RowV w Any A vs) (hl : vs.length ≤ LV) : Calls Try.prog 46 #[.slice A vs.length c] w fun e w' => e = .returned (.bool (svB vs)) ∧ Below w.heap.size w w' := by
  have hl' := LV_int hl
  obtain ⟨R, hR⟩ : ∃ R, svB vs = R := ⟨_, rfl⟩
  rw [hR]
  have HR := Lib.hid hR
  have HROW := Lib.hid hrow
  clear hR hrow hl
  by_cases h32 : vs.length ≤ 32
  · have HN := Lib.hid (show R = vs.all vdB by rw [← HR.out, svB, decide_eq_true h32]; rfl)
    clear HR
    go_enter Try.func46, Try.ntmps46
    go_wp2_with fail
    go_loopw [10] (fun i wr => ∃ j : Nat, j ≤ vs.length ∧ i = .int .i64 j ∧ Below w.heap.size w wr ∧ Hid ((vs.take j).all vdB = true)) (fun i _ => vs.length - (intOf i).toNat)
    case atStart => exact ⟨0, Nat.zero_le _, rfl, Below.refl _ _, Lib.hid rfl⟩
    case round =>
      obtain ⟨j, hj, rfl, hbl, HJ⟩ := hrel
      have HBL := Lib.hid hbl
      by_cases hlt : j < vs.length
      · obtain ⟨a, rfl, -, ⟨y0, y1, y2⟩, -⟩ := (HROW.out.later hbl) j hlt
        obtain ⟨v, hv⟩ : ∃ v, vs[j] = v := ⟨_, rfl⟩
        rw [hv] at y0 y1 y2
        obtain ⟨vm, vk, vn⟩ := v
        have Hv := Lib.hid hv
        have HGO := Lib.hid (show vdB ⟨vm, vk, vn⟩ = true → (vs.take (j + 1)).all vdB = true from fun h => by rw [List.take_succ_eq_append_getElem hlt, List.all_append, HJ.out, hv]; simp [h])
        have HNO := Lib.hid (show vdB ⟨vm, vk, vn⟩ = false → R = false from fun h => by
          rw [HN.out]
          exact Bool.eq_false_iff.2 fun h' => by
            have := List.all_eq_true.1 h' _ (List.getElem_mem hlt)
            rw [hv, h] at this
            cases this)
        dsimp only at y0 y1 y2
        clear hbl hv
        have hb0 : ∀ b, vdB ⟨vm, vk, vn⟩ = b → True := fun _ _ => trivial
        by_cases k13 : vk = 1 ∨ vk = 3
        · by_cases hn : vn = 0
          · have HJ2 := Lib.hid (HGO.out (by simp [vdB, k13, hn]))
            subst hn
            clear HGO HNO hb0
            rcases k13 with rfl | rfl
            all_goals
              go_wp2_with fail
              go_roundw
              case rel => exact ⟨j + 1, by omega, by go_num, bl_al HBL.out _, HJ2⟩
              case measure => simp [intOf]; omega
          · have HX := Lib.hid (HNO.out (by simp [vdB, k13, hn]))
            have e1 : (vn == 0) = false := by simpa using hn
            have e2 : (vn != 0) = true := by simpa using hn
            clear HGO HNO hb0 hn
            rcases k13 with rfl | rfl
            all_goals
              go_wp2_with fail
              go_ret
              exact ⟨by rw [HX.out]; rfl, bl_al HBL.out _⟩
        · by_cases k2 : vk = 2
          · subst k2
            by_cases h1 : vn < 1
            · have HX := Lib.hid (HNO.out (by simp [vdB]; omega))
              clear HGO HNO hb0 k13
              go_wp2_with fail
              go_ret
              exact ⟨by rw [HX.out]; rfl, bl_al HBL.out _⟩
            · by_cases h16 : 16 < vn
              · have HX := Lib.hid (HNO.out (by simp [vdB]; omega))
                clear HGO HNO hb0 k13
                go_wp2_with fail
                go_ret
                exact ⟨by rw [HX.out]; rfl, bl_al HBL.out _⟩
              · have HJ2 := Lib.hid (HGO.out (by simp [vdB]; omega))
                clear HGO HNO hb0 k13
                go_wp2_with fail
                go_roundw
                case rel => exact ⟨j + 1, by omega, by go_num, bl_al HBL.out _, HJ2⟩
                case measure => simp [intOf]; omega
          · have HX := Lib.hid (HNO.out (by simp [vdB, k13, k2]))
            have x1 : (vk == 1) = false := by simp; omega
            have x2 : (vk == 2) = false := by simp; omega
            have x3 : (vk == 3) = false := by simp; omega
            clear HGO HNO hb0 k13 k2
            go_wp2_with fail
            go_ret
            exact ⟨by rw [HX.out]; rfl, bl_al HBL.out _⟩
      · obtain rfl : j = vs.length := by omega
        have HX := Lib.hid (show R = true by
          have := HJ.out
          rw [List.take_of_length_le (Nat.le_refl _)] at this
          rw [HN.out]; exact this)
        clear hbl
        go_wp2_with fail
        go_ret
        exact ⟨by rw [HX.out]; rfl, HBL.out⟩
  · have HX := Lib.hid (show R = false by rw [← HR.out, svB, decide_eq_false h32]; rfl)
    have h33 : (32 : Int) < (vs.length : Int) := by omega
    clear h32
    go_enter Try.func46, Try.ntmps46
    go_wp2_with fail
    go_ret
    exact ⟨by rw [HX.out]; rfl, Below.refl _ _⟩

end Go.Proofs.Ytekjfbnggfbfhaa

/-
  state: the contract of Fits.
-/
namespace Go.Proofs.Ytekjfbnggfbfhaa
open Go Go.RowKit

/-- One cell fits its declaration. -/
def fit1 (v : VD) (l : List Int) : Bool := if v.k = 3 then decide (l.length ≤ 1000) else decide ((l.length : Int) = fixE v)
/-- The cells fit the declarations, as far as both go. -/
def fitsL : List VD → List (List Int) → Bool
  | v :: vs, l :: ls => fit1 v l && fitsL vs ls
  | _, _ => true
/-- state.Fits. -/
def fitB (vs : List VD) (s : SS) : Bool := svB vs && decide (s.cells.length = vs.length) && decide (s.tin.length ≤ 4096) && decide (s.tout.length ≤ 4096) && fitsL vs s.cells
theorem fitsL_take : ∀ {vs : List VD} {ls : List (List Int)} {j : Nat} (h : j < vs.length) (h' : j < ls.length), fitsL (vs.take (j + 1)) (ls.take (j + 1)) = (fitsL (vs.take j) (ls.take j) && fit1 vs[j] ls[j])
  | v :: vs, l :: ls, 0, _, _ => by simp [fitsL]
  | v :: vs, l :: ls, j + 1, h, h' => by
    have := fitsL_take (vs := vs) (ls := ls) (j := j) (by simpa using h) (by simpa using h')
    simp only [List.take, fitsL, List.getElem_cons_succ] at this ⊢
    rw [this, Bool.and_assoc]
theorem fitsL_no : ∀ {vs : List VD} {ls : List (List Int)} {j : Nat} (h : j < vs.length) (h' : j < ls.length), fit1 vs[j] ls[j] = false → fitsL vs ls = false
  | v :: vs, l :: ls, 0, _, _, h => by simp only [fitsL, List.getElem_cons_zero] at *; simp [h]
  | v :: vs, l :: ls, j + 1, h, h', h0 => by
    have := fitsL_no (vs := vs) (ls := ls) (j := j) (by simpa using h) (by simpa using h') (by simpa using h0)
    simp [fitsL, this]

set_option maxHeartbeats 4000000 in
set_option maxRecDepth 100000 in
theorem Fits_any (vs : List VD) (s : SS) (A0 : Option Addr) (c0 : Nat) (v : Value) (w : World) (hrow : RowV w Any A0 vs) (hl : vs.length ≤ LV) (hv : SV w Any s v) : Calls Try.prog 30 #[.slice A0 vs.length c0, v] w fun e w' => e = .returned (.bool (fitB vs s)) ∧ Below w.heap.size w w' := by
  obtain ⟨A, c, B, d, D, e, rfl, hr1, hr2, hr3, hc1, hc2, hc3, hl1, hl2, hl3, hl4⟩ := hv
  have hl' := LV_int hl
  have hl1' := LI_int hl1
  have hl3' := LI_int hl3
  have hl4' := LI_int hl4
  obtain ⟨R, hR⟩ : ∃ R, fitB vs s = R := ⟨_, rfl⟩
  rw [hR]
  have HR := Lib.hid hR
  have HROW := Lib.hid hrow
  have HR1 := Lib.hid hr1
  have HL2 := Lib.hid hl2
  obtain ⟨b0, hb0⟩ : ∃ b, svB vs = b := ⟨_, rfl⟩
  have HV := Lib.hid (show ∀ w', Below w.heap.size w w' → Calls Try.prog 46 #[.slice A0 vs.length c0] w' fun e w'' => e = .returned (.bool b0) ∧ Below w'.heap.size w' w'' from fun w' hb => hb0 ▸ svalid_any vs A0 c0 w' (hrow.later hb) hl)
  have HB0 := Lib.hid hb0
  obtain ⟨n1, hn1⟩ : ∃ n, s.cells.length = n := ⟨_, rfl⟩
  obtain ⟨n2, hn2⟩ : ∃ n, s.tin.length = n := ⟨_, rfl⟩
  obtain ⟨n3, hn3⟩ : ∃ n, s.tout.length = n := ⟨_, rfl⟩
  have HN1 := Lib.hid hn1
  have HN := Lib.hid (show R = (b0 && decide (n1 = vs.length) && decide (n2 ≤ 4096) && decide (n3 ≤ 4096) && fitsL vs s.cells) by rw [← hR, ← hb0, ← hn1, ← hn2, ← hn3]; rfl)
  rw [hn1, hn2, hn3]
  rw [hn1] at hl1'
  rw [hn2] at hl3'
  rw [hn3] at hl4'
  clear hR hrow hr1 hr2 hr3 hc1 hc2 hc3 hl1 hl2 hl3 hl4 hl hb0 hn1 hn2 hn3 HR
  go_enter Try.func30, Try.ntmps30
  go_wp2_with fail
  refine (HV.out _ (bl_al (Below.refl _ _) _)).mono ?_
  rintro e9 w1 ⟨rfl, bw1⟩
  have q1 := bl_tt (bl_al (Below.refl w.heap.size w) _) bw1
  have hP := blk_bl (heap_alloc_new w (.cells #[.slice A n1 c, .slice B n2 d, .slice D n3 e] 29)) bw1
  have x0 : w1.cell? ⟨w.heap.size, 0, none⟩ = some (.slice A n1 c) := cell_of_blk hP rfl
  have x1 : w1.cell? ⟨w.heap.size, 1, none⟩ = some (.slice B n2 d) := cell_of_blk hP rfl
  have x2 : w1.cell? ⟨w.heap.size, 2, none⟩ = some (.slice D n3 e) := cell_of_blk hP rfl
  have HP := Lib.hid hP
  have HQ1 := Lib.hid q1
  clear hP q1 bw1
  cases b0
  · have HX := Lib.hid (show R = false by rw [HN.out]; simp)
    clear HN
    go_wp2_with fail
    go_ret
    exact ⟨by rw [HX.out]; rfl, HQ1.out⟩
  by_cases k1 : n1 = vs.length
  case neg =>
    have HX := Lib.hid (show R = false by rw [HN.out]; simp [k1])
    have e1 : ((n1 : Int) == (vs.length : Int)) = false := by simp; omega
    have e2 : ((n1 : Int) != (vs.length : Int)) = true := by simp; omega
    clear HN k1
    go_wp2_with fail
    go_ret
    exact ⟨by rw [HX.out]; rfl, HQ1.out⟩
  by_cases k2 : n2 ≤ 4096
  case neg =>
    have HX := Lib.hid (show R = false by rw [HN.out]; simp [k2])
    have e1 : ((n1 : Int) == (vs.length : Int)) = true := by simp; omega
    have e2 : ((n1 : Int) != (vs.length : Int)) = false := by simp; omega
    have e3 : (4096 : Int) < (n2 : Int) := by omega
    clear HN k1 k2
    go_wp2_with fail
    go_ret
    exact ⟨by rw [HX.out]; rfl, HQ1.out⟩
  by_cases k3 : n3 ≤ 4096
  case neg =>
    have HX := Lib.hid (show R = false by rw [HN.out]; simp [k3])
    have e1 : ((n1 : Int) == (vs.length : Int)) = true := by simp; omega
    have e2 : ((n1 : Int) != (vs.length : Int)) = false := by simp; omega
    have e3 : ¬ (4096 : Int) < (n2 : Int) := by omega
    have e4 : (4096 : Int) < (n3 : Int) := by omega
    clear HN k1 k2 k3
    go_wp2_with fail
    go_ret
    exact ⟨by rw [HX.out]; rfl, HQ1.out⟩
  subst k1
  have HX := Lib.hid (show R = fitsL vs s.cells by rw [HN.out]; simp [k2, k3])
  have e3 : ¬ (4096 : Int) < (n2 : Int) := by omega
  have e4 : ¬ (4096 : Int) < (n3 : Int) := by omega
  clear HN k2 k3 HV
  go_wp2_with fail
  clear x0 x1 x2
  go_loopw [32] (fun i wr => ∃ j : Nat, j ≤ vs.length ∧ i = .int .i64 j ∧ Below w.heap.size w wr ∧ wr.heap[w.heap.size]? = some (.cells #[.slice A vs.length c, .slice B n2 d, .slice D n3 e] 29 (0, 0)) ∧ Hid (fitsL (vs.take j) (s.cells.take j) = true)) (fun i _ => vs.length - (intOf i).toNat)
  case atStart => exact ⟨0, Nat.zero_le _, rfl, HQ1.out, HP.out, Lib.hid (by simp [fitsL])⟩
  case round =>
    obtain ⟨j, hj, rfl, hbl, hbx, HJ⟩ := hrel
    have HBL := Lib.hid hbl
    have HBX := Lib.hid hbx
    by_cases hlt : j < vs.length
    · have hlt2 : j < s.cells.length := by rw [HN1.out]; exact hlt
      obtain ⟨a, rfl, -, ⟨y0, y1, y2⟩, -⟩ := (HROW.out.later hbl) j hlt
      obtain ⟨a', l, A', c', rfl, Hl, z0, _, -⟩ := (HR1.out.later hbl).nd hlt2
      have hll : l.length ≤ LI := by rw [← Hl.out]; exact HL2.out _ (List.getElem_mem hlt2)
      have hll' := LI_int hll
      obtain ⟨v, hv⟩ : ∃ v, vs[j] = v := ⟨_, rfl⟩
      rw [hv] at y0 y1 y2
      have x0 : wr.cell? ⟨w.heap.size, 0, none⟩ = some (.slice (some a') vs.length c) := cell_of_blk hbx rfl
      have x0' := fun o => cell_al (o := o) x0
      have z0' := fun o => cell_al (o := o) z0
      have HGO := Lib.hid (show fit1 v l = true → fitsL (vs.take (j + 1)) (s.cells.take (j + 1)) = true from fun h => by rw [fitsL_take hlt hlt2, HJ.out, hv, Hl.out, h]; rfl)
      have HNO := Lib.hid (show fit1 v l = false → R = false from fun h => by rw [HX.out]; exact fitsL_no hlt hlt2 (by rw [hv, Hl.out]; exact h))
      have HFX := Lib.hid (fixed_any v)
      have hj1 : (j : Int) < (vs.length : Int) := by omega
      obtain ⟨vm, vk, vn⟩ := v
      dsimp only at y0 y1 y2 HFX
      clear hbl hbx hv hll
      by_cases k3 : vk = 3
      · subst k3
        by_cases h1 : l.length ≤ 1000
        · have HJ2 := Lib.hid (HGO.out (by simp [fit1, h1]))
          have e5 : ¬ (1000 : Int) < (l.length : Int) := by omega
          clear HGO HNO h1
          go_wp2_with fail
          go_roundw
          case rel => exact ⟨j + 1, by omega, by go_num, bl_al HBL.out _, blk_al HBX.out _, HJ2⟩
          case measure => simp [intOf]; omega
        · have HX2 := Lib.hid (HNO.out (by simp [fit1]; omega))
          have e5 : (1000 : Int) < (l.length : Int) := by omega
          clear HGO HNO h1
          go_wp2_with fail
          go_ret
          exact ⟨by rw [HX2.out]; rfl, bl_al HBL.out _⟩
      · have x3 : (vk == 3) = false := by simpa using k3
        obtain ⟨fx, hfx⟩ : ∃ fx, fixE ⟨vm, vk, vn⟩ = fx := ⟨_, rfl⟩
        rw [hfx] at HFX
        have HK3 := Lib.hid k3
        have HFE := Lib.hid hfx
        clear k3 hfx
        obtain ⟨W6, hW6⟩ : ∃ W6, wr.alloc (.cells #[.string vm, .int .u8 vk, .int .i64 vn] 24) = W6 := ⟨_, rfl⟩
        have hbo := heap_alloc_new wr (.cells #[.string vm, .int .u8 vk, .int .i64 vn] 24)
        have hx6 := x0' (.cells #[.string vm, .int .u8 vk, .int .i64 vn] 24)
        have hz6 := z0' (.cells #[.string vm, .int .u8 vk, .int .i64 vn] 24)
        have q6 : Below wr.heap.size wr W6 := hW6 ▸ bl_al (Below.refl _ _) _
        rw [hW6] at hbo hx6 hz6
        have HSS := Lib.hid (show ∀ w', Below W6.heap.size W6 w' → (fun w' : World => w'.cell? ⟨w.heap.size, 0, none⟩ = some (.slice (some a') vs.length c) ∧ w'.cell? (a'.add j) = some (.slice A' l.length c') ∧ w'.cell? ⟨wr.heap.size, 0, none⟩ = some (.string vm) ∧ w'.cell? ⟨wr.heap.size, 1, none⟩ = some (.int .u8 vk) ∧ w'.cell? ⟨wr.heap.size, 2, none⟩ = some (.int .i64 vn)) w' from fun w' hb => ⟨cell_bl hb hx6, cell_bl hb hz6, cell_of_blk (blk_bl hbo hb) rfl, cell_of_blk (blk_bl hbo hb) rfl, cell_of_blk (blk_bl hbo hb) rfl⟩)
        have HK0 := Lib.hid (HSS.out _ (Below.refl _ _).drew)
        have HQ6 := Lib.hid (bl_tt HBL.out q6)
        have HX6 := Lib.hid (blk_bl HBX.out q6)
        clear q6 hx6 hz6 x0 x0' z0 z0'
        have hk6 : W6.cell? ⟨wr.heap.size, 1, none⟩ = some (.int .u8 vk) := cell_of_blk hbo rfl
        go_upto_region 9 with fail
        clear hk6
        go_region_held3 (fun w' : World => w'.cell? ⟨w.heap.size, 0, none⟩ = some (.slice (some a') vs.length c) ∧ w'.cell? (a'.add j) = some (.slice A' l.length c') ∧ w'.cell? ⟨wr.heap.size, 0, none⟩ = some (.string vm) ∧ w'.cell? ⟨wr.heap.size, 1, none⟩ = some (.int .u8 vk) ∧ w'.cell? ⟨wr.heap.size, 2, none⟩ = some (.int .i64 vn))
          (first | with_reducible exact HK1.out | with_reducible exact HK0.out)
          (first
            | (go_at_call 47; refine (HFX.out _).mono ?_; rintro e7 y7 ⟨rfl, by7⟩; have b7 := bl_tt (Below.refl W6.heap.size W6).drew by7; have HK1 := Lib.hid (HSS.out _ b7))
            | fail)
        have HQ7 := Lib.hid (bl_tt HQ6.out b7)
        have HX7 := Lib.hid (blk_bl HX6.out b7)
        clear b7 by7 HK1 HK0 hbo y0 y1 y2 hW6
        by_cases hf : (l.length : Int) = fx
        · have HJ2 := Lib.hid (HGO.out (by rw [fit1, if_neg HK3.out, HFE.out]; exact decide_eq_true hf))
          have e5 : ((l.length : Int) == fx) = true := by simpa using hf
          have e6 : ((l.length : Int) != fx) = false := by simpa using hf
          clear HGO HNO hf
          go_wp2_with fail
          go_roundw
          case rel => exact ⟨j + 1, by omega, by go_num, HQ7.out, HX7.out, HJ2⟩
          case measure => simp [intOf]; omega
        · have HX2 := Lib.hid (HNO.out (by rw [fit1, if_neg HK3.out, HFE.out]; exact decide_eq_false hf))
          have e5 : ((l.length : Int) == fx) = false := by simpa using hf
          have e6 : ((l.length : Int) != fx) = true := by simpa using hf
          clear HGO HNO hf
          go_wp2_with fail
          go_ret
          exact ⟨by rw [HX2.out]; rfl, HQ7.out⟩
    · obtain rfl : j = vs.length := by omega
      have HX2 := Lib.hid (show R = true by
        have := HJ.out
        rw [List.take_of_length_le (Nat.le_refl _), List.take_of_length_le (by rw [HN1.out]; exact Nat.le_refl _)] at this
        rw [HX.out]; exact this)
      clear hbl hbx
      go_wp2_with fail
      go_ret
      exact ⟨by rw [HX2.out]; rfl, HBL.out⟩

end Go.Proofs.Ytekjfbnggfbfhaa
