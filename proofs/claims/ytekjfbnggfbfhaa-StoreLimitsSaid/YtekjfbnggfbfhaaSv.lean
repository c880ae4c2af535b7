/-
  State values: rows of rows of integers; the contracts of state.Equal, valid, fixed, Fits.
-/
import Derived.Test.YtekjfbnggfbfhaaSe
namespace Go.Proofs.Ytekjfbnggfbfhaa
open Go Go.RowKit

/-- The slice address A leads to the rows ls. -/
def RowII (w : World) (S : Nat → Prop) (A : Option Addr) (ls : List (List Int)) : Prop :=
  ∀ i (hi : i < ls.length), ∃ (a : Addr) (A' : Option Addr) (c' : Nat), A = some a ∧ S a.block ∧ w.cell? (a.add i) = some (.slice A' ls[i].length c') ∧ ls[i].length ≤ c' ∧ RowI w S A' ls[i]
/-- A state: cells, input, output. -/
structure SS where
  cells : List (List Int)
  tin : List Int
  tout : List Int
/-- How long the rows are. -/
def SS.Lim (s : SS) : Prop := s.cells.length ≤ LI ∧ (∀ l ∈ s.cells, l.length ≤ LI) ∧ s.tin.length ≤ LI ∧ s.tout.length ≤ LI
/-- Value v reads as the state s. -/
def SV (w : World) (S : Nat → Prop) (s : SS) (v : Value) : Prop :=
  ∃ A c B d D e, v = .agg #[.slice A s.cells.length c, .slice B s.tin.length d, .slice D s.tout.length e] ∧ RowII w S A s.cells ∧ RowI w S B s.tin ∧ RowI w S D s.tout ∧ s.cells.length ≤ c ∧ s.tin.length ≤ d ∧ s.tout.length ≤ e ∧ s.Lim
section
variable {w w' : World} {S S' : Nat → Prop} {A : Option Addr} {ls : List (List Int)}
theorem RowII.keep (h : RowII w S A ls) (hS : ∀ b, S b → b < w.heap.size → S' b) (hk : ∀ b, S b → b < w.heap.size → w'.heap[b]? = w.heap[b]?) : RowII w' S' A ls := fun i hi => by
  obtain ⟨a, A', c', hA, hSa, h0, hc, hr⟩ := h i hi
  have hlt : a.block < w.heap.size := by have := World.block_lt_of_cell? w _ h0; rwa [block_add] at this
  refine ⟨a, A', c', hA, hS _ hSa hlt, cell_kp h0 ?_, hc, hr.keep hS hk⟩
  simp only [block_add]; exact hk _ hSa hlt
theorem RowII.later (h : RowII w S A ls) (hb : Below w.heap.size w w') : RowII w' S A ls := h.keep (fun _ h _ => h) fun b _ hlt => hb.block b hlt
theorem SV.keep {s : SS} {v : Value} (h : SV w S s v) (hS : ∀ b, S b → b < w.heap.size → S' b) (hk : ∀ b, S b → b < w.heap.size → w'.heap[b]? = w.heap[b]?) : SV w' S' s v := by
  obtain ⟨A, c, B, d, D, e, rfl, h1, h2, h3, h4⟩ := h
  exact ⟨A, c, B, d, D, e, rfl, h1.keep hS hk, h2.keep hS hk, h3.keep hS hk, h4⟩
theorem SV.later {s : SS} {v : Value} (h : SV w S s v) (hb : Below w.heap.size w w') : SV w' S s v := h.keep (fun _ h _ => h) fun b _ hlt => hb.block b hlt
theorem RowII.nd (h : RowII w Any A ls) {i : Nat} (hi : i < ls.length) : ∃ (a : Addr) (l : List Int) (A' : Option Addr) (c' : Nat), A = some a ∧ Hid (ls[i] = l) ∧ w.cell? (a.add i) = some (.slice A' l.length c') ∧ l.length ≤ c' ∧ RowI w Any A' l :=
  let ⟨a, A', c', h1, _, h3, h4, h5⟩ := h i hi; ⟨a, ls[i], A', c', h1, rfl, h3, h4, h5⟩
end

theorem fnSEqual : IsFn Try.prog 43 Try.f43 := ⟨Try.func43, by kernel_rfl, by kernel_rfl⟩

set_option maxHeartbeats 4000000 in
set_option maxRecDepth 100000 in
theorem EqualFuncI_any (xs ys : List (List Int)) (A B : Option Addr) (c d : Nat) (w : World) (hx : RowII w Any A xs) (hy : RowII w Any B ys) (hl : xs.length ≤ 1000000) (hm : ys.length ≤ 1000000) (hbx : ∀ l ∈ xs, l.length ≤ 1000000) (hby : ∀ l ∈ ys, l.length ≤ 1000000) :
    Calls Try.prog 42 #[.slice A xs.length c, .slice B ys.length d, .func (.func 43) #[] #[]] w fun e w' => e = .returned (.bool (decide (xs = ys))) ∧ Below w.heap.size w w' := by
  obtain ⟨R, hR⟩ : ∃ R, decide (xs = ys) = R := ⟨_, rfl⟩
  rw [hR]
  have HR := Lib.hid hR
  have HX := Lib.hid hx
  have HY := Lib.hid hy
  have HBX := Lib.hid hbx
  have HBY := Lib.hid hby
  clear hR hx hy hbx hby
  by_cases hlen : xs.length = ys.length
  · have HL := Lib.hid hlen
    rw [← hlen]
    clear hlen
    go_enter Try.func42, Try.ntmps42
    go_wp2_with fail
    go_loopw [17] (fun i wr => ∃ j : Nat, j ≤ xs.length ∧ i = .int .i64 j ∧ Below w.heap.size w wr ∧ Hid (xs.take j = ys.take j)) (fun i _ => xs.length - (intOf i).toNat)
    case atStart => exact ⟨0, Nat.zero_le _, rfl, Below.refl _ _, Lib.hid rfl⟩
    case round =>
      obtain ⟨j, hj, rfl, hbl, HJ⟩ := hrel
      have HBL := Lib.hid hbl
      by_cases hlt : j < xs.length
      · have hlt2 : j < ys.length := by rw [← HL.out]; exact hlt
        obtain ⟨a, x, A1, c1, rfl, Hx, h1, _, hr1⟩ := (HX.out.later hbl).nd hlt
        obtain ⟨b, y, B1, d1, rfl, Hy, h2, _, hr2⟩ := (HY.out.later hbl).nd hlt2
        have hlx : x.length ≤ 1000000 := by rw [← Hx.out]; exact HBX.out _ (List.getElem_mem hlt)
        have hly : y.length ≤ 1000000 := by rw [← Hy.out]; exact HBY.out _ (List.getElem_mem hlt2)
        obtain ⟨b0, hb0⟩ : ∃ b0, decide (x = y) = b0 := ⟨_, rfl⟩
        have HCA := Lib.hid (hb0 ▸ SEqual_any x y A1 B1 c1 d1 wr hr1 hr2 hlx hly)
        have HB0 := Lib.hid hb0
        have hj1 : (j : Int) < (xs.length : Int) := by omega
        clear hbl hr1 hr2 hb0
        go_wp2_with fail
        refine HCA.out.mono ?_
        rintro e w2 ⟨rfl, bw2⟩
        have HB2 := Lib.hid (bl_tt HBL.out bw2)
        clear bw2 h1 h2
        cases b0
        · have HF := Lib.hid (show R = false by
            rw [← HR.out]
            refine decide_eq_false fun h => of_decide_eq_false HB0.out ?_
            subst h
            rw [← Hx.out, ← Hy.out])
          go_wp2_with fail
          go_ret
          exact ⟨by rw [HF.out]; rfl, HB2.out⟩
        · have HJ2 : Hid (xs.take (j + 1) = ys.take (j + 1)) := Lib.hid (by rw [List.take_succ_eq_append_getElem hlt, List.take_succ_eq_append_getElem hlt2, HJ.out, Hx.out, Hy.out, of_decide_eq_true HB0.out])
          go_wp2_with fail
          go_roundw
          case rel => exact ⟨j + 1, by omega, by go_num, HB2.out, HJ2⟩
          case measure => simp [intOf]; omega
      · obtain rfl : j = xs.length := by omega
        have HF := Lib.hid (show R = true by
          have h1 := HJ.out
          rw [List.take_of_length_le (Nat.le_refl _), List.take_of_length_le (by rw [HL.out]; exact Nat.le_refl _)] at h1
          rw [← HR.out]
          exact decide_eq_true h1)
        clear hbl
        go_wp2_with fail
        go_ret
        exact ⟨by rw [HF.out]; rfl, HBL.out⟩
  · have HF := Lib.hid (show R = false by rw [← HR.out]; exact decide_eq_false fun h => hlen (by rw [h]))
    have e1 : ((xs.length : Int) == (ys.length : Int)) = false := by simp; omega
    have e2 : ((xs.length : Int) != (ys.length : Int)) = true := by simp; omega
    go_enter Try.func42, Try.ntmps42
    go_wp2_with fail
    go_ret
    exact ⟨by rw [HF.out]; rfl, Below.refl _ _⟩

/-- State lengths within these bounds. -/
def SS.Sm (s : SS) : Prop := s.cells.length ≤ 1000000 ∧ (∀ l ∈ s.cells, l.length ≤ 1000000) ∧ s.tin.length ≤ 1000000 ∧ s.tout.length ≤ 1000000
/-- state.Equal. -/
def eqS (s t : SS) : Bool := decide (s.cells = t.cells) && decide (s.tin = t.tin) && decide (s.tout = t.tout)

set_option maxHeartbeats 4000000 in
set_option maxRecDepth 100000 in
theorem StEqual_any (s t : SS) (v1 v2 : Value) (w : World) (h1 : SV w Any s v1) (h2 : SV w Any t v2) (hs : s.Sm) (ht : t.Sm) : Calls Try.prog 24 #[v1, v2] w fun e w' => e = .returned (.bool (eqS s t)) ∧ Below w.heap.size w w' := by
  obtain ⟨A, c, B, d, D, e, rfl, hr1, hr2, hr3, -⟩ := h1
  obtain ⟨A', c', B', d', D', e', rfl, hq1, hq2, hq3, -⟩ := h2
  obtain ⟨b1, hb1⟩ : ∃ b, decide (s.cells = t.cells) = b := ⟨_, rfl⟩
  obtain ⟨b2, hb2⟩ : ∃ b, decide (s.tin = t.tin) = b := ⟨_, rfl⟩
  obtain ⟨b3, hb3⟩ : ∃ b, decide (s.tout = t.tout) = b := ⟨_, rfl⟩
  have hR : eqS s t = (b1 && b2 && b3) := by rw [← hb1, ← hb2, ← hb3]; rfl
  obtain ⟨R, hRR⟩ : ∃ R, eqS s t = R := ⟨_, rfl⟩
  have HRR := Lib.hid (show R = (b1 && b2 && b3) by rw [← hRR]; exact hR)
  rw [hRR]
  have H1 := Lib.hid (show ∀ w', Below w.heap.size w w' → Calls Try.prog 42 #[.slice A s.cells.length c, .slice A' t.cells.length c', .func (.func 43) #[] #[]] w' fun e w'' => e = .returned (.bool b1) ∧ Below w'.heap.size w' w'' from fun w' hb => hb1 ▸ EqualFuncI_any s.cells t.cells A A' c c' w' (hr1.later hb) (hq1.later hb) hs.1 ht.1 hs.2.1 ht.2.1)
  have H2 := Lib.hid (show ∀ w', Below w.heap.size w w' → Calls Try.prog 43 #[.slice B s.tin.length d, .slice B' t.tin.length d'] w' fun e w'' => e = .returned (.bool b2) ∧ Below w'.heap.size w' w'' from fun w' hb => hb2 ▸ SEqual_any s.tin t.tin B B' d d' w' (hr2.later hb) (hq2.later hb) hs.2.2.1 ht.2.2.1)
  have H3 := Lib.hid (show ∀ w', Below w.heap.size w w' → Calls Try.prog 43 #[.slice D s.tout.length e, .slice D' t.tout.length e'] w' fun e w'' => e = .returned (.bool b3) ∧ Below w'.heap.size w' w'' from fun w' hb => hb3 ▸ SEqual_any s.tout t.tout D D' e e' w' (hr3.later hb) (hq3.later hb) hs.2.2.2 ht.2.2.2)
  generalize s.cells.length = l1, s.tin.length = l2, s.tout.length = l3, t.cells.length = m1, t.tin.length = m2, t.tout.length = m3 at *
  clear hr1 hr2 hr3 hq1 hq2 hq3 hs ht hb1 hb2 hb3 hR hRR
  go_enter Try.func24, Try.ntmps24
  go_wp2_with fail
  have q0 : Below w.heap.size w ((w.alloc (.cells #[.slice A l1 c, .slice B l2 d, .slice D l3 e] 29)).alloc (.cells #[.slice A' m1 c', .slice B' m2 d', .slice D' m3 e'] 29)) := bl_al (bl_al (Below.refl _ _) _) _
  have hP := blk_al (heap_alloc_new w (.cells #[.slice A l1 c, .slice B l2 d, .slice D l3 e] 29)) (.cells #[.slice A' m1 c', .slice B' m2 d', .slice D' m3 e'] 29)
  have hQ := heap_alloc_new (w.alloc (.cells #[.slice A l1 c, .slice B l2 d, .slice D l3 e] 29)) (.cells #[.slice A' m1 c', .slice B' m2 d', .slice D' m3 e'] 29)
  simp only [World.size_alloc] at hQ
  refine (H1.out _ q0).mono ?_
  rintro e9 w1 ⟨rfl, bw1⟩
  have q1 := bl_tt q0 bw1
  have hP1 := blk_bl hP bw1
  have hQ1 := blk_bl hQ bw1
  have x1 : w1.cell? ⟨w.heap.size, 1, none⟩ = some (.slice B l2 d) := cell_of_blk hP1 rfl
  have x2 : w1.cell? ⟨w.heap.size, 2, none⟩ = some (.slice D l3 e) := cell_of_blk hP1 rfl
  have y1 : w1.cell? ⟨w.heap.size + 1, 1, none⟩ = some (.slice B' m2 d') := cell_of_blk hQ1 rfl
  have y2 : w1.cell? ⟨w.heap.size + 1, 2, none⟩ = some (.slice D' m3 e') := cell_of_blk hQ1 rfl
  clear hP hQ hP1 hQ1 q0 bw1
  cases b1
  · have HX := Lib.hid (show R = false by rw [HRR.out]; rfl)
    go_wp2_with fail
    go_ret
    exact ⟨by rw [HX.out]; rfl, q1⟩
  · go_wp2_with fail
    refine (H2.out _ q1).mono ?_
    rintro e9 w2 ⟨rfl, bw2⟩
    have q2 := bl_tt q1 bw2
    have z2 := cell_bl bw2 x2
    have u2 := cell_bl bw2 y2
    clear bw2 x1 x2 y1 y2
    cases b2
    · have HX := Lib.hid (show R = false by rw [HRR.out]; rfl)
      go_wp2_with fail
      go_ret
      exact ⟨by rw [HX.out]; rfl, q2⟩
    · go_wp2_with fail
      refine (H3.out _ q2).mono ?_
      rintro e9 w3 ⟨rfl, bw3⟩
      have q3 := bl_tt q2 bw3
      have HX := Lib.hid (show R = b3 by rw [HRR.out]; simp)
      clear bw3 z2 u2
      go_wp2_with fail
      go_ret
      exact ⟨by rw [HX.out]; rfl, q3⟩

/-- A declaration that state.valid takes. -/
def vdB (v : VD) : Bool := if v.k = 1 ∨ v.k = 3 then v.n == 0 else if v.k = 2 then decide (1 ≤ v.n ∧ v.n ≤ 16) else false
/-- state.valid. -/
def svB (vs : List VD) : Bool := decide (vs.length ≤ 32) && vs.all vdB
/-- state.fixed. -/
def fixE (v : VD) : Int := if v.k = 1 then 1 else v.n

set_option maxHeartbeats 4000000 in
theorem fixed_any (v : VD) (w : World) : Calls Try.prog 47 #[.agg #[.string v.s, .int .u8 v.k, .int .i64 v.n]] w fun e w' => e = .returned (.int .i64 (fixE v)) ∧ Below w.heap.size w w' := by
  obtain ⟨s, k, n⟩ := v
  dsimp only
  by_cases h : k = 1
  · subst h
    go_enter Try.func47, Try.ntmps47
    go_wp2_with fail
    go_ret
    exact ⟨rfl, bl_al (Below.refl _ _) _⟩
  · have e1 : (k == 1) = false := by simpa using h
    have HX := Lib.hid (show fixE ⟨s, k, n⟩ = n by simp [fixE, h])
    obtain ⟨R, hR⟩ : ∃ R, fixE ⟨s, k, n⟩ = R := ⟨_, rfl⟩
    rw [hR] at HX ⊢
    clear h hR
    go_enter Try.func47, Try.ntmps47
    go_wp2_with fail
    go_ret
    exact ⟨by rw [HX.out]; rfl, bl_al (Below.refl _ _) _⟩

set_option maxHeartbeats 4000000 in
set_option maxRecDepth 100000 in
theorem svalid_any (vs : List VD) (A : Option Addr) (c : Nat) (w : World) (hrow : RowV w Any A vs) (hl : vs.length ≤ LV) : Calls Try.prog 46 #[.slice A vs.length c] w fun e w' => e = .returned (.bool (svB vs)) ∧ Below w.heap.size w w' := by
  have hl' := LV_int hl
  obtain ⟨R, hR⟩ : ∃ R, svB vs = R := ⟨_, rfl⟩
  rw [hR]
  have HR := Lib.hid hR
  have HROW := Lib.hid hrow
  clear hR hrow hl
  by_cases h32 : vs.length ≤ 32
  · have HN := Lib.hid (show R = vs.all vdB by rw [← HR.out, svB, decide_eq_true h32]; rfl)
    clear HR
    go_enter Try.func46, Try.ntmps46
    go_wp2_with fail
    go_loopw [10] (fun i wr => ∃ j : Nat, j ≤ vs.length ∧ i = .int .i64 j ∧ Below w.heap.size w wr ∧ Hid ((vs.take j).all vdB = true)) (fun i _ => vs.length - (intOf i).toNat)
    case atStart => exact ⟨0, Nat.zero_le _, rfl, Below.refl _ _, Lib.hid rfl⟩
    case round =>
      obtain ⟨j, hj, rfl, hbl, HJ⟩ := hrel
      have HBL := Lib.hid hbl
      by_cases hlt : j < vs.length
      · obtain ⟨a, rfl, -, ⟨y0, y1, y2⟩, -⟩ := (HROW.out.later hbl) j hlt
        obtain ⟨v, hv⟩ : ∃ v, vs[j] = v := ⟨_, rfl⟩
        rw [hv] at y0 y1 y2
        obtain ⟨vm, vk, vn⟩ := v
        have Hv := Lib.hid hv
        have HGO := Lib.hid (show vdB ⟨vm, vk, vn⟩ = true → (vs.take (j + 1)).all vdB = true from fun h => by rw [List.take_succ_eq_append_getElem hlt, List.all_append, HJ.out, hv]; simp [h])
        have HNO := Lib.hid (show vdB ⟨vm, vk, vn⟩ = false → R = false from fun h => by
          rw [HN.out]
          exact Bool.eq_false_iff.2 fun h' => by
            have := List.all_eq_true.1 h' _ (List.getElem_mem hlt)
            rw [hv, h] at this
            cases this)
        dsimp only at y0 y1 y2
        clear hbl hv
        have hb0 : ∀ b, vdB ⟨vm, vk, vn⟩ = b → True := fun _ _ => trivial
        by_cases k13 : vk = 1 ∨ vk = 3
        · by_cases hn : vn = 0
          · have HJ2 := Lib.hid (HGO.out (by simp [vdB, k13, hn]))
            subst hn
            clear HGO HNO hb0
            rcases k13 with rfl | rfl
            all_goals
              go_wp2_with fail
              go_roundw
              case rel => exact ⟨j + 1, by omega, by go_num, bl_al HBL.out _, HJ2⟩
              case measure => simp [intOf]; omega
          · have HX := Lib.hid (HNO.out (by simp [vdB, k13, hn]))
            have e1 : (vn == 0) = false := by simpa using hn
            have e2 : (vn != 0) = true := by simpa using hn
            clear HGO HNO hb0 hn
            rcases k13 with rfl | rfl
            all_goals
              go_wp2_with fail
              go_ret
              exact ⟨by rw [HX.out]; rfl, bl_al HBL.out _⟩
        · by_cases k2 : vk = 2
          · subst k2
            by_cases h1 : vn < 1
            · have HX := Lib.hid (HNO.out (by simp [vdB]; omega))
              clear HGO HNO hb0 k13
              go_wp2_with fail
              go_ret
              exact ⟨by rw [HX.out]; rfl, bl_al HBL.out _⟩
            · by_cases h16 : 16 < vn
              · have HX := Lib.hid (HNO.out (by simp [vdB]; omega))
                clear HGO HNO hb0 k13
                go_wp2_with fail
                go_ret
                exact ⟨by rw [HX.out]; rfl, bl_al HBL.out _⟩
              · have HJ2 := Lib.hid (HGO.out (by simp [vdB]; omega))
                clear HGO HNO hb0 k13
                go_wp2_with fail
                go_roundw
                case rel => exact ⟨j + 1, by omega, by go_num, bl_al HBL.out _, HJ2⟩
                case measure => simp [intOf]; omega
          · have HX := Lib.hid (HNO.out (by simp [vdB, k13, k2]))
            have x1 : (vk == 1) = false := by simp; omega
            have x2 : (vk == 2) = false := by simp; omega
            have x3 : (vk == 3) = false := by simp; omega
            clear HGO HNO hb0 k13 k2
            go_wp2_with fail
            go_ret
            exact ⟨by rw [HX.out]; rfl, bl_al HBL.out _⟩
      · obtain rfl : j = vs.length := by omega
        have HX := Lib.hid (show R = true by
          have := HJ.out
          rw [List.take_of_length_le (Nat.le_refl _)] at this
          rw [HN.out]; exact this)
        clear hbl
        go_wp2_with fail
        go_ret
        exact ⟨by rw [HX.out]; rfl, HBL.out⟩
  · have HX := Lib.hid (show R = false by rw [← HR.out, svB, decide_eq_false h32]; rfl)
    have h33 : (32 : Int) < (vs.length : Int) := by omega
    clear h32
    go_enter Try.func46, Try.ntmps46
    go_wp2_with fail
    go_ret
    exact ⟨by rw [HX.out]; rfl, Below.refl _ _⟩

end Go.Proofs.Ytekjfbnggfbfhaa
