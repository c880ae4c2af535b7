/-
  Contracts of ast.declared and ast.Valid.
-/
import Derived.Test.YtldcjboignbfpaaPi
import Derived.Test.YtldcjboignbfpaaLim
namespace Go.Proofs.Ytldcjboignbfpaa
open Go.RowKit

/-- A valid declaration. -/
def declB (v : VD) : Bool := nameB v.s && (if v.k = 1 ∨ v.k = 3 then v.n == 0 else if v.k = 2 then decide (1 ≤ v.n ∧ v.n ≤ 16) else false)
theorem all_take {vs : List VD} {f : VD → Bool} {j : Nat} (hj : j < vs.length) (h : (vs.take j).all f = true) : (vs.take (j + 1)).all f = f vs[j] := by
  rw [List.take_succ_eq_append_getElem hj, List.all_append, h]; simp
theorem all_none {vs : List VD} {f : VD → Bool} {j : Nat} (hj : j < vs.length) (h : f vs[j] = false) : vs.all f = false := by
  simp only [List.all_eq_false]
  exact ⟨vs[j], List.getElem_mem hj, by simp [h]⟩

set_option maxHeartbeats 2000000 in
set_option maxRecDepth 100000 in
theorem declared_any (vs : List VD) (A : Option Addr) (c : Nat) (S : Nat → Prop) (w : World) (hrow : RowV w S A vs) (hl : vs.length ≤ LV) (_hlc : vs.length ≤ c) :
    Calls Try.prog 44 #[.slice A vs.length c] w fun e w' => e = .returned (.bool (vs.all declB)) ∧ Below w.heap.size w w' := by
  have hl' := LV_int hl
  have HROW := Lib.hid hrow
  clear hrow hl
  go_enter Try.func44, Try.ntmps44
  go_wp2_with fail
  go_loopw [7] (fun i wr => ∃ j : Nat, j ≤ vs.length ∧ i = .int .i64 j ∧ Below w.heap.size w wr ∧ Hid ((vs.take j).all declB = true)) (fun i _ => vs.length - (intOf i).toNat)
  case atStart => exact ⟨0, Nat.zero_le _, rfl, Below.refl _ _, Lib.hid (by simp)⟩
  case round =>
    obtain ⟨j, hj, rfl, hb, HA⟩ := hrel
    by_cases hlt : j < vs.length
    · obtain ⟨a, v, rfl, _, Hv, ⟨q0, q1, q2⟩, hf⟩ := (HROW.out.later hb).nd hlt
      have HT := Lib.hid (show (vs.take (j + 1)).all declB = declB v by rw [all_take hlt HA.out, Hv.out])
      have HN := Lib.hid (show declB v = false → vs.all declB = false from fun h => all_none hlt (by rw [Hv.out]; exact h))
      have HD := Lib.hid (show declB v = (nameB v.s && (if v.k = 1 ∨ v.k = 3 then v.n == 0 else if v.k = 2 then decide (1 ≤ v.n ∧ v.n ≤ 16) else false)) from rfl)
      obtain ⟨s, hs⟩ : ∃ s, v.s = s := ⟨_, rfl⟩
      obtain ⟨k, hk⟩ : ∃ k, v.k = k := ⟨_, rfl⟩
      obtain ⟨n, hn⟩ : ∃ n, v.n = n := ⟨_, rfl⟩
      have HD' := HD.out
      rw [hs, hk, hn] at HD'
      rw [hs] at q0
      rw [hk] at q1
      rw [hn] at q2
      clear HD hf hs hk hn
      have HD := Lib.hid HD'
      clear HD'
      go_wp2_with fail
      refine (Name_any s _).mono ?_
      rintro e w1 ⟨rfl, bw1⟩
      have q1' : Below w.heap.size w w1 := (hb.alloc hb.size _).trans (bw1.mono (by have := hb.size; simp; omega))
      have x1 : w1.cell? ⟨wr.heap.size, 1, none⟩ = some (.int .u8 k) := cell_bl bw1 (by simp)
      have x2 : w1.cell? ⟨wr.heap.size, 2, none⟩ = some (.int .i64 n) := cell_bl bw1 (by simp)
      have HD' := HD.out
      clear bw1
      cases hnm : nameB s
      · rw [hnm] at HD'
        have HR := Lib.hid (HN.out (by rw [HD']; rfl))
        clear HD'
        go_wp2_with fail
        go_ret
        exact ⟨by rw [HR.out]; rfl, q1'⟩
      rw [hnm, Bool.true_and] at HD'
      by_cases h13 : k = 1 ∨ k = 3
      · rw [if_pos h13] at HD'
        by_cases hn0 : n = 0
        · subst hn0
          have HG := Lib.hid (show (vs.take (j + 1)).all declB = true by rw [HT.out, HD']; rfl)
          clear HD'
          rcases h13 with rfl | rfl
          · go_wp2_with fail
            go_roundw
            case rel => exact ⟨j + 1, by omega, by go_num, q1', HG⟩
            case measure => simp [intOf]; omega
          · go_wp2_with fail
            go_roundw
            case rel => exact ⟨j + 1, by omega, by go_num, q1', HG⟩
            case measure => simp [intOf]; omega
        · have fn : (n != 0) = true := by simpa using hn0
          have HR := Lib.hid (HN.out (by rw [HD']; simpa using hn0))
          clear HD'
          rcases h13 with rfl | rfl
          · go_wp2_with fail
            go_ret
            exact ⟨by rw [HR.out]; rfl, q1'⟩
          · go_wp2_with fail
            go_ret
            exact ⟨by rw [HR.out]; rfl, q1'⟩
      · rw [if_neg h13] at HD'
        have f1 : (k == 1) = false := by simp; omega
        have f3 : (k == 3) = false := by simp; omega
        by_cases h2 : k = 2
        · subst h2
          rw [if_pos rfl] at HD'
          by_cases hl1 : n < 1
          · have HR := Lib.hid (HN.out (by rw [HD']; simp; omega))
            clear HD'
            go_wp2_with fail
            go_ret
            exact ⟨by rw [HR.out]; rfl, q1'⟩
          · by_cases hg16 : 16 < n
            · have HR := Lib.hid (HN.out (by rw [HD']; simp; omega))
              have hl1' : 1 ≤ n := by omega
              clear HD' hl1
              go_wp2_with fail
              go_ret
              exact ⟨by rw [HR.out]; rfl, q1'⟩
            · have HG := Lib.hid (show (vs.take (j + 1)).all declB = true by rw [HT.out, HD']; simp; omega)
              have hl1' : 1 ≤ n := by omega
              have hg16' : n ≤ 16 := by omega
              clear HD' hl1 hg16
              go_wp2_with fail
              go_roundw
              case rel => exact ⟨j + 1, by omega, by go_num, q1', HG⟩
              case measure => simp [intOf]; omega
        · rw [if_neg h2] at HD'
          have f2 : (k == 2) = false := by simpa using h2
          have HR := Lib.hid (HN.out HD')
          clear HD'
          go_wp2_with fail
          go_ret
          exact ⟨by rw [HR.out]; rfl, q1'⟩
    · obtain rfl : j = vs.length := by omega
      have HR := Lib.hid (show vs.all declB = true by have := HA.out; rw [List.take_of_length_le (by omega)] at this; exact this)
      go_wp2_with fail
      go_ret
      exact ⟨by rw [HR.out]; rfl, hb⟩

/-- A valid procedure. -/
def procB (r : PR) : Bool := nameB r.s && decide (r.ps.length ≤ 8) && r.ps.all declB && isBodyB r.b
/-- ast.Valid. -/
def validB (p : PG) : Bool := decide (p.vs.length ≤ 32) && decide (p.prs.length ≤ 64) && p.vs.all declB && p.prs.all procB && isBodyB p.m
theorem pall_take {vs : List PR} {f : PR → Bool} {j : Nat} (hj : j < vs.length) (h : (vs.take j).all f = true) : (vs.take (j + 1)).all f = f vs[j] := by
  rw [List.take_succ_eq_append_getElem hj, List.all_append, h]; simp
theorem pall_none {vs : List PR} {f : PR → Bool} {j : Nat} (hj : j < vs.length) (h : f vs[j] = false) : vs.all f = false := by
  simp only [List.all_eq_false]
  exact ⟨vs[j], List.getElem_mem hj, by simp [h]⟩

set_option maxHeartbeats 4000000 in
set_option maxRecDepth 100000 in
theorem Valid_any (p : PG) (S : Nat → Prop) (v : Value) (w : World) (hv : PV w S p v) : Calls Try.prog 23 #[v] w fun e w' => e = .returned (.bool (validB p)) ∧ Below w.heap.size w w' := by
  obtain ⟨A1, c1, A2, c2, A3, c3, rfl, hr⟩ := hv
  have HR := Lib.hid hr
  have hv1 := LV_int hr.lv
  have hv2 := LV_int hr.lp
  have HX := Lib.hid (show validB p = (decide (p.vs.length ≤ 32) && decide (p.prs.length ≤ 64) && p.vs.all declB && p.prs.all procB && isBodyB p.m) from rfl)
  have hlc2 := hr.lpc
  obtain ⟨L1, hL1⟩ : ∃ L, p.vs.length = L := ⟨_, rfl⟩
  obtain ⟨L2, hL2⟩ : ∃ L, p.prs.length = L := ⟨_, rfl⟩
  obtain ⟨k, hk⟩ : ∃ k, p.m.k = k := ⟨_, rfl⟩
  obtain ⟨n, hn⟩ : ∃ n, p.m.n = n := ⟨_, rfl⟩
  obtain ⟨s, hs⟩ : ∃ s, p.m.s = s := ⟨_, rfl⟩
  obtain ⟨l3, hl3⟩ : ∃ l, p.m.ks.length = l := ⟨_, rfl⟩
  have HL1 := Lib.hid hL1
  have HL2 := Lib.hid hL2
  have hm := hr.main
  rw [hk, hn, hs, hl3] at hm
  have HM := Lib.hid hm
  have hx := HX.out
  rw [hL1, hL2] at hx
  rw [hL1] at hv1
  rw [hL2] at hv2 hlc2
  rw [hL1, hL2, hk, hn, hs, hl3]
  clear hr hm HX hL1 hL2 hk hn hs hl3
  have HX := Lib.hid hx
  clear hx
  have hb0 : ∀ o, Below w.heap.size w (w.alloc o) := fun o => (Below.refl _ _).alloc (Nat.le_refl _) _
  have HB0 := Lib.hid hb0
  clear hb0
  have HDC := Lib.hid (show ∀ w', Below w.heap.size w w' → Calls Try.prog 44 #[.slice A1 L1 c1] w' fun e w'' => e = .returned (.bool (p.vs.all declB)) ∧ Below w'.heap.size w' w'' from fun w' h => by
    have := declared_any p.vs A1 c1 S w' (HR.out.vars.later h) HR.out.lv HR.out.lvc
    rw [HL1.out] at this
    exact this)
  by_cases h32 : 32 < L1
  · have HF := Lib.hid (show validB p = false by rw [HX.out]; simp; intro h; omega)
    have h32' : (32 : Int) < (L1 : Int) := by omega
    go_enter Try.func23, Try.ntmps23
    go_wp2_with fail
    go_ret
    exact ⟨by rw [HF.out]; rfl, HB0.out _⟩
  by_cases h64 : 64 < L2
  · have HF := Lib.hid (show validB p = false by rw [HX.out]; simp; intro _ h; omega)
    have h32' : (L1 : Int) ≤ 32 := by omega
    have h64' : (64 : Int) < (L2 : Int) := by omega
    clear h32
    go_enter Try.func23, Try.ntmps23
    go_wp2_with fail
    go_ret
    exact ⟨by rw [HF.out]; rfl, HB0.out _⟩
  have h32' : (L1 : Int) ≤ 32 := by omega
  have h64' : (L2 : Int) ≤ 64 := by omega
  have hx := HX.out
  have e1 : L1 ≤ 32 := by omega
  have e2 : L2 ≤ 64 := by omega
  rw [decide_eq_true e1, decide_eq_true e2] at hx
  simp only [Bool.true_and] at hx
  clear HX h32 h64 e1 e2
  have HX := Lib.hid hx
  clear hx
  go_enter Try.func23, Try.ntmps23
  go_wp2_with fail
  refine (HDC.out _ (HB0.out _)).mono ?_
  rintro e w1 ⟨rfl, bw1⟩
  have q1 : Below w.heap.size w w1 := (HB0.out _).trans (bw1.mono (by simp))
  have hbx : w1.heap[w.heap.size]? = some (.cells #[.slice A1 L1 c1, .slice A2 L2 c2, .int .u8 k, .int .i64 n, .string s, .slice A3 l3 c3] 38 (0, 0)) := (bw1.block _ (by simp)).trans (heap_alloc_new w _)
  have x1 : w1.cell? ⟨w.heap.size, 1, none⟩ = some (.slice A2 L2 c2) := cell_of_blk hbx rfl
  have hx := HX.out
  clear bw1 HDC
  cases hd : p.vs.all declB
  · rw [hd] at hx
    have HF := Lib.hid (show validB p = false by rw [hx]; rfl)
    clear hx
    go_wp2_with fail
    go_ret
    exact ⟨by rw [HF.out]; rfl, q1⟩
  rw [hd, Bool.true_and] at hx
  have HX2 := Lib.hid hx
  have HBX := Lib.hid hbx
  clear hx HX hd hbx
  go_wp2_with fail
  go_loopw [24] (fun i wr => ∃ j : Nat, j ≤ L2 ∧ i = .int .i64 j ∧ Below w1.heap.size w1 wr ∧ Hid ((p.prs.take j).all procB = true)) (fun i _ => L2 - (intOf i).toNat)
  case atStart => exact ⟨0, Nat.zero_le _, rfl, Below.refl _ _, Lib.hid (by simp)⟩
  case round =>
    obtain ⟨j, hj, rfl, hb, HA⟩ := hrel
    have hq : Below w.heap.size w wr := q1.trans (hb.mono q1.size)
    by_cases hlt : j < L2
    · have hlt' : j < p.prs.length := by rw [HL2.out]; exact hlt
      obtain ⟨a, r, B1, d1, B2, d2, rfl, _, Hr, ⟨z0, z1, z2, z3, z4, z5⟩, hrr⟩ := (HR.out.procs.later hq).nd hlt'
      have HRR := Lib.hid hrr
      have HT := Lib.hid (show (p.prs.take (j + 1)).all procB = procB r by rw [pall_take hlt' HA.out, Hr.out])
      have HN := Lib.hid (show procB r = false → validB p = false from fun h => by rw [HX2.out, pall_none hlt' (by rw [Hr.out]; exact h)]; rfl)
      have HPB := Lib.hid (show procB r = (nameB r.s && decide (r.ps.length ≤ 8) && r.ps.all declB && isBodyB r.b) from rfl)
      have hd1 := LV_int hrr.lp
      clear hrr
      have HDC := Lib.hid (show ∀ w', Below wr.heap.size wr w' → Calls Try.prog 44 #[.slice B1 r.ps.length d1] w' fun e w'' => e = .returned (.bool (r.ps.all declB)) ∧ Below w'.heap.size w' w'' from fun w' h => declared_any r.ps B1 d1 S w' (HRR.out.row.later h) HRR.out.lp HRR.out.lc)
      have HBD := Lib.hid (show ∀ w', Below wr.heap.size wr w' → NV w' Any r.b (nv r.b.k r.b.n r.b.s B2 r.b.ks.length d2) from fun w' h => (HRR.out.body.later h).any)
      obtain ⟨rs, hrs⟩ : ∃ s, r.s = s := ⟨_, rfl⟩
      obtain ⟨rl, hrl⟩ : ∃ l, r.ps.length = l := ⟨_, rfl⟩
      obtain ⟨bk, hbk⟩ : ∃ k, r.b.k = k := ⟨_, rfl⟩
      obtain ⟨bn, hbn⟩ : ∃ k, r.b.n = k := ⟨_, rfl⟩
      obtain ⟨bs, hbs⟩ : ∃ k, r.b.s = k := ⟨_, rfl⟩
      obtain ⟨bl, hbl⟩ : ∃ k, r.b.ks.length = k := ⟨_, rfl⟩
      have hpb := HPB.out
      have hdc := HDC.out
      have hbd := HBD.out
      rw [hrs] at z0 hpb
      rw [hrl] at z1 hpb hdc hd1
      rw [hbk] at z2 hbd
      rw [hbn] at z3 hbd
      rw [hbs] at z4 hbd
      rw [hbl] at z5 hbd
      clear HPB HDC HBD HRR hrs hrl hbk hbn hbs hbl
      have HPB := Lib.hid hpb
      have HDC := Lib.hid hdc
      have HBD := Lib.hid hbd
      clear hpb hdc hbd
      go_wp2_with fail
      refine (Name_any rs _).mono ?_
      rintro e w2 ⟨rfl, bw2⟩
      have b2 : Below wr.heap.size wr w2 := ((Below.refl _ _).alloc (Nat.le_refl _) _).trans (bw2.mono (by simp))
      have hbx : w2.heap[wr.heap.size]? = some (.cells #[.string rs, .slice B1 rl d1, .int .u8 bk, .int .i64 bn, .string bs, .slice B2 bl d2] 58 (0, 0)) := (bw2.block _ (by simp)).trans (heap_alloc_new wr _)
      have u1 : w2.cell? ⟨wr.heap.size, 1, none⟩ = some (.slice B1 rl d1) := cell_of_blk hbx rfl
      have hpb := HPB.out
      clear bw2
      cases hnm : nameB rs
      · rw [hnm] at hpb
        have HF := Lib.hid (HN.out (by rw [hpb]; rfl))
        clear hpb
        go_wp2_with fail
        go_ret
        exact ⟨by rw [HF.out]; rfl, hq.trans (b2.mono hq.size)⟩
      rw [hnm, Bool.true_and] at hpb
      by_cases h8 : 8 < rl
      · have HF := Lib.hid (HN.out (by rw [hpb]; simp; intro h; omega))
        have h8' : (8 : Int) < (rl : Int) := by omega
        clear hpb
        go_wp2_with fail
        go_ret
        exact ⟨by rw [HF.out]; rfl, hq.trans (b2.mono hq.size)⟩
      rw [decide_eq_true (show rl ≤ 8 by omega), Bool.true_and] at hpb
      have h8' : (rl : Int) ≤ 8 := by omega
      have HPC := Lib.hid hpb
      have HBX2 := Lib.hid hbx
      clear hpb HPB h8 hbx
      go_wp2_with fail
      refine (HDC.out _ b2).mono ?_
      rintro e w3 ⟨rfl, bw3⟩
      have b3 := b2.trans (bw3.mono b2.size)
      have hbx : w3.heap[wr.heap.size]? = some (.cells #[.string rs, .slice B1 rl d1, .int .u8 bk, .int .i64 bn, .string bs, .slice B2 bl d2] 58 (0, 0)) := (bw3.block _ (blk_lt HBX2.out)).trans HBX2.out
      have u2 : w3.cell? ⟨wr.heap.size, 2, none⟩ = some (.int .u8 bk) := cell_of_blk hbx rfl
      have u3 : w3.cell? ⟨wr.heap.size, 3, none⟩ = some (.int .i64 bn) := cell_of_blk hbx rfl
      have u4 : w3.cell? ⟨wr.heap.size, 4, none⟩ = some (.string bs) := cell_of_blk hbx rfl
      have u5 : w3.cell? ⟨wr.heap.size, 5, none⟩ = some (.slice B2 bl d2) := cell_of_blk hbx rfl
      have hpb := HPC.out
      clear bw3 u1 hbx
      cases hdd : r.ps.all declB
      · rw [hdd] at hpb
        have HF := Lib.hid (HN.out (by rw [hpb]; rfl))
        clear hpb
        go_wp2_with fail
        go_ret
        exact ⟨by rw [HF.out]; rfl, hq.trans (b3.mono hq.size)⟩
      rw [hdd, Bool.true_and] at hpb
      have HPD := Lib.hid hpb
      clear hpb HPC hdd
      go_wp2_with fail
      refine (isBody_any r.b _ _ (HBD.out _ b3)).mono ?_
      rintro e w4 ⟨rfl, bw4⟩
      have b4 := b3.trans (bw4.mono b3.size)
      have hpb := HPD.out
      clear bw4 u2 u3 u4 u5
      cases hbb : isBodyB r.b
      · rw [hbb] at hpb
        have HF := Lib.hid (HN.out hpb)
        clear hpb
        go_wp2_with fail
        go_ret
        exact ⟨by rw [HF.out]; rfl, hq.trans (b4.mono hq.size)⟩
      · rw [hbb] at hpb
        have HG := Lib.hid (show (p.prs.take (j + 1)).all procB = true by rw [HT.out]; exact hpb)
        have HQ4 := Lib.hid (hb.trans (b4.mono hb.size))
        clear hpb
        go_wp2_with fail
        go_roundw
        case rel => exact ⟨j + 1, by omega, by go_num, HQ4.out, HG⟩
        case measure => simp [intOf]; omega
    · obtain rfl : j = L2 := by omega
      have HF := Lib.hid (show validB p = isBodyB p.m by rw [HX2.out]; have := HA.out; rw [List.take_of_length_le (by rw [HL2.out]; omega)] at this; rw [this]; rfl)
      have hbx : wr.heap[w.heap.size]? = some (.cells #[.slice A1 L1 c1, .slice A2 j c2, .int .u8 k, .int .i64 n, .string s, .slice A3 l3 c3] 38 (0, 0)) := (hb.block _ (blk_lt HBX.out)).trans HBX.out
      have y2 : wr.cell? ⟨w.heap.size, 2, none⟩ = some (.int .u8 k) := cell_of_blk hbx rfl
      have y3 : wr.cell? ⟨w.heap.size, 3, none⟩ = some (.int .i64 n) := cell_of_blk hbx rfl
      have y4 : wr.cell? ⟨w.heap.size, 4, none⟩ = some (.string s) := cell_of_blk hbx rfl
      have y5 : wr.cell? ⟨w.heap.size, 5, none⟩ = some (.slice A3 l3 c3) := cell_of_blk hbx rfl
      go_wp2_with fail
      refine (isBody_any p.m _ _ (HM.out.later hq).any).mono ?_
      rintro e w2 ⟨rfl, bw2⟩
      go_wp2_with fail
      go_ret
      exact ⟨by rw [HF.out]; rfl, hq.trans (bw2.mono hq.size)⟩

end Go.Proofs.Ytldcjboignbfpaa
