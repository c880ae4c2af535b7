/-
  constfold: the contract of literal, as far as constfold.Const needs it (the node that it makes does not matter).
-/
import Derived.Test.YtldcjboignbfpaaAr
import Derived.Test.YtldcjboignbfpaaAwake
import Derived.Test.YtldcjboignbfpaaRowI
import Derived.Laws.Closers25b
namespace Go.Proofs.Ytldcjboignbfpaa
open Go Go.RowKit

/-- Some node. -/
def SomeN (w : World) (e : Ending) (w' : World) : Prop := ∃ k n s A l c, e = .returned (nv k n s A l c) ∧ Below w.heap.size w w'
theorem buildL (k n : Int) (w : World) : (Instr.build 24 #[(0, .int .u8 k), (1, .int .i64 n)]).run Try.prog w = .ok (nv k n ⟨#[]⟩ none 0 0) w := by kernel_rfl
set_option maxHeartbeats 4000000 in
set_option maxRecDepth 100000 in
theorem literal_nonneg (v : Int) (hv : 0 ≤ v) (w : World) : Calls Try.prog 101 #[.int .i64 v] w (SomeN w) := by
  have hd : decide (0 ≤ v) = true := decide_eq_true hv
  have hb := buildL
  go_enter Try.func101, Try.ntmps101
  go_wp2_with fail
  (try simp only [Exit.inBlock, Exit.then])
  refine bodyPost_ret (v := nv 1 v ⟨#[]⟩ none 0 0) (by simp [results, Try.results101, go_sem]) rfl ⟨_, _, _, _, _, _, rfl, bl_al (Below.refl _ _) _⟩
set_option maxHeartbeats 4000000 in
set_option maxRecDepth 100000 in
theorem literal_any (v : Int) (hv : -9223372036854775808 ≤ v ∧ v ≤ 9223372036854775807) (w : World) : Calls Try.prog 101 #[.int .i64 v] w (SomeN w) := by
  by_cases h0 : 0 ≤ v
  · exact literal_nonneg v h0 w
  · have hd : decide (0 ≤ v) = false := decide_eq_false h0
    have hb := buildOp
    have hb2 := buildS2
    have hb1 := build1
    by_cases hm : v = -9223372036854775808
    · subst hm
      go_enter Try.func101, Try.ntmps101
      go_wp2_with fail
      refine (literal_nonneg _ (by omega) _).mono ?_
      rintro e w1 ⟨k1, n1, s1, A1, l1, c1, rfl, b1⟩
      have b1' : Below w.heap.size w w1 := bl_tt (bl_al (Below.refl _ _) _) b1
      go_wp2_with fail
      refine (literal_nonneg _ (by omega) _).mono ?_
      rintro e w2 ⟨k2, n2, s2, A2, l2, c2, rfl, b2⟩
      have b2' := bl_tt b1' b2
      have hbx : w2.heap[w.heap.size]? = some (.cells #[.int .u8 0, .int .i64 0, .string ⟨#[]⟩, .slice none 0 0] 24 (0, 0)) := ((b2.block _ (by have := b1.size; simp at this; omega)).trans (b1.block _ (by simp))).trans (heap_alloc_new w _)
      obtain ⟨m0, m1, m2, m3⟩ := box4 hbx
      have f0 : ∀ i, w2.frozen? ⟨w.heap.size, i, none⟩ = false := fun i => frozen_of_blk hbx
      have hlt := blk_lt hbx
      have hne : ¬ w.heap.size = w2.heap.size := by omega
      have hne2 : ¬ w2.heap.size = w.heap.size := by omega
      clear hbx
      go_wp2_with fail
      (try simp only [Exit.inBlock, Exit.then])
      refine bodyPost_ret (v := nv 8 0 ⟨#[]⟩ (some ⟨w2.heap.size, 0, none⟩) 2 2) (by simp [results, Try.results101, go_sem, m0, m1, m2, m3, hne, hne2, hlt]) rfl ⟨_, _, _, _, _, _, rfl, bl_al ((((b2'.setCell (by simp) _).setCell (by simp) _).setCell (by simp) _).setCell (by simp) _) _⟩
    · have hm' : (v == -9223372036854775808) = false := by simpa using hm
      go_enter Try.func101, Try.ntmps101
      go_wp2_with fail
      refine (literal_nonneg _ (by omega) _).mono ?_
      rintro e w1 ⟨k1, n1, s1, A1, l1, c1, rfl, b1⟩
      have b1' : Below w.heap.size w w1 := bl_tt (bl_al (Below.refl _ _) _) b1
      have hbx : w1.heap[w.heap.size]? = some (.cells #[.int .u8 0, .int .i64 0, .string ⟨#[]⟩, .slice none 0 0] 24 (0, 0)) := (b1.block _ (by simp)).trans (heap_alloc_new w _)
      obtain ⟨m0, m1, m2, m3⟩ := box4 hbx
      have f0 : ∀ i, w1.frozen? ⟨w.heap.size, i, none⟩ = false := fun i => frozen_of_blk hbx
      have hlt := blk_lt hbx
      have hne : ¬ w.heap.size = w1.heap.size := by omega
      have hne2 : ¬ w1.heap.size = w.heap.size := by omega
      clear hbx
      go_wp2_with fail
      (try simp only [Exit.inBlock, Exit.then])
      refine bodyPost_ret (v := nv 6 0 ⟨#[]⟩ (some ⟨w1.heap.size, 0, none⟩) 1 1) (by simp [results, Try.results101, go_sem, m0, m1, m2, m3, hne, hne2, hlt]) rfl ⟨_, _, _, _, _, _, rfl, bl_al ((((b1'.setCell (by simp) _).setCell (by simp) _).setCell (by simp) _).setCell (by simp) _) _⟩

end Go.Proofs.Ytldcjboignbfpaa

/-
  What package arith computes fits int64.
-/
namespace Go.Proofs.Ytldcjboignbfpaa
open Go Go.RowKit

theorem numI_64 (b : Bool) : I64 (numI b) := by cases b <;> simp [numI, I64]
theorem wrap64_64 (x : Int) : I64 (wrap64 x) := by unfold I64 wrap64; omega
theorem bits_64 (op : BinOp) (a b : Int) : I64 (bits op .i64 a b) := ⟨bits_lo_i64 _ _ _, bits_hi_i64 _ _ _⟩
theorem tmod_64 {x y : Int} (hx : I64 x) : I64 (x.tmod y) := by
  have h : (x.tmod y).natAbs ≤ x.natAbs := by rw [Int.natAbs_tmod]; exact Nat.mod_le _ _
  have hs : 0 ≤ x → 0 ≤ x.tmod y := fun h0 => Int.tmod_nonneg y h0
  have hn : x ≤ 0 → x.tmod y ≤ 0 := fun h0 => by
    have h1 := Int.tmod_nonneg (a := -x) y (by omega)
    rw [Int.neg_tmod] at h1
    omega
  unfold I64 at *
  omega
theorem divE_64 {k x y : Int} (hx : I64 x) : I64 (divE k x y).1 := by
  unfold divE
  split
  · simp [I64]
  · split
    · exact wrap64_64 _
    · exact tmod_64 hx
theorem unE_64 {k x : Int} : I64 (unE k x).1 := by
  unfold unE
  split
  · exact wrap64_64 _
  · exact numI_64 _
set_option maxHeartbeats 2000000 in
set_option maxRecDepth 100000 in
theorem apE_64 {k x y : Int} (hx : I64 x) : I64 (apE k x y).1 := by
  unfold apE
  by_cases h : k = 8
  · rw [if_pos h]; dsimp only; exact wrap64_64 _
  rw [if_neg h]
  clear h
  by_cases h : k = 9
  · rw [if_pos h]; dsimp only; exact wrap64_64 _
  rw [if_neg h]
  clear h
  by_cases h : k = 10
  · rw [if_pos h]; dsimp only; exact wrap64_64 _
  rw [if_neg h]
  clear h
  by_cases h : k = 11
  · rw [if_pos h]; exact divE_64 hx
  rw [if_neg h]
  clear h
  by_cases h : k = 12
  · rw [if_pos h]; exact divE_64 hx
  rw [if_neg h]
  clear h
  by_cases h : k = 13
  · rw [if_pos h]; dsimp only; exact bits_64 _ _ _
  rw [if_neg h]
  clear h
  by_cases h : k = 14
  · rw [if_pos h]; dsimp only; exact bits_64 _ _ _
  rw [if_neg h]
  clear h
  by_cases h : k = 15
  · rw [if_pos h]; dsimp only; exact bits_64 _ _ _
  rw [if_neg h]
  clear h
  by_cases h : k = 16
  · rw [if_pos h]; dsimp only; exact numI_64 _
  rw [if_neg h]
  clear h
  by_cases h : k = 17
  · rw [if_pos h]; dsimp only; exact numI_64 _
  rw [if_neg h]
  clear h
  by_cases h : k = 18
  · rw [if_pos h]; dsimp only; exact numI_64 _
  rw [if_neg h]
  clear h
  by_cases h : k = 19
  · rw [if_pos h]; dsimp only; exact numI_64 _
  rw [if_neg h]
  clear h
  by_cases h : k = 20
  · rw [if_pos h]; dsimp only; exact numI_64 _
  rw [if_neg h]
  clear h
  by_cases h : k = 21
  · rw [if_pos h]; dsimp only; exact numI_64 _
  rw [if_neg h]
  clear h
  by_cases h : k = 22
  · rw [if_pos h]; dsimp only; exact numI_64 _
  rw [if_neg h]
  clear h
  by_cases h : k = 23
  · rw [if_pos h]; dsimp only; exact numI_64 _
  rw [if_neg h]
  clear h
  exact numI_64 false

end Go.Proofs.Ytldcjboignbfpaa

/-
  constfold.value: rows of folded expressions (6 cells each; cell 4 the value, cell 5 whether it is constant).
-/
namespace Go.Proofs.Ytldcjboignbfpaa
open Go Go.RowKit

/-- A folded expression: its value, and whether it is constant. -/
structure FO where
  v : Int
  c : Bool
/-- The six cells of a folded expression at p. -/
def Fo6 (w : World) (p : Addr) (f : FO) : Prop := ∃ k n s A l c, w.cell? p = some (.int .u8 k) ∧ w.cell? ⟨p.block, p.off + 1, none⟩ = some (.int .i64 n) ∧ w.cell? ⟨p.block, p.off + 2, none⟩ = some (.string s) ∧ w.cell? ⟨p.block, p.off + 3, none⟩ = some (.slice A l c) ∧ w.cell? ⟨p.block, p.off + 4, none⟩ = some (.int .i64 f.v) ∧ w.cell? ⟨p.block, p.off + 5, none⟩ = some (.bool f.c)
/-- The slice address A leads to the folded expressions fs. -/
def RowF (w : World) (S : Nat → Prop) (A : Option Addr) (fs : List FO) : Prop :=
  ∀ i (hi : i < fs.length), ∃ a : Addr, A = some a ∧ S a.block ∧ Fo6 w (a.add (i * 6)) fs[i] ∧ I64 fs[i].v
/-- constfold.value. -/
def valE (k n : Int) (fs : List FO) : FO :=
  if fs.all (·.c) then
    if k = 1 then ⟨n, true⟩ else if 2 ≤ k ∧ k ≤ 5 then ⟨0, false⟩ else
    if k = 6 ∨ k = 7 then ⟨(unE k (fs[0]?.elim 0 (·.v))).1, (unE k (fs[0]?.elim 0 (·.v))).2 == 0⟩ else
    ⟨(apE k (fs[0]?.elim 0 (·.v)) (fs[1]?.elim 0 (·.v))).1, (apE k (fs[0]?.elim 0 (·.v)) (fs[1]?.elim 0 (·.v))).2 == 0⟩
  else ⟨0, false⟩
/-- What is not constant has no value. -/
def nrm (f : FO) : FO := if f.c = true then f else ⟨0, false⟩
mutual
/-- Value and constancy of a folded tree. -/
def foldE : T → FO
  | .nd k n _ ks => nrm (valE k n (foldEs ks))
def foldEs : List T → List FO
  | [] => []
  | t :: ts => foldE t :: foldEs ts
end
theorem foldEs_map : ∀ ks : List T, foldEs ks = ks.map foldE
  | [] => by simp [foldEs]
  | t :: ts => by simp [foldEs, foldEs_map ts]

end Go.Proofs.Ytldcjboignbfpaa

/-
  The contract of constfold.value.
-/
namespace Go.Proofs.Ytldcjboignbfpaa
open Go Go.RowKit

theorem RowF.later {w w' : World} {S : Nat → Prop} {A : Option Addr} {fs : List FO} (h : RowF w S A fs) (hb : Below w.heap.size w w') : RowF w' S A fs := fun i hi => by
  obtain ⟨a, h1, h2, ⟨k, n, s, A', l, c, q0, q1, q2, q3, q4, q5⟩, h4⟩ := h i hi
  have kp : ∀ {p : Addr} {v : Value}, w.cell? p = some v → w'.cell? p = some v := fun {p v} hq => cell_kp hq (hb.block _ (World.block_lt_of_cell? w _ hq))
  exact ⟨a, h1, h2, ⟨k, n, s, A', l, c, kp q0, kp q1, kp q2, kp q3, kp q4, kp q5⟩, h4⟩
theorem RowF.nd {w : World} {S : Nat → Prop} {A : Option Addr} {fs : List FO} (h : RowF w S A fs) {i : Nat} (hi : i < fs.length) : ∃ (a : Addr) (f : FO), A = some a ∧ Hid (fs[i] = f) ∧ Fo6 w (a.add (i * 6)) f ∧ I64 f.v :=
  let ⟨a, h1, _, h3, h4⟩ := h i hi; ⟨a, fs[i], h1, rfl, h3, h4⟩

set_option maxHeartbeats 8000000 in
set_option maxRecDepth 100000 in
theorem value_any (t : T) (fs : List FO) (A : Option Addr) (c : Nat) (S : Nat → Prop) (v : Value) (w : World) (hv : NV w Any t v) (hrow : RowF w S A fs) (hl : fs.length ≤ 100000) (h1 : t.k = 6 ∨ t.k = 7 → 1 ≤ fs.length) (h2 : 8 ≤ t.k → t.k ≤ 23 ∧ 2 ≤ fs.length) (h0 : 1 ≤ t.k) :
    Calls Try.prog 100 #[v, .slice A fs.length c] w fun e w' => e = .returned (.tuple #[.int .i64 (valE t.k t.n fs).v, .bool (valE t.k t.n fs).c]) ∧ Below w.heap.size w w' := by
  obtain ⟨B, tc, rfl, hf, hlk, -, -⟩ := hv.open_
  obtain ⟨k, hk⟩ : ∃ k, t.k = k := ⟨_, rfl⟩
  obtain ⟨n, hn⟩ : ∃ n, t.n = n := ⟨_, rfl⟩
  obtain ⟨s, hs⟩ : ∃ s, t.s = s := ⟨_, rfl⟩
  obtain ⟨l, hlks⟩ : ∃ l, t.ks.length = l := ⟨_, rfl⟩
  rw [hk, hn, hs, hlks]
  rw [hk] at h0 h1 h2
  clear hv hf hlk hk hn hs hlks
  obtain ⟨F, hF⟩ : ∃ F, valE k n fs = F := ⟨_, rfl⟩
  rw [hF]
  have HF := Lib.hid hF
  have HROW := Lib.hid hrow
  have H1 := Lib.hid h1
  have H2 := Lib.hid h2
  clear hF hrow h1 h2
  go_enter Try.func100, Try.ntmps100
  go_wp2_with fail
  go_loopw [12] (fun i wr => ∃ j : Nat, j ≤ fs.length ∧ i = .int .i64 j ∧ (fs.take j).all (·.c) = true ∧ Below w.heap.size w wr ∧ wr.heap[w.heap.size]? = some (.cells #[.int .u8 k, .int .i64 n, .string s, .slice B l tc] 24 (0, 0))) (fun i _ => fs.length - (intOf i).toNat)
  case atStart => exact ⟨0, Nat.zero_le _, rfl, by simp, bl_al (Below.refl _ _) _, heap_alloc_new w _⟩
  case round =>
    obtain ⟨j, hj, rfl, hall, hbw, hbx⟩ := hrel
    have HBW := Lib.hid hbw
    have HBX := Lib.hid hbx
    have HALL := Lib.hid hall
    by_cases hlt : j < fs.length
    · obtain ⟨a, f, rfl, Hf, ⟨k1, n1, s1, A1, l1, c1, q0, q1, q2, q3, q4, q5⟩, -⟩ := (HROW.out.later hbw).nd hlt
      obtain ⟨fv, fc⟩ := f
      clear hbw hbx hall
      dsimp only at q4 q5
      cases fc
      · go_wp2_with fail
        go_ret2
        have hF0 : F = ⟨0, false⟩ := by
          rw [← HF.out, valE, if_neg]
          intro h
          have := List.all_eq_true.1 h _ (List.getElem_mem hlt)
          rw [Hf.out] at this
          cases this
        subst hF0
        exact ⟨rfl, bl_al HBW.out _⟩
      · go_wp2_with fail
        go_roundw
        case rel => exact ⟨j + 1, by omega, by go_num, by rw [List.take_succ_eq_append_getElem hlt, List.all_append, HALL.out, Hf.out]; rfl, bl_al HBW.out _, blk_al HBX.out _⟩
        case measure => simp [intOf]; omega
    · have hjl : j = fs.length := by omega
      have hallf : fs.all (·.c) = true := by have := HALL.out; rwa [hjl, List.take_of_length_le (Nat.le_refl _)] at this
      have hge : ¬ ((j : Int) < (fs.length : Int)) := by omega
      have HAF := Lib.hid hallf
      obtain ⟨m0, m1, m2, m3⟩ := box4 hbx
      clear hbw hbx hall hallf
      by_cases k1 : k = 1
      · subst k1
        go_wp2_with fail
        go_ret2
        have hF0 : F = ⟨n, true⟩ := by rw [← HF.out, valE, if_pos HAF.out]; simp
        subst hF0
        exact ⟨rfl, HBW.out⟩
      · by_cases k2 : k = 2 ∨ k = 3 ∨ k = 4 ∨ k = 5
        · have hF0 : F = ⟨0, false⟩ := by rw [← HF.out, valE, if_pos HAF.out, if_neg k1, if_pos (by omega)]
          subst hF0
          rcases k2 with rfl | rfl | rfl | rfl
          all_goals (go_wp2_with fail; go_ret2; exact ⟨rfl, HBW.out⟩)
        · by_cases k6 : k = 6 ∨ k = 7
          · have hl1 := H1.out k6
            obtain ⟨a, f, rfl, Hf, ⟨k1', n1', s1', A1', l1', c1', q0, q1, q2, q3, q4, q5⟩, -⟩ := (HROW.out.later HBW.out).nd (show 0 < fs.length by omega)
            have hfl : (0 : Int) < (fs.length : Int) := by omega
            have hfl0 : 0 < fs.length := by omega
            have hF0 : F = ⟨(unE k f.v).1, (unE k f.v).2 == 0⟩ := by
              have e0 : fs[0]? = some f := by rw [List.getElem?_eq_getElem (by omega), Hf.out]
              rw [← HF.out, valE, if_pos HAF.out, if_neg k1, if_neg (by omega), if_pos k6, e0]; rfl
            have HUN := Lib.hid (Unary_any k f.v k6)
            obtain ⟨⟨uv, ue⟩, hU⟩ : ∃ p, unE k f.v = p := ⟨_, rfl⟩
            rw [hU] at HUN hF0
            dsimp only at HUN hF0
            have HF0 := Lib.hid hF0
            clear hU hF0
            rcases k6 with rfl | rfl
            · have HS := Lib.hid (show (fun w' : World => w'.cell? ⟨w.heap.size, 0, none⟩ = some (.int .u8 6) ∧ w'.cell? ⟨a.block, a.off + 4, none⟩ = some (.int .i64 f.v)) wr.drew from ⟨m0, by simpa [Addr.add_zero'] using q4⟩)
              clear q0 q1 q2 q3 q4 q5
              go_upto_region 20 with fail
              go_region_held3 (fun w' : World => w'.cell? ⟨w.heap.size, 0, none⟩ = some (.int .u8 6) ∧ w'.cell? ⟨a.block, a.off + 4, none⟩ = some (.int .i64 f.v))
                (with_reducible exact HS.out)
                (first
                  | (go_at_call 104; refine (HUN.out _).mono ?_; rintro e x1 ⟨rfl, rfl⟩)
                  | fail)
              go_wp2_with fail
              go_ret2
              exact ⟨by rw [HF0.out]; rfl, HBW.out.drew⟩
            · have HS := Lib.hid (show (fun w' : World => w'.cell? ⟨w.heap.size, 0, none⟩ = some (.int .u8 7) ∧ w'.cell? ⟨a.block, a.off + 4, none⟩ = some (.int .i64 f.v)) wr.drew from ⟨m0, by simpa [Addr.add_zero'] using q4⟩)
              clear q0 q1 q2 q3 q4 q5
              go_upto_region 20 with fail
              go_region_held3 (fun w' : World => w'.cell? ⟨w.heap.size, 0, none⟩ = some (.int .u8 7) ∧ w'.cell? ⟨a.block, a.off + 4, none⟩ = some (.int .i64 f.v))
                (with_reducible exact HS.out)
                (first
                  | (go_at_call 104; refine (HUN.out _).mono ?_; rintro e x1 ⟨rfl, rfl⟩)
                  | fail)
              go_wp2_with fail
              go_ret2
              exact ⟨by rw [HF0.out]; rfl, HBW.out.drew⟩
          · have hl2 := H2.out (by omega)
            have hl2' := hl2.2
            obtain ⟨a, f, rfl, Hf, ⟨k1', n1', s1', A1', l1', c1', q0, q1, q2, q3, q4, q5⟩, -⟩ := (HROW.out.later HBW.out).nd (show 0 < fs.length by omega)
            obtain ⟨a', f', ea, Hf', ⟨k2', n2', s2', A2', l2', c2', y0, y1, y2, y3, y4, y5⟩, -⟩ := (HROW.out.later HBW.out).nd (show 1 < fs.length by omega)
            injection ea with ea
            subst ea
            have hfl : (0 : Int) < (fs.length : Int) := by omega
            have hfl0 : 0 < fs.length := by omega
            have hfl1 : (1 : Int) < (fs.length : Int) := by omega
            have hfl2 : 1 < fs.length := by omega
            have hF0 : F = ⟨(apE k f.v f'.v).1, (apE k f.v f'.v).2 == 0⟩ := by
              have e0 : fs[0]? = some f := by rw [List.getElem?_eq_getElem (by omega), Hf.out]
              have e1 : fs[1]? = some f' := by rw [List.getElem?_eq_getElem (by omega), Hf'.out]
              rw [← HF.out, valE, if_pos HAF.out, if_neg k1, if_neg (by omega), if_neg k6, e0, e1]; rfl
            have HUN := Lib.hid (Apply_any k f.v f'.v (by omega))
            obtain ⟨⟨uv, ue⟩, hU⟩ : ∃ p, apE k f.v f'.v = p := ⟨_, rfl⟩
            rw [hU] at HUN hF0
            dsimp only at HUN hF0
            have HF0 := Lib.hid hF0
            have x1 : (k == 1) = false := by simp; omega
            have x2 : (k == 2) = false := by simp; omega
            have x3 : (k == 3) = false := by simp; omega
            have x4 : (k == 4) = false := by simp; omega
            have x5 : (k == 5) = false := by simp; omega
            have x6 : (k == 6) = false := by simp; omega
            have x7 : (k == 7) = false := by simp; omega
            have HS := Lib.hid (show (fun w' : World => w'.cell? ⟨w.heap.size, 0, none⟩ = some (.int .u8 k) ∧ w'.cell? ⟨a.block, a.off + 4, none⟩ = some (.int .i64 f.v) ∧ w'.cell? ⟨a.block, a.off + 6 + 4, none⟩ = some (.int .i64 f'.v)) wr.drew from ⟨m0, by simpa [Addr.add_zero'] using q4, by simpa [Addr.add] using y4⟩)
            clear hU hF0 q0 q1 q2 q3 q4 q5 y0 y1 y2 y3 y4 y5 k1 k2 k6
            go_upto_region 10 with fail
            go_region_held3 (fun w' : World => w'.cell? ⟨w.heap.size, 0, none⟩ = some (.int .u8 k) ∧ w'.cell? ⟨a.block, a.off + 4, none⟩ = some (.int .i64 f.v) ∧ w'.cell? ⟨a.block, a.off + 6 + 4, none⟩ = some (.int .i64 f'.v))
              (with_reducible exact HS.out)
              (first
                | (go_at_call 105; refine (HUN.out _).mono ?_; rintro e x1 ⟨rfl, rfl⟩)
                | fail)
            go_wp2_with fail
            go_ret2
            exact ⟨by rw [HF0.out]; rfl, HBW.out.drew⟩

end Go.Proofs.Ytldcjboignbfpaa
