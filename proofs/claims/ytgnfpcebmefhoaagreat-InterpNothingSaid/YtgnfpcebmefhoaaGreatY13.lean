/-
  Texts of the proof, put together without their remarks: Lno, Lift, LiftV, LiftS, LiftP.
-/
import Derived.Test.YtgnfpcebmefhoaaGreatY12
import Derived.Test.YtgnfpcebmefhoaaGreatRows
import Derived.ProofKit
import Derived.SizedLaws
import Derived.Deep.Slices
import Derived.Deep.Fields
import Derived.Lib.SmallJoins
import Derived.ChangeSlices
set_option linter.unusedSimpArgs false
set_option linter.unusedVariables false
namespace Go.Proofs.YtgnfpcebmefhoaaGreat
open Go Go.RowKit
theorem Smal.sm {p : PG} {s : SS} {F : Int} (h : Smal p s F) : s.Sm :=
 ⟨by have := h.cells; omega, fun l hl => by have := h.row l hl; omega, by have := h.tin; omega, by have := h.tout; omega⟩
theorem fnFwdL : IsFn Tryz.prog 15 Tryz.f15 := ⟨Tryz.func15, by kernel_rfl, by kernel_rfl⟩
theorem fnBwdL : IsFn Tryz.prog 18 Tryz.f18 := ⟨Tryz.func18, by kernel_rfl, by kernel_rfl⟩
theorem PV_N {p : PG} {S : Nat → Prop} {A1 A2 A3 : Option Addr} {c1 c2 c3 : Nat} {w : World} (hp : PV w S p (.agg #[.slice A1 p.vs.length c1, .slice A2 p.prs.length c2, .int .u8 p.m.k, .int .i64 p.m.n, .string p.m.s, .slice A3 p.m.ks.length c3])) :
  PV w S (pgN p) (.agg #[.slice A1 p.vs.length c1, .slice A2 p.prs.length c2, .int .u8 p.m.k, .int .i64 p.m.n, .string p.m.s, .slice none 0 0]) := by
 obtain ⟨B1, d1, B2, d2, B3, d3, he, hpg⟩ := hp
 injection he with he
 simp only [Array.mk.injEq, List.cons.injEq, Value.slice.injEq, and_true, true_and] at he
 obtain ⟨⟨rfl, rfl⟩, ⟨rfl, rfl⟩, ⟨rfl, rfl⟩⟩ := he
 refine ⟨A1, c1, A2, c2, none, 0, rfl, ⟨hpg.vars, hpg.lv, hpg.lvc, hpg.procs, hpg.lp, hpg.lpc, NV_leaf w S ?_⟩⟩
 have hm := hpg.main
 obtain ⟨vs, prs, k, n, s, ks⟩ := p
 generalize nv _ _ _ _ _ _ = v at hm
 cases hm
 assumption
def NoR (n : Nat) (s : SS) (x : Value) (w : World) : Prop := ∃ A c B d D g, x = .agg #[.slice A s.cells.length c, .slice B s.tin.length d, .slice D s.tout.length g, .int .i64 0, .int .i64 0] ∧ OwnS w n s (.agg #[.slice A s.cells.length c, .slice B s.tin.length d, .slice D s.tout.length g])
theorem FwP.nothing {W W' : World} {s : SS} {l : List Nat} {e : Ending} {n : Nat} (hn : n ≤ W.heap.size) (h : FwP W (s, 0, 0, l) e W') : ∃ x, e = .returned x ∧ NoR n s x W' ∧ Below W.heap.size W W' := by
 obtain ⟨v1, v2, v3, rfl, ho, hb, -⟩ := h
 have hsv := ho.lower hn
 obtain ⟨A, c, B, d, D, g, hv⟩ := ho.slices
 rw [hv] at hsv
 injection hv with hv
 simp only [Array.mk.injEq, List.cons.injEq, and_true] at hv
 obtain ⟨rfl, rfl, rfl⟩ := hv
 exact ⟨_, rfl, ⟨A, c, B, d, D, g, rfl, hsv⟩, hb⟩
theorem OwnS.chgT {W W' : World} {n0 ba : Nat} {s : SS} {v : Value} {xs : Array Value} (h : OwnS W n0 s v) (hc : Chg (fun b => b = ba) W W') (hz : W.heap[ba]? = some (.cells xs 37 (0, 0))) : OwnS W' n0 s v := by
 obtain ⟨vc, vi, vo, fc, rfl, hr, hi⟩ := h
 refine ⟨vc, vi, vo, fc, rfl, hr.chg hc fun i b hb hcb => ?_, hi⟩
 have hcb : b = ba := hcb
 subst hcb
 obtain ⟨-, ⟨hv, -⟩ | ⟨g, cap, cur, hv, -, hg, -⟩⟩ := hr.row i
 ·rw [hv] at hb
  cases hb
 ·rw [hv] at hb
  injection hb with hb
  have hb : g = b := hb
  subst hb
  rw [hz] at hg
  injection hg with hg
  injection hg with _ hE
  cases i with
  | all => simp [rowsS] at hE
  | inp => simp [rowsS] at hE
  | out => simp [rowsS] at hE
  | el i =>
   simp only [rowsS] at hE
   split at hE
   ·simp at hE
   ·exact absurd hE (by decide)
theorem Fits_P (p : PG) (s : SS) (A1 A2 A3 : Option Addr) (c1 c2 c3 : Nat) (v : Value) (w : World) (hp : PV w Any p (.agg #[.slice A1 p.vs.length c1, .slice A2 p.prs.length c2, .int .u8 p.m.k, .int .i64 p.m.n, .string p.m.s, .slice A3 p.m.ks.length c3])) (hs : SV w Any s v) :
  Calls Tryz.prog 22 #[.slice A1 p.vs.length c1, v] w fun e w' => e = .returned (.bool (fitB p.vs s)) ∧ Below w.heap.size w w' := by
 obtain ⟨B1, d1, B2, d2, B3, d3, he, hpg⟩ := hp
 injection he with he
 injection he with he
 injection he with he _
 injection he with h1 _ h3
 subst h1 h3
 exact Fits_any p.vs s A1 c1 v w hpg.vars hpg.lv hs
set_option maxHeartbeats 4000000 in
set_option maxRecDepth 100000 in
theorem Nothing_walk (p : PG) (s : SS) (F : Int) (v sv : Value) (W : World) (hp : PV W Any p v) (hs : SV W Any s sv) (hF : I64 F) :
  Calls Tryz.prog 9 #[v, sv, .int .i64 F] W fun e W' => e = .returned (.bool true) ∧ Below W.heap.size W W' := by
 have HPV := Lib.hid hp
 have HSV := Lib.hid hs
 obtain ⟨A1, c1, A2, c2, A3, c3, rfl, hpg⟩ := hp
 obtain ⟨A, c, B, d, D, e, rfl, hr1, hr2, hr3, hc1, hc2, hc3, hl1, hl2, hl3, hl4⟩ := hs
 have hb2 := bl_al (bl_al (Below.refl W.heap.size W) (.cells #[.slice A1 p.vs.length c1, .slice A2 p.prs.length c2, .int .u8 p.m.k, .int .i64 p.m.n, .string p.m.s, .slice A3 p.m.ks.length c3] 28)) (.cells #[.slice A s.cells.length c, .slice B s.tin.length d, .slice D s.tout.length e] 32)
 have k0 := blk_al (heap_alloc_new W (.cells #[.slice A1 p.vs.length c1, .slice A2 p.prs.length c2, .int .u8 p.m.k, .int .i64 p.m.n, .string p.m.s, .slice A3 p.m.ks.length c3] 28)) (.cells #[.slice A s.cells.length c, .slice B s.tin.length d, .slice D s.tout.length e] 32)
 have k1 := heap_alloc_new (W.alloc (.cells #[.slice A1 p.vs.length c1, .slice A2 p.prs.length c2, .int .u8 p.m.k, .int .i64 p.m.n, .string p.m.s, .slice A3 p.m.ks.length c3] 28)) (.cells #[.slice A s.cells.length c, .slice B s.tin.length d, .slice D s.tout.length e] 32)
 rw [World.size_alloc] at k1
 obtain ⟨w2, hw2⟩ : ∃ x, (W.alloc (.cells #[.slice A1 p.vs.length c1, .slice A2 p.prs.length c2, .int .u8 p.m.k, .int .i64 p.m.n, .string p.m.s, .slice A3 p.m.ks.length c3] 28)).alloc (.cells #[.slice A s.cells.length c, .slice B s.tin.length d, .slice D s.tout.length e] 32) = x := ⟨_, rfl⟩
 rw [hw2] at hb2 k0 k1
 have HB2 := Lib.hid hb2
 have HK0 := Lib.hid k0
 have HK1 := Lib.hid k1
 clear hpg hr1 hr2 hr3 hb2 k0 k1 hc1 hc2 hc3 hl1 hl2 hl3 hl4
 have HAW := Lib.hid (awake_any w2)
 have HGR := Lib.hid (fun w' (hb : Below w2.heap.size w2 w') => great_any p s F _ _ w' (HPV.out.later (bl_tt HB2.out hb)) (HSV.out.later (bl_tt HB2.out hb)) hF)
 go_enter Tryz.func9, Tryz.ntmps9
 go_wp2_with fail
 refine HAW.out.mono ?_
 rintro e3 w3 ⟨rfl, b3⟩
 clear hw2 HAW
 have hPq := blk_bl HK0.out b3
 have hSq := blk_bl HK1.out b3
 have p0 : w3.cell? ⟨W.heap.size, 0, none⟩ = some (.slice A1 p.vs.length c1) := cell_of_blk hPq rfl
 have p1 : w3.cell? ⟨W.heap.size, 1, none⟩ = some (.slice A2 p.prs.length c2) := cell_of_blk hPq rfl
 have p2 : w3.cell? ⟨W.heap.size, 2, none⟩ = some (.int .u8 p.m.k) := cell_of_blk hPq rfl
 have p3 : w3.cell? ⟨W.heap.size, 3, none⟩ = some (.int .i64 p.m.n) := cell_of_blk hPq rfl
 have p4 : w3.cell? ⟨W.heap.size, 4, none⟩ = some (.string p.m.s) := cell_of_blk hPq rfl
 have p5 : w3.cell? ⟨W.heap.size, 5, none⟩ = some (.slice A3 p.m.ks.length c3) := cell_of_blk hPq rfl
 have s0 : w3.cell? ⟨W.heap.size + 1, 0, none⟩ = some (.slice A s.cells.length c) := cell_of_blk hSq rfl
 have s1 : w3.cell? ⟨W.heap.size + 1, 1, none⟩ = some (.slice B s.tin.length d) := cell_of_blk hSq rfl
 have s2 : w3.cell? ⟨W.heap.size + 1, 2, none⟩ = some (.slice D s.tout.length e) := cell_of_blk hSq rfl
 clear hPq hSq
 go_wp2_with fail
 refine (HGR.out _ b3).mono ?_
 rintro e4 w4 ⟨gb, rfl, hgb, b4⟩
 have b24 := bl_tt b3 b4
 clear p0 p1 p2 p3 p4 p5 s0 s1 s2 b3 b4 HGR
 cases gb
 ·have HSM := Lib.hid (hgb rfl)
  have HCL := Lib.hid (show s.cells.length ≤ 1000000 by have := HSM.out.cells; omega)
  have hF6 : F ≤ 1000000 := by have := HSM.out.F; omega
  have hFG : F.toNat * 2000 + 2000 ≤ 5000000 := by have := HSM.out.F; omega
  clear hgb
  obtain ⟨vb, hvb⟩ : ∃ b, validB p = b := ⟨_, rfl⟩
  have HVA := Lib.hid (Valid_any p Any _ w4 (HPV.out.later (bl_tt HB2.out b24)))
  rw [hvb] at HVA
  have hPq := blk_bl HK0.out b24
  have hSq := blk_bl HK1.out b24
  have p0 : w4.cell? ⟨W.heap.size, 0, none⟩ = some (.slice A1 p.vs.length c1) := cell_of_blk hPq rfl
  have p1 : w4.cell? ⟨W.heap.size, 1, none⟩ = some (.slice A2 p.prs.length c2) := cell_of_blk hPq rfl
  have p2 : w4.cell? ⟨W.heap.size, 2, none⟩ = some (.int .u8 p.m.k) := cell_of_blk hPq rfl
  have p3 : w4.cell? ⟨W.heap.size, 3, none⟩ = some (.int .i64 p.m.n) := cell_of_blk hPq rfl
  have p4 : w4.cell? ⟨W.heap.size, 4, none⟩ = some (.string p.m.s) := cell_of_blk hPq rfl
  have p5 : w4.cell? ⟨W.heap.size, 5, none⟩ = some (.slice A3 p.m.ks.length c3) := cell_of_blk hPq rfl
  have s0 : w4.cell? ⟨W.heap.size + 1, 0, none⟩ = some (.slice A s.cells.length c) := cell_of_blk hSq rfl
  have s1 : w4.cell? ⟨W.heap.size + 1, 1, none⟩ = some (.slice B s.tin.length d) := cell_of_blk hSq rfl
  have s2 : w4.cell? ⟨W.heap.size + 1, 2, none⟩ = some (.slice D s.tout.length e) := cell_of_blk hSq rfl
  clear hPq hSq
  go_upto_region 3 with fail
  go_wp2_with fail
  refine HVA.out.mono ?_
  rintro e5 w5 ⟨rfl, b5⟩
  have b25 := bl_tt b24 b5
  clear HVA p0 p1 p2 p3 p4 p5 s0 s1 s2
  cases vb
  ·have hbad := Or.inl (b := chkN p ≠ 0) hvb
   go_upto_region 4 with fail
   obtain ⟨fb, hfb⟩ : ∃ b, fitB p.vs s = b := ⟨_, rfl⟩
   have hft := Fits_P p s A1 A2 A3 c1 c2 c3 _ w5 (HPV.out.later (bl_tt HB2.out b25)) (HSV.out.later (bl_tt HB2.out b25))
   rw [hfb] at hft
   have HFT := Lib.hid hft
   clear hft
   have hPq := blk_bl HK0.out b25
   have hSq := blk_bl HK1.out b25
   have p0 : w5.cell? ⟨W.heap.size, 0, none⟩ = some (.slice A1 p.vs.length c1) := cell_of_blk hPq rfl
   have p1 : w5.cell? ⟨W.heap.size, 1, none⟩ = some (.slice A2 p.prs.length c2) := cell_of_blk hPq rfl
   have p2 : w5.cell? ⟨W.heap.size, 2, none⟩ = some (.int .u8 p.m.k) := cell_of_blk hPq rfl
   have p3 : w5.cell? ⟨W.heap.size, 3, none⟩ = some (.int .i64 p.m.n) := cell_of_blk hPq rfl
   have p4 : w5.cell? ⟨W.heap.size, 4, none⟩ = some (.string p.m.s) := cell_of_blk hPq rfl
   have p5 : w5.cell? ⟨W.heap.size, 5, none⟩ = some (.slice A3 p.m.ks.length c3) := cell_of_blk hPq rfl
   have s0 : w5.cell? ⟨W.heap.size + 1, 0, none⟩ = some (.slice A s.cells.length c) := cell_of_blk hSq rfl
   have s1 : w5.cell? ⟨W.heap.size + 1, 1, none⟩ = some (.slice B s.tin.length d) := cell_of_blk hSq rfl
   have s2 : w5.cell? ⟨W.heap.size + 1, 2, none⟩ = some (.slice D s.tout.length e) := cell_of_blk hSq rfl
   clear hPq hSq
   go_wp2_with fail
   refine HFT.out.mono ?_
   rintro e6 w6 ⟨rfl, b6⟩
   have b26 := bl_tt b25 b6
   clear HFT p0 p1 p2 p3 p4 p5 s0 s1 s2
   have hRF := resBad (s := s) (F := F) (g := 5000000) (back := false) hbad
   have hRB := resBad (s := s) (F := F) (g := 5000000) (back := true) hbad
   go_upto_region 5 with fail
   have hPq := blk_bl HK0.out b26
   have hSq := blk_bl HK1.out b26
   have p0 : w6.cell? ⟨W.heap.size, 0, none⟩ = some (.slice A1 p.vs.length c1) := cell_of_blk hPq rfl
   have p1 : w6.cell? ⟨W.heap.size, 1, none⟩ = some (.slice A2 p.prs.length c2) := cell_of_blk hPq rfl
   have p2 : w6.cell? ⟨W.heap.size, 2, none⟩ = some (.int .u8 p.m.k) := cell_of_blk hPq rfl
   have p3 : w6.cell? ⟨W.heap.size, 3, none⟩ = some (.int .i64 p.m.n) := cell_of_blk hPq rfl
   have p4 : w6.cell? ⟨W.heap.size, 4, none⟩ = some (.string p.m.s) := cell_of_blk hPq rfl
   have p5 : w6.cell? ⟨W.heap.size, 5, none⟩ = some (.slice A3 p.m.ks.length c3) := cell_of_blk hPq rfl
   have s0 : w6.cell? ⟨W.heap.size + 1, 0, none⟩ = some (.slice A s.cells.length c) := cell_of_blk hSq rfl
   have s1 : w6.cell? ⟨W.heap.size + 1, 1, none⟩ = some (.slice B s.tin.length d) := cell_of_blk hSq rfl
   have s2 : w6.cell? ⟨W.heap.size + 1, 2, none⟩ = some (.slice D s.tout.length e) := cell_of_blk hSq rfl
   clear hPq hSq
   have hcon := Forward_any p s F 5000000 _ _ _ (HPV.out.later (bl_tt HB2.out b26)) (HSV.out.later (bl_tt HB2.out b26)) HCL.out hF hF6 hFG
   rw [hRF] at hcon
   have HCON := Lib.hid hcon
   clear hcon
   go_wp2_with fail
   refine HCON.out.mono ?_
   rintro e5 w5 ⟨v1, v2, v3, rfl, ho5, hbQ5, hl5⟩
   obtain ⟨A5, c5, B5, d5, D5, g5, hv⟩ := ho5.slices
   injection hv with hv
   simp only [Array.mk.injEq, List.cons.injEq, and_true] at hv
   obtain ⟨rfl, rfl, rfl⟩ := hv
   have HO5 := Lib.hid ho5
   have HL5 := Lib.hid hl5
   have hq5 := bl_tt b26 hbQ5
   clear p0 p1 p2 p3 p4 p5 s0 s1 s2 ho5 hl5 HCON
   (try dsimp only at HO5 HL5 ⊢)
   go_upto_region 6 with fail
   have ka := heap_alloc_new w5 (.cells #[.slice A5 s.cells.length c5, .slice B5 s.tin.length d5, .slice D5 s.tout.length g5, .int .i64 (0 : Int), .int .i64 3] 37)
   have hba := bl_al (Below.refl w5.heap.size w5) (.cells #[.slice A5 s.cells.length c5, .slice B5 s.tin.length d5, .slice D5 s.tout.length g5, .int .i64 (0 : Int), .int .i64 3] 37)
   obtain ⟨w6, hqx⟩ : ∃ x, w5.alloc (.cells #[.slice A5 s.cells.length c5, .slice B5 s.tin.length d5, .slice D5 s.tout.length g5, .int .i64 (0 : Int), .int .i64 3] 37) = x := ⟨_, rfl⟩
   obtain ⟨rb5, hqy⟩ : ∃ x, w5.heap.size = x := ⟨_, rfl⟩
   rw [hqx] at ka hba
   rw [hqy] at ka
   rw [hqx, hqy]
   clear hqx hqy
   have hq6 := bl_tt hq5 hba
   have HK5 := Lib.hid ka
   clear ka hba
   go_upto_region 10 with fail
   have hPq := blk_bl HK0.out hq6
   have hSq := blk_bl HK1.out hq6
   have p0 : w6.cell? ⟨W.heap.size, 0, none⟩ = some (.slice A1 p.vs.length c1) := cell_of_blk hPq rfl
   have p1 : w6.cell? ⟨W.heap.size, 1, none⟩ = some (.slice A2 p.prs.length c2) := cell_of_blk hPq rfl
   have p2 : w6.cell? ⟨W.heap.size, 2, none⟩ = some (.int .u8 p.m.k) := cell_of_blk hPq rfl
   have p3 : w6.cell? ⟨W.heap.size, 3, none⟩ = some (.int .i64 p.m.n) := cell_of_blk hPq rfl
   have p4 : w6.cell? ⟨W.heap.size, 4, none⟩ = some (.string p.m.s) := cell_of_blk hPq rfl
   have p5 : w6.cell? ⟨W.heap.size, 5, none⟩ = some (.slice A3 p.m.ks.length c3) := cell_of_blk hPq rfl
   have s0 : w6.cell? ⟨W.heap.size + 1, 0, none⟩ = some (.slice A s.cells.length c) := cell_of_blk hSq rfl
   have s1 : w6.cell? ⟨W.heap.size + 1, 1, none⟩ = some (.slice B s.tin.length d) := cell_of_blk hSq rfl
   have s2 : w6.cell? ⟨W.heap.size + 1, 2, none⟩ = some (.slice D s.tout.length e) := cell_of_blk hSq rfl
   clear hPq hSq
   have hcon := Backward_any p s F 5000000 _ _ _ (HPV.out.later (bl_tt HB2.out hq6)) (HSV.out.later (bl_tt HB2.out hq6)) HCL.out hF hF6 hFG
   rw [hRB] at hcon
   have HCON := Lib.hid hcon
   clear hcon
   go_wp2_with fail
   refine HCON.out.mono ?_
   rintro e7 w7 ⟨v1, v2, v3, rfl, ho7, hbQ7, hl7⟩
   obtain ⟨A7, c7, B7, d7, D7, g7, hv⟩ := ho7.slices
   injection hv with hv
   simp only [Array.mk.injEq, List.cons.injEq, and_true] at hv
   obtain ⟨rfl, rfl, rfl⟩ := hv
   have HO7 := Lib.hid ho7
   have HL7 := Lib.hid hl7
   have hq7 := bl_tt hq6 hbQ7
   clear p0 p1 p2 p3 p4 p5 s0 s1 s2 ho7 hl7 HCON
   (try dsimp only at HO7 HL7 ⊢)
   go_upto_region 11 with fail
   have ka := heap_alloc_new w7 (.cells #[.slice A7 s.cells.length c7, .slice B7 s.tin.length d7, .slice D7 s.tout.length g7, .int .i64 (0 : Int), .int .i64 3] 37)
   have hba := bl_al (Below.refl w7.heap.size w7) (.cells #[.slice A7 s.cells.length c7, .slice B7 s.tin.length d7, .slice D7 s.tout.length g7, .int .i64 (0 : Int), .int .i64 3] 37)
   obtain ⟨w8, hqx⟩ : ∃ x, w7.alloc (.cells #[.slice A7 s.cells.length c7, .slice B7 s.tin.length d7, .slice D7 s.tout.length g7, .int .i64 (0 : Int), .int .i64 3] 37) = x := ⟨_, rfl⟩
   obtain ⟨rb7, hqy⟩ : ∃ x, w7.heap.size = x := ⟨_, rfl⟩
   rw [hqx] at ka hba
   rw [hqy] at ka
   rw [hqx, hqy]
   clear hqx hqy
   have x4 : w8.cell? ⟨rb5, 4, none⟩ = some (.int .i64 3) := cell_of_blk (blk_bl HK5.out (bl_tt hbQ7 hba)) rfl
   have y4 : w8.cell? ⟨rb7, 4, none⟩ = some (.int .i64 3) := cell_of_blk ka rfl
   have hq8 := bl_tt hq7 hba
   clear ka hba
   go_wp2_with fail
   go_ret
   exact ⟨rfl, bl_tt HB2.out hq8⟩
  ·have HC5 := Lib.hid (show Calls Tryz.prog 21 #[.agg #[.slice A1 p.vs.length c1, .slice A2 p.prs.length c2, .int .u8 p.m.k, .int .i64 p.m.n, .string p.m.s, .slice A3 p.m.ks.length c3]] w5 (fun e w' => ∃ A c, e = Ending.returned (.slice A (chkN p) c) ∧ Below w5.heap.size w5 w') from (SCheck_any p Any _ w5 (HPV.out.later (bl_tt HB2.out b25))).mono (fun e w' ⟨A, c, h1, h2⟩ => ⟨A, c, by rw [h1, if_pos hvb], h2⟩))
   have hPq := blk_bl HK0.out b25
   have hSq := blk_bl HK1.out b25
   have p0 : w5.cell? ⟨W.heap.size, 0, none⟩ = some (.slice A1 p.vs.length c1) := cell_of_blk hPq rfl
   have p1 : w5.cell? ⟨W.heap.size, 1, none⟩ = some (.slice A2 p.prs.length c2) := cell_of_blk hPq rfl
   have p2 : w5.cell? ⟨W.heap.size, 2, none⟩ = some (.int .u8 p.m.k) := cell_of_blk hPq rfl
   have p3 : w5.cell? ⟨W.heap.size, 3, none⟩ = some (.int .i64 p.m.n) := cell_of_blk hPq rfl
   have p4 : w5.cell? ⟨W.heap.size, 4, none⟩ = some (.string p.m.s) := cell_of_blk hPq rfl
   have p5 : w5.cell? ⟨W.heap.size, 5, none⟩ = some (.slice A3 p.m.ks.length c3) := cell_of_blk hPq rfl
   have s0 : w5.cell? ⟨W.heap.size + 1, 0, none⟩ = some (.slice A s.cells.length c) := cell_of_blk hSq rfl
   have s1 : w5.cell? ⟨W.heap.size + 1, 1, none⟩ = some (.slice B s.tin.length d) := cell_of_blk hSq rfl
   have s2 : w5.cell? ⟨W.heap.size + 1, 2, none⟩ = some (.slice D s.tout.length e) := cell_of_blk hSq rfl
   clear hPq hSq
   go_wp2_with fail
   refine HC5.out.mono ?_
   rintro e6 w6 ⟨AA, cc, rfl, b6⟩
   have b26 := bl_tt b25 b6
   clear p0 p1 p2 p3 p4 p5 s0 s1 s2 HC5
   obtain ⟨n, hnn⟩ : ∃ n, chkN p = n := ⟨_, rfl⟩
   rw [hnn]
   by_cases hn : n = 0
   ·subst hn
    go_upto_region 4 with fail
    obtain ⟨fb, hfb⟩ : ∃ b, fitB p.vs s = b := ⟨_, rfl⟩
    have hft := Fits_P p s A1 A2 A3 c1 c2 c3 _ w6 (HPV.out.later (bl_tt HB2.out b26)) (HSV.out.later (bl_tt HB2.out b26))
    rw [hfb] at hft
    have HFT := Lib.hid hft
    clear hft
    have hPq := blk_bl HK0.out b26
    have hSq := blk_bl HK1.out b26
    have p0 : w6.cell? ⟨W.heap.size, 0, none⟩ = some (.slice A1 p.vs.length c1) := cell_of_blk hPq rfl
    have p1 : w6.cell? ⟨W.heap.size, 1, none⟩ = some (.slice A2 p.prs.length c2) := cell_of_blk hPq rfl
    have p2 : w6.cell? ⟨W.heap.size, 2, none⟩ = some (.int .u8 p.m.k) := cell_of_blk hPq rfl
    have p3 : w6.cell? ⟨W.heap.size, 3, none⟩ = some (.int .i64 p.m.n) := cell_of_blk hPq rfl
    have p4 : w6.cell? ⟨W.heap.size, 4, none⟩ = some (.string p.m.s) := cell_of_blk hPq rfl
    have p5 : w6.cell? ⟨W.heap.size, 5, none⟩ = some (.slice A3 p.m.ks.length c3) := cell_of_blk hPq rfl
    have s0 : w6.cell? ⟨W.heap.size + 1, 0, none⟩ = some (.slice A s.cells.length c) := cell_of_blk hSq rfl
    have s1 : w6.cell? ⟨W.heap.size + 1, 1, none⟩ = some (.slice B s.tin.length d) := cell_of_blk hSq rfl
    have s2 : w6.cell? ⟨W.heap.size + 1, 2, none⟩ = some (.slice D s.tout.length e) := cell_of_blk hSq rfl
    clear hPq hSq
    go_wp2_with fail
    refine HFT.out.mono ?_
    rintro e7 w7 ⟨rfl, b7⟩
    have b27 := bl_tt b26 b7
    clear HFT p0 p1 p2 p3 p4 p5 s0 s1 s2
    cases fb
    ·have hRF := resUnfit (F := F) (g := 5000000) (back := false) hvb hnn hfb
     have hRB := resUnfit (F := F) (g := 5000000) (back := true) hvb hnn hfb
     go_upto_region 5 with fail
     have hPq := blk_bl HK0.out b27
     have hSq := blk_bl HK1.out b27
     have p0 : w7.cell? ⟨W.heap.size, 0, none⟩ = some (.slice A1 p.vs.length c1) := cell_of_blk hPq rfl
     have p1 : w7.cell? ⟨W.heap.size, 1, none⟩ = some (.slice A2 p.prs.length c2) := cell_of_blk hPq rfl
     have p2 : w7.cell? ⟨W.heap.size, 2, none⟩ = some (.int .u8 p.m.k) := cell_of_blk hPq rfl
     have p3 : w7.cell? ⟨W.heap.size, 3, none⟩ = some (.int .i64 p.m.n) := cell_of_blk hPq rfl
     have p4 : w7.cell? ⟨W.heap.size, 4, none⟩ = some (.string p.m.s) := cell_of_blk hPq rfl
     have p5 : w7.cell? ⟨W.heap.size, 5, none⟩ = some (.slice A3 p.m.ks.length c3) := cell_of_blk hPq rfl
     have s0 : w7.cell? ⟨W.heap.size + 1, 0, none⟩ = some (.slice A s.cells.length c) := cell_of_blk hSq rfl
     have s1 : w7.cell? ⟨W.heap.size + 1, 1, none⟩ = some (.slice B s.tin.length d) := cell_of_blk hSq rfl
     have s2 : w7.cell? ⟨W.heap.size + 1, 2, none⟩ = some (.slice D s.tout.length e) := cell_of_blk hSq rfl
     clear hPq hSq
     have hcon := Forward_any p s F 5000000 _ _ _ (HPV.out.later (bl_tt HB2.out b27)) (HSV.out.later (bl_tt HB2.out b27)) HCL.out hF hF6 hFG
     rw [hRF] at hcon
     have HCON := Lib.hid hcon
     clear hcon
     go_wp2_with fail
     refine HCON.out.mono ?_
     rintro e5 w5 ⟨v1, v2, v3, rfl, ho5, hbQ5, hl5⟩
     obtain ⟨A5, c5, B5, d5, D5, g5, hv⟩ := ho5.slices
     injection hv with hv
     simp only [Array.mk.injEq, List.cons.injEq, and_true] at hv
     obtain ⟨rfl, rfl, rfl⟩ := hv
     have HO5 := Lib.hid ho5
     have HL5 := Lib.hid hl5
     have hq5 := bl_tt b27 hbQ5
     clear p0 p1 p2 p3 p4 p5 s0 s1 s2 ho5 hl5 HCON
     (try dsimp only at HO5 HL5 ⊢)
     go_upto_region 6 with fail
     have ka := heap_alloc_new w5 (.cells #[.slice A5 s.cells.length c5, .slice B5 s.tin.length d5, .slice D5 s.tout.length g5, .int .i64 (0 : Int), .int .i64 20] 37)
     have hba := bl_al (Below.refl w5.heap.size w5) (.cells #[.slice A5 s.cells.length c5, .slice B5 s.tin.length d5, .slice D5 s.tout.length g5, .int .i64 (0 : Int), .int .i64 20] 37)
     obtain ⟨w6, hqx⟩ : ∃ x, w5.alloc (.cells #[.slice A5 s.cells.length c5, .slice B5 s.tin.length d5, .slice D5 s.tout.length g5, .int .i64 (0 : Int), .int .i64 20] 37) = x := ⟨_, rfl⟩
     obtain ⟨rb5, hqy⟩ : ∃ x, w5.heap.size = x := ⟨_, rfl⟩
     rw [hqx] at ka hba
     rw [hqy] at ka
     rw [hqx, hqy]
     clear hqx hqy
     have hq6 := bl_tt hq5 hba
     have HK5 := Lib.hid ka
     clear ka hba
     go_upto_region 10 with fail
     have hPq := blk_bl HK0.out hq6
     have hSq := blk_bl HK1.out hq6
     have p0 : w6.cell? ⟨W.heap.size, 0, none⟩ = some (.slice A1 p.vs.length c1) := cell_of_blk hPq rfl
     have p1 : w6.cell? ⟨W.heap.size, 1, none⟩ = some (.slice A2 p.prs.length c2) := cell_of_blk hPq rfl
     have p2 : w6.cell? ⟨W.heap.size, 2, none⟩ = some (.int .u8 p.m.k) := cell_of_blk hPq rfl
     have p3 : w6.cell? ⟨W.heap.size, 3, none⟩ = some (.int .i64 p.m.n) := cell_of_blk hPq rfl
     have p4 : w6.cell? ⟨W.heap.size, 4, none⟩ = some (.string p.m.s) := cell_of_blk hPq rfl
     have p5 : w6.cell? ⟨W.heap.size, 5, none⟩ = some (.slice A3 p.m.ks.length c3) := cell_of_blk hPq rfl
     have s0 : w6.cell? ⟨W.heap.size + 1, 0, none⟩ = some (.slice A s.cells.length c) := cell_of_blk hSq rfl
     have s1 : w6.cell? ⟨W.heap.size + 1, 1, none⟩ = some (.slice B s.tin.length d) := cell_of_blk hSq rfl
     have s2 : w6.cell? ⟨W.heap.size + 1, 2, none⟩ = some (.slice D s.tout.length e) := cell_of_blk hSq rfl
     clear hPq hSq
     have hcon := Backward_any p s F 5000000 _ _ _ (HPV.out.later (bl_tt HB2.out hq6)) (HSV.out.later (bl_tt HB2.out hq6)) HCL.out hF hF6 hFG
     rw [hRB] at hcon
     have HCON := Lib.hid hcon
     clear hcon
     go_wp2_with fail
     refine HCON.out.mono ?_
     rintro e7 w7 ⟨v1, v2, v3, rfl, ho7, hbQ7, hl7⟩
     obtain ⟨A7, c7, B7, d7, D7, g7, hv⟩ := ho7.slices
     injection hv with hv
     simp only [Array.mk.injEq, List.cons.injEq, and_true] at hv
     obtain ⟨rfl, rfl, rfl⟩ := hv
     have HO7 := Lib.hid ho7
     have HL7 := Lib.hid hl7
     have hq7 := bl_tt hq6 hbQ7
     clear p0 p1 p2 p3 p4 p5 s0 s1 s2 ho7 hl7 HCON
     (try dsimp only at HO7 HL7 ⊢)
     go_upto_region 11 with fail
     have ka := heap_alloc_new w7 (.cells #[.slice A7 s.cells.length c7, .slice B7 s.tin.length d7, .slice D7 s.tout.length g7, .int .i64 (0 : Int), .int .i64 20] 37)
     have hba := bl_al (Below.refl w7.heap.size w7) (.cells #[.slice A7 s.cells.length c7, .slice B7 s.tin.length d7, .slice D7 s.tout.length g7, .int .i64 (0 : Int), .int .i64 20] 37)
     obtain ⟨w8, hqx⟩ : ∃ x, w7.alloc (.cells #[.slice A7 s.cells.length c7, .slice B7 s.tin.length d7, .slice D7 s.tout.length g7, .int .i64 (0 : Int), .int .i64 20] 37) = x := ⟨_, rfl⟩
     obtain ⟨rb7, hqy⟩ : ∃ x, w7.heap.size = x := ⟨_, rfl⟩
     rw [hqx] at ka hba
     rw [hqy] at ka
     rw [hqx, hqy]
     clear hqx hqy
     have x4 : w8.cell? ⟨rb5, 4, none⟩ = some (.int .i64 20) := cell_of_blk (blk_bl HK5.out (bl_tt hbQ7 hba)) rfl
     have y4 : w8.cell? ⟨rb7, 4, none⟩ = some (.int .i64 20) := cell_of_blk ka rfl
     have hq8 := bl_tt hq7 hba
     clear ka hba
     go_wp2_with fail
     go_ret
     exact ⟨rfl, bl_tt HB2.out hq8⟩
    ·obtain ⟨R0, hR0⟩ : ∃ R, resO p s F 5000000 false = R := ⟨_, rfl⟩
     go_upto_region 5 with fail
     have hPq := blk_bl HK0.out b27
     have hSq := blk_bl HK1.out b27
     have p0 : w7.cell? ⟨W.heap.size, 0, none⟩ = some (.slice A1 p.vs.length c1) := cell_of_blk hPq rfl
     have p1 : w7.cell? ⟨W.heap.size, 1, none⟩ = some (.slice A2 p.prs.length c2) := cell_of_blk hPq rfl
     have p2 : w7.cell? ⟨W.heap.size, 2, none⟩ = some (.int .u8 p.m.k) := cell_of_blk hPq rfl
     have p3 : w7.cell? ⟨W.heap.size, 3, none⟩ = some (.int .i64 p.m.n) := cell_of_blk hPq rfl
     have p4 : w7.cell? ⟨W.heap.size, 4, none⟩ = some (.string p.m.s) := cell_of_blk hPq rfl
     have p5 : w7.cell? ⟨W.heap.size, 5, none⟩ = some (.slice A3 p.m.ks.length c3) := cell_of_blk hPq rfl
     have s0 : w7.cell? ⟨W.heap.size + 1, 0, none⟩ = some (.slice A s.cells.length c) := cell_of_blk hSq rfl
     have s1 : w7.cell? ⟨W.heap.size + 1, 1, none⟩ = some (.slice B s.tin.length d) := cell_of_blk hSq rfl
     have s2 : w7.cell? ⟨W.heap.size + 1, 2, none⟩ = some (.slice D s.tout.length e) := cell_of_blk hSq rfl
     clear hPq hSq
     have hcon := Forward_any p s F 5000000 _ _ _ (HPV.out.later (bl_tt HB2.out b27)) (HSV.out.later (bl_tt HB2.out b27)) HCL.out hF hF6 hFG
     rw [hR0] at hcon
     have HCON := Lib.hid hcon
     clear hcon
     go_wp2_with fail
     refine HCON.out.mono ?_
     rintro e8 w8 ⟨v1, v2, v3, rfl, ho8, hbQ8, hl8⟩
     obtain ⟨A8, c8, B8, d8, D8, g8, hv⟩ := ho8.slices
     injection hv with hv
     simp only [Array.mk.injEq, List.cons.injEq, and_true] at hv
     obtain ⟨rfl, rfl, rfl⟩ := hv
     have HO8 := Lib.hid ho8
     have HL8 := Lib.hid hl8
     have hq8 := bl_tt b27 hbQ8
     clear p0 p1 p2 p3 p4 p5 s0 s1 s2 ho8 hl8 HCON
     obtain ⟨S0, n0, e0, l0⟩ := R0
     dsimp only at HO8 HL8 ⊢
     go_upto_region 6 with fail
     have ka := heap_alloc_new w8 (.cells #[.slice A8 S0.cells.length c8, .slice B8 S0.tin.length d8, .slice D8 S0.tout.length g8, .int .i64 (n0 : Int), .int .i64 e0] 37)
     have hba := bl_al (Below.refl w8.heap.size w8) (.cells #[.slice A8 S0.cells.length c8, .slice B8 S0.tin.length d8, .slice D8 S0.tout.length g8, .int .i64 (n0 : Int), .int .i64 e0] 37)
     obtain ⟨w9, hqx⟩ : ∃ x, w8.alloc (.cells #[.slice A8 S0.cells.length c8, .slice B8 S0.tin.length d8, .slice D8 S0.tout.length g8, .int .i64 (n0 : Int), .int .i64 e0] 37) = x := ⟨_, rfl⟩
     obtain ⟨rb8, hqy⟩ : ∃ x, w8.heap.size = x := ⟨_, rfl⟩
     rw [hqx] at ka hba
     rw [hqy] at ka
     rw [hqx, hqy]
     clear hqx hqy
     have hq9 := bl_tt hq8 hba
     clear ka hba hR0
     have hkp := blk_bl HK0.out hq9
     have HKS := Lib.hid (blk_bl HK1.out hq9)
     have p5 : w9.cell? ⟨W.heap.size, 5, none⟩ = some (.slice A3 p.m.ks.length c3) := cell_of_blk hkp rfl
     have p5f : w9.frozen? ⟨W.heap.size, 5, none⟩ = false := frozen_of_blk hkp
     have HKP := Lib.hid hkp
     clear hkp
     go_upto_region 13 with fail
     obtain ⟨w10, hw10⟩ : ∃ x, w9.setCell ⟨W.heap.size, 5, none⟩ (.slice none 0 0) = x := ⟨_, rfl⟩
     rw [hw10]
     have hkp : w10.heap[W.heap.size]? = some (.cells #[.slice A1 p.vs.length c1, .slice A2 p.prs.length c2, .int .u8 p.m.k, .int .i64 p.m.n, .string p.m.s, .slice none 0 0] 28 (0, 0)) := by
      rw [← hw10, heap_setCell_same _ W.heap.size 5 _ _ _ HKP.out]
      simp
     have hch := (Chg.refl (fun b => b = W.heap.size) w9).setCell (p := ⟨W.heap.size, 5, none⟩) (.inl rfl) (.slice none 0 0)
     rw [hw10] at hch
     have hks := hch.keep HKS.out (by show ¬ (W.heap.size + 1 = W.heap.size); omega)
     have hW9 := bl_tt HB2.out hq9
     have hW10 : Below W.heap.size W w10 := hW9.trans (hch.below hW9.size fun b hb => by omega)
     have HKP2 := Lib.hid hkp
     have HKS2 := Lib.hid hks
     have HW10 := Lib.hid hW10
     have HP10 := Lib.hid (PV_N (HPV.out.later hW10))
     have HS10 := Lib.hid (HSV.out.later hW10)
     clear p5 p5f hw10 hkp hch hks hW9 hW10 HKP HKS
     have HSS := Lib.hid (show ∀ w', Below w10.heap.size w10 w' → (fun w' : World => w'.cell? ⟨W.heap.size, 0, none⟩ = some (.slice A1 p.vs.length c1) ∧ w'.cell? ⟨W.heap.size, 1, none⟩ = some (.slice A2 p.prs.length c2) ∧ w'.cell? ⟨W.heap.size, 2, none⟩ = some (.int .u8 p.m.k) ∧ w'.cell? ⟨W.heap.size, 3, none⟩ = some (.int .i64 p.m.n) ∧ w'.cell? ⟨W.heap.size, 4, none⟩ = some (.string p.m.s) ∧ w'.cell? ⟨W.heap.size, 5, none⟩ = some (.slice none 0 0) ∧ w'.cell? ⟨W.heap.size + 1, 0, none⟩ = some (.slice A s.cells.length c) ∧ w'.cell? ⟨W.heap.size + 1, 1, none⟩ = some (.slice B s.tin.length d) ∧ w'.cell? ⟨W.heap.size + 1, 2, none⟩ = some (.slice D s.tout.length e)) w' from fun w' hb => ⟨cell_bl hb (cell_of_blk HKP2.out rfl), cell_bl hb (cell_of_blk HKP2.out rfl), cell_bl hb (cell_of_blk HKP2.out rfl), cell_bl hb (cell_of_blk HKP2.out rfl), cell_bl hb (cell_of_blk HKP2.out rfl), cell_bl hb (cell_of_blk HKP2.out rfl), cell_bl hb (cell_of_blk HKS2.out rfl), cell_bl hb (cell_of_blk HKS2.out rfl), cell_bl hb (cell_of_blk HKS2.out rfl)⟩)
     obtain ⟨S1, hS1⟩ : ∃ S1 : World → Prop, S1 = fun w' : World => w'.cell? ⟨W.heap.size, 0, none⟩ = some (.slice A1 p.vs.length c1) ∧ w'.cell? ⟨W.heap.size, 1, none⟩ = some (.slice A2 p.prs.length c2) ∧ w'.cell? ⟨W.heap.size, 2, none⟩ = some (.int .u8 p.m.k) ∧ w'.cell? ⟨W.heap.size, 3, none⟩ = some (.int .i64 p.m.n) ∧ w'.cell? ⟨W.heap.size, 4, none⟩ = some (.string p.m.s) ∧ w'.cell? ⟨W.heap.size, 5, none⟩ = some (.slice none 0 0) ∧ w'.cell? ⟨W.heap.size + 1, 0, none⟩ = some (.slice A s.cells.length c) ∧ w'.cell? ⟨W.heap.size + 1, 1, none⟩ = some (.slice B s.tin.length d) ∧ w'.cell? ⟨W.heap.size + 1, 2, none⟩ = some (.slice D s.tout.length e) := ⟨_, rfl⟩
     rw [← hS1] at HSS
     have hSS : S1 w10.drew ∧ (fun _ : World => True) w10.drew := ⟨HSS.out _ (Below.refl _ _).drew, trivial⟩
     refine wp_region_noPanic ?_
     refine wp_region_G S1 (fun _ : World => True) 10 (by kernel_rfl) ?_
     subst hS1
     refine wpG_take1 (i := 0) (v := ?_) rfl (by kernel_rfl) (by kernel_rfl) (by kernel_rfl) (by decide) (fun _ _ _ h => h) (Or.inl ⟨by rfl, ?_⟩) hSS ?_
     rotate_left 1
     ·(intro w hSw; (try dsimp only at hSw); (try simp only [zA, zC]); go_simp; (try with_reducible rfl))
     (try simp only [Act.put, zA, zC, zD, zE, zF])
     refine wpG_take1 (i := 1) (v := ?_) rfl (by kernel_rfl) (by kernel_rfl) (by kernel_rfl) (by decide) (fun _ _ _ h => h) (Or.inl ⟨by rfl, ?_⟩) hSS ?_
     rotate_left 1
     ·(intro w hSw; (try dsimp only at hSw); (try simp only [zA, zB, zC]); go_simp; (try with_reducible rfl))
     (try simp only [Act.put, zA, zB, zC, zD, zE, zF])
     refine wpG_take1 (i := 2) (v := ?_) rfl (by kernel_rfl) (by kernel_rfl) (by kernel_rfl) (by decide) (fun _ _ _ h => h) (Or.inl ⟨by rfl, ?_⟩) hSS ?_
     rotate_left 1
     ·(intro w hSw; (try dsimp only at hSw); (try simp only [zA, zB, zC]); go_simp; (try with_reducible rfl))
     (try simp only [Act.put, zA, zB, zC, zD, zE, zF])
     refine wpG_take1 (i := 4) (v := ?_) rfl (by kernel_rfl) (by kernel_rfl) (by kernel_rfl) (by decide) (fun _ _ _ h => h) (Or.inl ⟨by rfl, ?_⟩) hSS ?_
     rotate_left 1
     ·(intro w hSw; (try dsimp only at hSw); (try simp only [zA, zB, zC]); go_simp; (try with_reducible rfl))
     (try simp only [Act.put, zA, zB, zC, zD, zE, zF])
     refine wpG_take1 (i := 5) (v := ?_) rfl (by kernel_rfl) (by kernel_rfl) (by kernel_rfl) (by decide) (fun _ _ _ h => h) (Or.inl ⟨by rfl, ?_⟩) hSS ?_
     rotate_left 1
     ·(intro w hSw; (try dsimp only at hSw); (try simp only [zA, zB, zC]); go_simp; (try with_reducible rfl))
     (try simp only [Act.put, zA, zB, zC, zD, zE, zF])
     refine wpG_take1 (i := 6) (v := ?_) rfl (by kernel_rfl) (by kernel_rfl) (by kernel_rfl) (by decide) (fun _ _ _ h => h) (Or.inl ⟨by rfl, ?_⟩) hSS ?_
     rotate_left 1
     ·(intro w hSw; (try dsimp only at hSw); (try simp only [zA, zB, zC]); go_simp; (try with_reducible rfl))
     (try simp only [Act.put, zA, zB, zC, zD, zE, zF])
     have hI : (fun w => Below w10.heap.size w10 w) w10.drew := (Below.refl _ _).drew
     clear hSS
     refine wpG_alt2 (i := 3) (j1 := 8) (j2 := 9) (some 65) (some 12) (some 13) 3 (fun li la lb => #[true, true, true, li, true, true, true, false, la, lb, false, false]) _ (fun w => Below w10.heap.size w10 w) (J2 (.cells #[.slice none 0 0, .slice none 0 0, .slice none 0 0, .int .i64 0, .int .i64 0] 37 (0, 0)) w10.heap.size) (NoR w10.heap.size s) rfl rfl rfl rfl rfl rfl (by kernel_rfl) (by kernel_rfl) (by kernel_rfl) (by kernel_rfl) (fun la lb => by cases la <;> cases lb <;> rfl) (fun lb => by cases lb <;> rfl) (fun la => by cases la <;> rfl) (fun w h => ⟨HSS.out _ h, trivial⟩) (fun w w' h hb => ?_) (fun la lb u v w w' h hb => h.later hb) (fun u v K w h hK0 => ?_) (fun lb u v K w h hj hK0 => ?_) (fun la u v K w h hj hK0 => ?_) (fun u v x => ?_) (fun u v x => ?_) (fun la lb u v x wc h hF hj => ?_) false false undef undef w10.drew hI ⟨nofun, nofun, nofun⟩ ?_
     ·have hb0 := h
      exact bl_tt hb0 hb
     ·have hb0 := h
      have hK := Lib.hid hK0
      clear hK0
      have hcon := Forward_any (pgN p) s F 5000000 _ _ w (HP10.out.later hb0) (HS10.out.later hb0) HCL.out hF hF6 hFG
      rw [resN hvb hnn hfb] at hcon
      refine step_callL (by rfl) (.func 15) [.tmp 62, .tmp 63, .tmp 64] _ (by rfl) 15 _ fnFwdL (by rfl) [.agg #[.slice A1 p.vs.length c1, .slice A2 p.prs.length c2, .int .u8 p.m.k, .int .i64 p.m.n, .string p.m.s, .slice none 0 0], .agg #[.slice A s.cells.length c, .slice B s.tin.length d, .slice D s.tout.length e], .int .i64 F] (by rfl) (fun x w' => NoR w10.heap.size s x w' ∧ Below w.heap.size w w') (hcon.mono fun e w' h => FwP.nothing hb0.size h) ?_
      rintro x w' ⟨hx, hb⟩
      exact hK.out _ _ hb hx
     ·have hb0 := h
      have hK := Lib.hid hK0
      clear hK0
      (try simp only [Act.put, zA, zB, zC, zD, zE, zF])
      (try simp only [zA, zB, zC])
      go_simp
      exact hK.out _ _ (bl_al (Below.refl _ _) _) (hj.one hb0.size)
     ·have hb0 := h
      have hK := Lib.hid hK0
      clear hK0
      (try simp only [Act.put, zA, zB, zC, zD, zE, zF])
      (try simp only [zA, zB, zC])
      go_simp
      exact hK.out _ _ (bl_al (Below.refl _ _) _) (hj.two hb0.size)
     ·simp only [Act.put, zD, zE, zF]
     ·simp only [Act.put, zD, zE, zF]
     rotate_left 1
     ·simp only [Act.put, zD, zE, zF]
     (try simp only [Act.put, zA, zB, zC, zD, zE, zF])
     obtain ⟨fA, fc, fB, fd, fD, fg, rfl, hsa⟩ := hF
     clear hI
     have hI : (fun w => Below w10.heap.size w10 w ∧ OwnS w w10.heap.size s (.agg #[.slice fA s.cells.length fc, .slice fB s.tin.length fd, .slice fD s.tout.length fg])) wc := ⟨h, hsa⟩
     clear hsa h
     refine wpG_alt2 (i := 7) (j1 := 8) (j2 := 9) (some 69) (some 12) (some 13) 2 (fun li la lb => #[true, true, true, true, true, true, true, li, la, lb, false, false]) _ (fun w => Below w10.heap.size w10 w ∧ OwnS w w10.heap.size s (.agg #[.slice fA s.cells.length fc, .slice fB s.tin.length fd, .slice fD s.tout.length fg])) (J2 (.cells #[.slice none 0 0, .slice none 0 0, .slice none 0 0, .int .i64 0, .int .i64 0] 37 (0, 0)) w10.heap.size) (NoR w10.heap.size s) rfl rfl rfl rfl rfl rfl (by kernel_rfl) (by kernel_rfl) (by kernel_rfl) (by kernel_rfl) (fun la lb => by cases la <;> cases lb <;> rfl) (fun lb => by cases lb <;> rfl) (fun la => by cases la <;> rfl) (fun w h => ⟨HSS.out _ h.1, trivial⟩) (fun w w' h hb => ⟨bl_tt h.1 hb, h.2.later hb⟩) (fun la lb u v w w' h hb => h.later hb) (fun u v K w h hK0 => ?_) (fun lb u v K w h hj hK0 => ?_) (fun la u v K w h hj hK0 => ?_) (fun u v x => ?_) (fun u v x => ?_) (fun la lb u v x wc h hF hj => ?_) la lb u v wc hI hj ?_
     ·have hb0 := h.1
      have hK := Lib.hid hK0
      clear hK0
      have hcon := Backward_any (pgN p) s F 5000000 _ _ w (HP10.out.later hb0) (HS10.out.later hb0) HCL.out hF hF6 hFG
      rw [resN hvb hnn hfb] at hcon
      refine step_callL (by rfl) (.func 18) [.tmp 66, .tmp 67, .tmp 68] _ (by rfl) 18 _ fnBwdL (by rfl) [.agg #[.slice A1 p.vs.length c1, .slice A2 p.prs.length c2, .int .u8 p.m.k, .int .i64 p.m.n, .string p.m.s, .slice none 0 0], .agg #[.slice A s.cells.length c, .slice B s.tin.length d, .slice D s.tout.length e], .int .i64 F] (by rfl) (fun x w' => NoR w10.heap.size s x w' ∧ Below w.heap.size w w') (hcon.mono fun e w' h => FwP.nothing hb0.size h) ?_
      rintro x w' ⟨hx, hb⟩
      exact hK.out _ _ hb hx
     ·have hb0 := h.1
      have hK := Lib.hid hK0
      clear hK0
      (try simp only [Act.put, zA, zB, zC, zD, zE, zF])
      (try simp only [zA, zB, zC])
      go_simp
      exact hK.out _ _ (bl_al (Below.refl _ _) _) (hj.one hb0.size)
     ·have hb0 := h.1
      have hK := Lib.hid hK0
      clear hK0
      (try simp only [Act.put, zA, zB, zC, zD, zE, zF])
      (try simp only [zA, zB, zC])
      go_simp
      exact hK.out _ _ (bl_al (Below.refl _ _) _) (hj.two hb0.size)
     ·simp only [Act.put, zD, zE, zF]
     ·simp only [Act.put, zD, zE, zF]
     rotate_left 1
     ·simp only [Act.put, zD, zE, zF]
     (try simp only [Act.put, zA, zB, zC, zD, zE, zF])
     obtain ⟨gA, gc, gB, gd, gD, gg, rfl, hsb⟩ := hF
     clear hI
     have hI : (fun w => Below w10.heap.size w10 w ∧ OwnS w w10.heap.size s (.agg #[.slice fA s.cells.length fc, .slice fB s.tin.length fd, .slice fD s.tout.length fg]) ∧ OwnS w w10.heap.size s (.agg #[.slice gA s.cells.length gc, .slice gB s.tin.length gd, .slice gD s.tout.length gg])) wc := ⟨h.1, h.2, hsb⟩
     clear hsb h
     refine wpG_free2 (j1 := 8) (j2 := 9) (some 12) (some 13) 2 (fun la lb => #[true, true, true, true, true, true, true, true, la, lb, false, false]) _ (fun w => Below w10.heap.size w10 w ∧ OwnS w w10.heap.size s (.agg #[.slice fA s.cells.length fc, .slice fB s.tin.length fd, .slice fD s.tout.length fg]) ∧ OwnS w w10.heap.size s (.agg #[.slice gA s.cells.length gc, .slice gB s.tin.length gd, .slice gD s.tout.length gg])) (J2 (.cells #[.slice none 0 0, .slice none 0 0, .slice none 0 0, .int .i64 0, .int .i64 0] 37 (0, 0)) w10.heap.size) rfl rfl rfl rfl (by kernel_rfl) (by kernel_rfl) (by kernel_rfl) (fun lb => by cases lb <;> rfl) (fun la => by cases la <;> rfl) (fun w h => ⟨HSS.out _ h.1, trivial⟩) (fun w w' h hb => ⟨bl_tt h.1 hb, h.2.1.later hb, h.2.2.later hb⟩) (fun lb u v K w h hj hK0 => ?_) (fun la u v K w h hj hK0 => ?_) (fun u v x => ?_) (fun u v x => ?_) (fun u v wd h hj => ?_) la lb u v wc hI hj ?_
     ·have hb0 := h.1
      have hK := Lib.hid hK0
      clear hK0
      (try simp only [Act.put, zA, zB, zC, zD, zE, zF])
      (try simp only [zA, zB, zC])
      go_simp
      exact hK.out _ _ (bl_al (Below.refl _ _) _) (hj.one hb0.size)
     ·have hb0 := h.1
      have hK := Lib.hid hK0
      clear hK0
      (try simp only [Act.put, zA, zB, zC, zD, zE, zF])
      (try simp only [zA, zB, zC])
      go_simp
      exact hK.out _ _ (bl_al (Below.refl _ _) _) (hj.two hb0.size)
     ·simp only [Act.put, zD, zE, zF]
     ·simp only [Act.put, zD, zE, zF]
     rotate_left 1
     ·simp only [Act.put, zD, zE, zF]
     (try simp only [Act.put, zA, zB, zC, zD, zE, zF])
     obtain ⟨ba, bb, rfl, rfl, hla, hlb, hne, hza, hzb⟩ := hj.boxes
     obtain ⟨hb0, hsa, hsb⟩ := h
     clear hI hj
     have x0 : wd.cell? ⟨ba, 0, none⟩ = some (.slice none 0 0) := cell_of_blk hza rfl
     have x1 : wd.cell? ⟨ba, 1, none⟩ = some (.slice none 0 0) := cell_of_blk hza rfl
     have x2 : wd.cell? ⟨ba, 2, none⟩ = some (.slice none 0 0) := cell_of_blk hza rfl
     have x3 : wd.cell? ⟨ba, 3, none⟩ = some (.int .i64 0) := cell_of_blk hza rfl
     have x4 : wd.cell? ⟨ba, 4, none⟩ = some (.int .i64 0) := cell_of_blk hza rfl
     have xf : ∀ o, wd.frozen? ⟨ba, o, none⟩ = false := fun _ => frozen_of_blk hza
     have HZA := Lib.hid hza
     have HZB := Lib.hid hzb
     have HB0 := Lib.hid hb0
     have HSA := Lib.hid hsa
     have HSB := Lib.hid hsb
     clear hza hzb hb0 hsa hsb
     refine wpG_past (i := 10) (by kernel_rfl) rfl (by kernel_rfl) (fun K hK => ?_)
     (try simp only [zA, zB, zC])
     go_simp
     obtain ⟨hh, hch⟩ := set5 (u0 := .slice fA s.cells.length fc) (u1 := .slice fB s.tin.length fd) (u2 := .slice fD s.tout.length fg) (u3 := .int .i64 0) (u4 := .int .i64 0) HZA.out
     have hb1 := HB0.out.trans (hch.below HB0.out.size fun b e => by omega)
     have hsa := HSA.out.chgT hch HZA.out
     have hsb := HSB.out.chgT hch HZA.out
     have hzb := hch.keep HZB.out (by show ¬ (bb = ba); omega)
     obtain ⟨we, hwe⟩ : ∃ x, (((((wd.setCell ⟨ba, 0, none⟩ (.slice fA s.cells.length fc)).setCell ⟨ba, 1, none⟩ (.slice fB s.tin.length fd)).setCell ⟨ba, 2, none⟩ (.slice fD s.tout.length fg)).setCell ⟨ba, 3, none⟩ (.int .i64 0)).setCell ⟨ba, 4, none⟩ (.int .i64 0)) = x := ⟨_, rfl⟩
     rw [hwe] at hh hch hb1 hsa hsb hzb ⊢
     refine hK.out _ _ (HSS.out _ hb1) ?_
     clear hK K x0 x1 x2 x3 x4 xf hwe hch HZA HZB HB0 HSA HSB
     (try simp only [Act.put, zA, zB, zC, zD, zE, zF])
     have x0 : we.cell? ⟨bb, 0, none⟩ = some (.slice none 0 0) := cell_of_blk hzb rfl
     have x1 : we.cell? ⟨bb, 1, none⟩ = some (.slice none 0 0) := cell_of_blk hzb rfl
     have x2 : we.cell? ⟨bb, 2, none⟩ = some (.slice none 0 0) := cell_of_blk hzb rfl
     have x3 : we.cell? ⟨bb, 3, none⟩ = some (.int .i64 0) := cell_of_blk hzb rfl
     have x4 : we.cell? ⟨bb, 4, none⟩ = some (.int .i64 0) := cell_of_blk hzb rfl
     have xf : ∀ o, we.frozen? ⟨bb, o, none⟩ = false := fun _ => frozen_of_blk hzb
     have HZA := Lib.hid hh
     have HZB := Lib.hid hzb
     have HB0 := Lib.hid hb1
     have HSA := Lib.hid hsa
     have HSB := Lib.hid hsb
     clear hh hzb hb1 hsa hsb
     refine wpG_past (i := 11) (by kernel_rfl) rfl (by kernel_rfl) (fun K hK => ?_)
     (try simp only [zA, zB, zC])
     go_simp
     obtain ⟨hh, hch⟩ := set5 (u0 := .slice gA s.cells.length gc) (u1 := .slice gB s.tin.length gd) (u2 := .slice gD s.tout.length gg) (u3 := .int .i64 0) (u4 := .int .i64 0) HZB.out
     have hb1 := HB0.out.trans (hch.below HB0.out.size fun b e => by omega)
     have hsa := HSA.out.chgT hch HZB.out
     have hsb := HSB.out.chgT hch HZB.out
     have hza := hch.keep HZA.out (by show ¬ (ba = bb); omega)
     obtain ⟨wf, hwf⟩ : ∃ x, (((((we.setCell ⟨bb, 0, none⟩ (.slice gA s.cells.length gc)).setCell ⟨bb, 1, none⟩ (.slice gB s.tin.length gd)).setCell ⟨bb, 2, none⟩ (.slice gD s.tout.length gg)).setCell ⟨bb, 3, none⟩ (.int .i64 0)).setCell ⟨bb, 4, none⟩ (.int .i64 0)) = x := ⟨_, rfl⟩
     rw [hwf] at hh hch hb1 hsa hsb hza ⊢
     refine hK.out _ _ (HSS.out _ hb1) ?_
     clear hK K x0 x1 x2 x3 x4 xf hwf hch HZA HZB HB0 HSA HSB
     (try simp only [Act.put, zA, zB, zC, zD, zE, zF])
     refine wpG_done (by kernel_rfl) ?_
     refine NoPanic.normal ?_
     have x0 : wf.cell? ⟨ba, 0, none⟩ = some (.slice fA s.cells.length fc) := cell_of_blk hza rfl
     have x1 : wf.cell? ⟨ba, 1, none⟩ = some (.slice fB s.tin.length fd) := cell_of_blk hza rfl
     have x2 : wf.cell? ⟨ba, 2, none⟩ = some (.slice fD s.tout.length fg) := cell_of_blk hza rfl
     have x3 : wf.cell? ⟨ba, 3, none⟩ = some (.int .i64 0) := cell_of_blk hza rfl
     have x4 : wf.cell? ⟨ba, 4, none⟩ = some (.int .i64 0) := cell_of_blk hza rfl
     have HLI := Lib.hid HSM.out.sm.lim
     have HE1 := Lib.hid (StEqual_any s s _ _ wf (hsa.sv HLI.out) (HSV.out.later (HW10.out.trans (hb1.mono HW10.out.size))) HSM.out.sm HSM.out.sm)
     have hee : eqS s s = true := by simp [eqS]
     rw [hee] at HE1
     have hs10 := bl_tt (Below.refl w10.heap.size w10) hb1
     have s0 : wf.cell? ⟨W.heap.size + 1, 0, none⟩ = some (.slice A s.cells.length c) := cell_of_blk (blk_bl HKS2.out hb1) rfl
     have s1 : wf.cell? ⟨W.heap.size + 1, 1, none⟩ = some (.slice B s.tin.length d) := cell_of_blk (blk_bl HKS2.out hb1) rfl
     have s2 : wf.cell? ⟨W.heap.size + 1, 2, none⟩ = some (.slice D s.tout.length e) := cell_of_blk (blk_bl HKS2.out hb1) rfl
     have HB1 := Lib.hid hb1
     have HH := Lib.hid hh
     have HSB := Lib.hid hsb
     clear hb1 hh hsa hsb hza hs10 hee
     go_wp2_with fail
     refine HE1.out.mono ?_
     rintro e15 w15 ⟨rfl, b15⟩
     clear x0 x1 x2 x3 x4 s0 s1 s2 HE1
     have kh := blk_bl HH.out b15
     have hb15 := bl_tt HB1.out b15
     have x0 : w15.cell? ⟨bb, 0, none⟩ = some (.slice gA s.cells.length gc) := cell_of_blk kh rfl
     have x1 : w15.cell? ⟨bb, 1, none⟩ = some (.slice gB s.tin.length gd) := cell_of_blk kh rfl
     have x2 : w15.cell? ⟨bb, 2, none⟩ = some (.slice gD s.tout.length gg) := cell_of_blk kh rfl
     have x3 : w15.cell? ⟨bb, 3, none⟩ = some (.int .i64 0) := cell_of_blk kh rfl
     have x4 : w15.cell? ⟨bb, 4, none⟩ = some (.int .i64 0) := cell_of_blk kh rfl
     have s0 : w15.cell? ⟨W.heap.size + 1, 0, none⟩ = some (.slice A s.cells.length c) := cell_of_blk (blk_bl HKS2.out hb15) rfl
     have s1 : w15.cell? ⟨W.heap.size + 1, 1, none⟩ = some (.slice B s.tin.length d) := cell_of_blk (blk_bl HKS2.out hb15) rfl
     have s2 : w15.cell? ⟨W.heap.size + 1, 2, none⟩ = some (.slice D s.tout.length e) := cell_of_blk (blk_bl HKS2.out hb15) rfl
     have HE2 := Lib.hid (StEqual_any s s _ _ w15 ((HSB.out.later b15).sv HLI.out) (HSV.out.later (HW10.out.trans (hb15.mono HW10.out.size))) HSM.out.sm HSM.out.sm)
     have hee : eqS s s = true := by simp [eqS]
     rw [hee] at HE2
     have HB15 := Lib.hid hb15
     clear kh hb15 hee
     go_wp2_with fail
     refine HE2.out.mono ?_
     rintro e16 w16 ⟨rfl, b16⟩
     clear x0 x1 x2 x3 x4 s0 s1 s2 HE2
     go_wp2_with fail
     go_ret
     exact ⟨rfl, HW10.out.trans ((bl_tt HB15.out b16).mono HW10.out.size)⟩
   ·have hz1 : ¬ (n : Int) = 0 := by omega
    have hbad := Or.inr (a := validB p = false) (b := chkN p ≠ 0) (by omega)
    go_upto_region 4 with fail
    obtain ⟨fb, hfb⟩ : ∃ b, fitB p.vs s = b := ⟨_, rfl⟩
    have hft := Fits_P p s A1 A2 A3 c1 c2 c3 _ w6 (HPV.out.later (bl_tt HB2.out b26)) (HSV.out.later (bl_tt HB2.out b26))
    rw [hfb] at hft
    have HFT := Lib.hid hft
    clear hft
    have hPq := blk_bl HK0.out b26
    have hSq := blk_bl HK1.out b26
    have p0 : w6.cell? ⟨W.heap.size, 0, none⟩ = some (.slice A1 p.vs.length c1) := cell_of_blk hPq rfl
    have p1 : w6.cell? ⟨W.heap.size, 1, none⟩ = some (.slice A2 p.prs.length c2) := cell_of_blk hPq rfl
    have p2 : w6.cell? ⟨W.heap.size, 2, none⟩ = some (.int .u8 p.m.k) := cell_of_blk hPq rfl
    have p3 : w6.cell? ⟨W.heap.size, 3, none⟩ = some (.int .i64 p.m.n) := cell_of_blk hPq rfl
    have p4 : w6.cell? ⟨W.heap.size, 4, none⟩ = some (.string p.m.s) := cell_of_blk hPq rfl
    have p5 : w6.cell? ⟨W.heap.size, 5, none⟩ = some (.slice A3 p.m.ks.length c3) := cell_of_blk hPq rfl
    have s0 : w6.cell? ⟨W.heap.size + 1, 0, none⟩ = some (.slice A s.cells.length c) := cell_of_blk hSq rfl
    have s1 : w6.cell? ⟨W.heap.size + 1, 1, none⟩ = some (.slice B s.tin.length d) := cell_of_blk hSq rfl
    have s2 : w6.cell? ⟨W.heap.size + 1, 2, none⟩ = some (.slice D s.tout.length e) := cell_of_blk hSq rfl
    clear hPq hSq
    go_wp2_with fail
    refine HFT.out.mono ?_
    rintro e7 w7 ⟨rfl, b7⟩
    have b27 := bl_tt b26 b7
    clear HFT p0 p1 p2 p3 p4 p5 s0 s1 s2
    have hRF := resBad (s := s) (F := F) (g := 5000000) (back := false) hbad
    have hRB := resBad (s := s) (F := F) (g := 5000000) (back := true) hbad
    go_upto_region 5 with fail
    have hPq := blk_bl HK0.out b27
    have hSq := blk_bl HK1.out b27
    have p0 : w7.cell? ⟨W.heap.size, 0, none⟩ = some (.slice A1 p.vs.length c1) := cell_of_blk hPq rfl
    have p1 : w7.cell? ⟨W.heap.size, 1, none⟩ = some (.slice A2 p.prs.length c2) := cell_of_blk hPq rfl
    have p2 : w7.cell? ⟨W.heap.size, 2, none⟩ = some (.int .u8 p.m.k) := cell_of_blk hPq rfl
    have p3 : w7.cell? ⟨W.heap.size, 3, none⟩ = some (.int .i64 p.m.n) := cell_of_blk hPq rfl
    have p4 : w7.cell? ⟨W.heap.size, 4, none⟩ = some (.string p.m.s) := cell_of_blk hPq rfl
    have p5 : w7.cell? ⟨W.heap.size, 5, none⟩ = some (.slice A3 p.m.ks.length c3) := cell_of_blk hPq rfl
    have s0 : w7.cell? ⟨W.heap.size + 1, 0, none⟩ = some (.slice A s.cells.length c) := cell_of_blk hSq rfl
    have s1 : w7.cell? ⟨W.heap.size + 1, 1, none⟩ = some (.slice B s.tin.length d) := cell_of_blk hSq rfl
    have s2 : w7.cell? ⟨W.heap.size + 1, 2, none⟩ = some (.slice D s.tout.length e) := cell_of_blk hSq rfl
    clear hPq hSq
    have hcon := Forward_any p s F 5000000 _ _ _ (HPV.out.later (bl_tt HB2.out b27)) (HSV.out.later (bl_tt HB2.out b27)) HCL.out hF hF6 hFG
    rw [hRF] at hcon
    have HCON := Lib.hid hcon
    clear hcon
    go_wp2_with fail
    refine HCON.out.mono ?_
    rintro e5 w5 ⟨v1, v2, v3, rfl, ho5, hbQ5, hl5⟩
    obtain ⟨A5, c5, B5, d5, D5, g5, hv⟩ := ho5.slices
    injection hv with hv
    simp only [Array.mk.injEq, List.cons.injEq, and_true] at hv
    obtain ⟨rfl, rfl, rfl⟩ := hv
    have HO5 := Lib.hid ho5
    have HL5 := Lib.hid hl5
    have hq5 := bl_tt b27 hbQ5
    clear p0 p1 p2 p3 p4 p5 s0 s1 s2 ho5 hl5 HCON
    (try dsimp only at HO5 HL5 ⊢)
    go_upto_region 6 with fail
    have ka := heap_alloc_new w5 (.cells #[.slice A5 s.cells.length c5, .slice B5 s.tin.length d5, .slice D5 s.tout.length g5, .int .i64 (0 : Int), .int .i64 3] 37)
    have hba := bl_al (Below.refl w5.heap.size w5) (.cells #[.slice A5 s.cells.length c5, .slice B5 s.tin.length d5, .slice D5 s.tout.length g5, .int .i64 (0 : Int), .int .i64 3] 37)
    obtain ⟨w6, hqx⟩ : ∃ x, w5.alloc (.cells #[.slice A5 s.cells.length c5, .slice B5 s.tin.length d5, .slice D5 s.tout.length g5, .int .i64 (0 : Int), .int .i64 3] 37) = x := ⟨_, rfl⟩
    obtain ⟨rb5, hqy⟩ : ∃ x, w5.heap.size = x := ⟨_, rfl⟩
    rw [hqx] at ka hba
    rw [hqy] at ka
    rw [hqx, hqy]
    clear hqx hqy
    have hq6 := bl_tt hq5 hba
    have HK5 := Lib.hid ka
    clear ka hba
    go_upto_region 10 with fail
    have hPq := blk_bl HK0.out hq6
    have hSq := blk_bl HK1.out hq6
    have p0 : w6.cell? ⟨W.heap.size, 0, none⟩ = some (.slice A1 p.vs.length c1) := cell_of_blk hPq rfl
    have p1 : w6.cell? ⟨W.heap.size, 1, none⟩ = some (.slice A2 p.prs.length c2) := cell_of_blk hPq rfl
    have p2 : w6.cell? ⟨W.heap.size, 2, none⟩ = some (.int .u8 p.m.k) := cell_of_blk hPq rfl
    have p3 : w6.cell? ⟨W.heap.size, 3, none⟩ = some (.int .i64 p.m.n) := cell_of_blk hPq rfl
    have p4 : w6.cell? ⟨W.heap.size, 4, none⟩ = some (.string p.m.s) := cell_of_blk hPq rfl
    have p5 : w6.cell? ⟨W.heap.size, 5, none⟩ = some (.slice A3 p.m.ks.length c3) := cell_of_blk hPq rfl
    have s0 : w6.cell? ⟨W.heap.size + 1, 0, none⟩ = some (.slice A s.cells.length c) := cell_of_blk hSq rfl
    have s1 : w6.cell? ⟨W.heap.size + 1, 1, none⟩ = some (.slice B s.tin.length d) := cell_of_blk hSq rfl
    have s2 : w6.cell? ⟨W.heap.size + 1, 2, none⟩ = some (.slice D s.tout.length e) := cell_of_blk hSq rfl
    clear hPq hSq
    have hcon := Backward_any p s F 5000000 _ _ _ (HPV.out.later (bl_tt HB2.out hq6)) (HSV.out.later (bl_tt HB2.out hq6)) HCL.out hF hF6 hFG
    rw [hRB] at hcon
    have HCON := Lib.hid hcon
    clear hcon
    go_wp2_with fail
    refine HCON.out.mono ?_
    rintro e7 w7 ⟨v1, v2, v3, rfl, ho7, hbQ7, hl7⟩
    obtain ⟨A7, c7, B7, d7, D7, g7, hv⟩ := ho7.slices
    injection hv with hv
    simp only [Array.mk.injEq, List.cons.injEq, and_true] at hv
    obtain ⟨rfl, rfl, rfl⟩ := hv
    have HO7 := Lib.hid ho7
    have HL7 := Lib.hid hl7
    have hq7 := bl_tt hq6 hbQ7
    clear p0 p1 p2 p3 p4 p5 s0 s1 s2 ho7 hl7 HCON
    (try dsimp only at HO7 HL7 ⊢)
    go_upto_region 11 with fail
    have ka := heap_alloc_new w7 (.cells #[.slice A7 s.cells.length c7, .slice B7 s.tin.length d7, .slice D7 s.tout.length g7, .int .i64 (0 : Int), .int .i64 3] 37)
    have hba := bl_al (Below.refl w7.heap.size w7) (.cells #[.slice A7 s.cells.length c7, .slice B7 s.tin.length d7, .slice D7 s.tout.length g7, .int .i64 (0 : Int), .int .i64 3] 37)
    obtain ⟨w8, hqx⟩ : ∃ x, w7.alloc (.cells #[.slice A7 s.cells.length c7, .slice B7 s.tin.length d7, .slice D7 s.tout.length g7, .int .i64 (0 : Int), .int .i64 3] 37) = x := ⟨_, rfl⟩
    obtain ⟨rb7, hqy⟩ : ∃ x, w7.heap.size = x := ⟨_, rfl⟩
    rw [hqx] at ka hba
    rw [hqy] at ka
    rw [hqx, hqy]
    clear hqx hqy
    have x4 : w8.cell? ⟨rb5, 4, none⟩ = some (.int .i64 3) := cell_of_blk (blk_bl HK5.out (bl_tt hbQ7 hba)) rfl
    have y4 : w8.cell? ⟨rb7, 4, none⟩ = some (.int .i64 3) := cell_of_blk ka rfl
    have hq8 := bl_tt hq7 hba
    clear ka hba
    go_wp2_with fail
    go_ret
    exact ⟨rfl, bl_tt HB2.out hq8⟩
 ·go_wp2_with fail
  refine (awake_any w4).mono ?_
  rintro e5 w5 ⟨rfl, b5⟩
  clear hgb
  go_wp2_with fail
  go_ret
  exact ⟨rfl, bl_tt HB2.out (bl_tt b24 b5)⟩
end Go.Proofs.YtgnfpcebmefhoaaGreat
namespace Go.Proofs.YtgnfpcebmefhoaaGreat
open Go.RowKit Go.ChangeShapes Go.WideShapes Go.ChangeAt Go.Deep
theorem cellsNode : Tryz.prog.cellsOf 26 = 4 := by kernel_rfl
theorem bytesNode : Tryz.prog.bytesOf 26 = 56 := by kernel_rfl
theorem cellsU8 : Tryz.prog.cellsOf 5 = 1 := by kernel_rfl
theorem cellsI64 : Tryz.prog.cellsOf 3 = 1 := by kernel_rfl
theorem cellsStr : Tryz.prog.cellsOf 9 = 1 := by kernel_rfl
theorem cellsKids : Tryz.prog.cellsOf 24 = 1 := by kernel_rfl
theorem weightsAll_mem {H : Type} {P : Program} {e : TypeId} : ∀ {l : List (DataW H)} {d : DataW H}, d ∈ l → ∀ n ∈ d.weights P e, n ∈ DataW.weightsAll P e l
 | d0 :: l, d, hd, n, hn => by
  simp only [DataW.weightsAll, List.mem_append]
  rcases List.mem_cons.1 hd with rfl | hd
  ·exact .inl hn
  ·exact .inr (weightsAll_mem hd n hn)
theorem sizes_le_bulk {H : Type} : ∀ (ks : List T) (ds : List (DataW H)), ks.length = ds.length → (∀ i (h : i < ks.length) (h' : i < ds.length), size ks[i] ≤ Rows.uptoBulk ds[i]) → sizes ks ≤ Rows.uptoBulkAll ds
 | [], [], _, _ => by simp [sizes]
 | t :: ts, d :: ds, hl, h => by
  have h0 := h 0 (Nat.zero_lt_succ _) (Nat.zero_lt_succ _)
  have h1 := sizes_le_bulk ts ds (by simpa using hl) (fun i hi hi' => h (i + 1) (Nat.succ_lt_succ hi) (Nat.succ_lt_succ hi'))
  simp only [List.getElem_cons_zero] at h0
  simp only [sizes, Rows.uptoBulkAll]
  omega
 | [], _ :: _, hl, _ => by simp at hl
 | _ :: _, [], hl, _ => by simp at hl
section
variable {H : Type} {enc : TypeId × Value → H} {w : World} {held : Bool}
def zeroT' : T := .nd 0 0 ⟨#[]⟩ []
set_option maxRecDepth 100000 in
theorem open_node : ∀ (fuel : Nat) (cs : List Value) (x : DataW H × List MemPlace), DataW.trod enc Tryz.prog w 0 (fun _ => true) held fuel 26 cs = some x →
  (∀ n ∈ x.1.weights Tryz.prog 26, n ≤ reachBytes) →
  ∃ t u0 u1 u2 u3, cs = [u0, u1, u2, u3] ∧ NV w Any t (.agg #[u0, u1, u2, u3]) ∧ t.ks.length * 56 ≤ reachBytes ∧ size t ≤ Rows.uptoBulk x.1 := by
 intro fuel
 induction fuel using Nat.strongRecOn with
 | _ fuel ih =>
 intro cs x h hw
 have hts := DataW.trod_struct Tryz.underlying26 h
 obtain ⟨xs, n, hfu, hx, hcl, hxl, hg⟩ := hts
 subst hx
 rw [cellsNode] at hcl
 match cs, hcl with
 | [c0, c1, c2, c3], _ =>
 match xs, hxl with
 | [y0, y1, y2, y3], _ =>
 have g0 := hg 0 _ rfl
 have g1 := hg 1 _ rfl
 have g2 := hg 2 _ rfl
 have g3 := hg 3 _ rfl
 simp only [cellsU8, cellsI64, cellsStr, cellsKids, List.drop_zero, List.take_succ_cons, List.take_zero, List.drop_succ_cons, List.getElem?_cons_zero, List.getElem?_cons_succ] at g0 g1 g2 g3
 obtain ⟨k, e0, e0', wk⟩ := DataW.trod_int Tryz.underlying5 g0
 obtain ⟨m, e1, e1', wm⟩ := DataW.trod_int Tryz.underlying3 g1
 obtain ⟨s, e2, e2', ws⟩ := DataW.trod_string Tryz.underlying9 g2
 injection e0 with e0
 injection e1 with e1
 injection e2 with e2
 subst e0 e1 e2 e0' e1' e2'
 have hf : Fld k m s := by
  refine ⟨?_, ?_, ws⟩
  ·have := wk; simp [Lit.wf, IntKind.min, IntKind.max, IntKind.signed, IntKind.bits] at this; omega
  ·have := wm; simp [Lit.wf, IntKind.min, IntKind.max, IntKind.signed, IntKind.bits] at this; omega
 have hsl := DataW.trod_slice Tryz.underlying24 g3
 rcases hsl with ⟨e3, e3'⟩ | ⟨a, len, cap, elems, rest, n', hn', e3, e3', _, hl, hm, hel, hat, hsp, _⟩
 ·injection e3 with e3
  subst e3 e3'
  refine ⟨.nd k m s [], _, _, _, _, rfl, NV.shut (ks := []) hf (Nat.zero_le _) (Nat.zero_le _) RowAt.nil, by simp, ?_⟩
  simp only [size, sizes, List.map_cons, List.map_nil, Rows.uptoBulk]
  omega
 ·injection e3 with e3
  subst e3 e3'
  obtain ⟨hrl, _⟩ := hsp rfl
  rw [cellsNode] at hat
  -- what the reach says of this slice, and of its elements
  have hws : ∀ q ∈ DataW.weights Tryz.prog 24 (.slice (elems.map (·.1)) (rest.map (·.1)) : DataW H), q ≤ reachBytes := by
   intro q hq
   refine hw q ?_
   simp only [List.map_cons, List.map_nil, DataW.weights, Tryz.underlying26]
   simp only [DataW.weightsEach, List.map_cons, List.map_nil, List.mem_append]
   exact .inr (.inr (.inr (.inl hq)))
  simp only [DataW.weights, Tryz.underlying24, bytesNode] at hws
  have hcap : cap * 56 ≤ reachBytes := by
   have := hws _ (List.mem_cons_self ..)
   simp only [List.length_map] at this
   rw [hel, hrl] at this
   rw [show cap = len + (cap - len) by omega]
   exact this
  have hwe : ∀ y ∈ elems, ∀ q ∈ y.1.weights Tryz.prog 26, q ≤ reachBytes := fun y hy q hq =>
   hws q (List.mem_cons_of_mem _ (List.mem_append_left _ (weightsAll_mem (List.mem_map_of_mem hy) q hq)))
  have key : ∀ i (hi : i < elems.length), ∃ t u0 u1 u2 u3, w.cells? 0 (a.add (i * 4)) 4 = some [u0, u1, u2, u3] ∧ NV w Any t (.agg #[u0, u1, u2, u3]) ∧ size t ≤ Rows.uptoBulk elems[i].1 := by
   intro i hi
   have h1 := hat i (by omega)
   rw [List.getElem?_eq_getElem hi] at h1
   obtain ⟨cs', hcs, ht⟩ := Option.bind_eq_some_iff.1 h1
   obtain ⟨t, u0, u1, u2, u3, rfl, hn, _, hb⟩ := ih n' (by omega) cs' elems[i] ht (hwe _ (List.getElem_mem hi))
   exact ⟨t, u0, u1, u2, u3, hcs, hn, hb⟩
  have hex : ∃ ks : List T, ks.length = elems.length ∧ ∀ i (h : i < ks.length) (h' : i < elems.length), (∃ u0 u1 u2 u3, w.cells? 0 (a.add (i * 4)) 4 = some [u0, u1, u2, u3] ∧ NV w Any ks[i] (.agg #[u0, u1, u2, u3])) ∧ size ks[i] ≤ Rows.uptoBulk elems[i].1 := by
   classical
   refine ⟨(List.range elems.length).map fun i => if h : i < elems.length then (key i h).choose else zeroT', by simp, fun i h h' => ?_⟩
   simp only [List.getElem_map, List.getElem_range, h', dif_pos]
   obtain ⟨u0, u1, u2, u3, h1, h2, h3⟩ := (key i h').choose_spec
   exact ⟨⟨u0, u1, u2, u3, h1, h2⟩, h3⟩
  obtain ⟨ks, hkl, hks⟩ := hex
  have hlen : ks.length = len := by omega
  have hLK : ks.length ≤ LK := by unfold LK; unfold reachBytes at hcap; omega
  refine ⟨.nd k m s ks, _, _, _, _, rfl, ?_, ?_, ?_⟩
  ·rw [← hlen]
   refine NV.shut hf hLK (by omega) fun i hi => ?_
   obtain ⟨⟨u0, u1, u2, u3, hc, hn⟩, _⟩ := hks i hi (by omega)
   obtain ⟨_, _, hcell⟩ := World.cells?_some hc
   refine ⟨a, u0, u1, u2, u3, rfl, trivial, ⟨?_, ?_, ?_, ?_⟩, hn⟩
   ·have := hcell 0 (by omega); simpa [Addr.add] using this
   ·have := hcell 1 (by omega); simpa [Addr.add] using this
   ·have := hcell 2 (by omega); simpa [Addr.add] using this
   ·have := hcell 3 (by omega); simpa [Addr.add] using this
  ·simp only [T.ks_nd]; omega
  ·have hb := sizes_le_bulk ks (elems.map (·.1)) (by simp [hkl]) (fun i h h' => by
    have := (hks i h (by simpa using h')).2
    simpa using this)
   simp only [size, List.map_cons, List.map_nil, Rows.uptoBulk, Rows.uptoBulkAll]
   omega
end
end Go.Proofs.YtgnfpcebmefhoaaGreat
namespace Go.Proofs.YtgnfpcebmefhoaaGreat
open Go.RowKit Go.ChangeShapes Go.WideShapes Go.ChangeAt Go.Deep
theorem Tryz.own : ownKnob Tryz.prog.godebug = none := by kernel_rfl
theorem Tryz.laidOut : laidOutB Tryz.prog = true := by kernel_rfl
end Go.Proofs.YtgnfpcebmefhoaaGreat
namespace Go.Proofs.YtgnfpcebmefhoaaGreat
open Go.RowKit Go.ChangeShapes Go.WideShapes Go.ChangeAt Go.Deep
theorem cellsVd : Tryz.prog.cellsOf 58 = 3 := by kernel_rfl
theorem bytesVd : Tryz.prog.bytesOf 58 = 32 := by kernel_rfl
section
variable {H : Type} {enc : TypeId × Value → H} {w : World} {held : Bool}
theorem open_row {ty E : TypeId} {n b : Nat} (ht : Tryz.prog.underlying ty = some (.slice E)) (hc : Tryz.prog.cellsOf E = n) (hb : Tryz.prog.bytesOf E = b) {fuel : Nat} {cs : List Value} {x : DataW H × List MemPlace}
  (h : DataW.trod enc Tryz.prog w 0 (fun _ => true) held fuel ty cs = some x) (hw : ∀ q ∈ x.1.weights Tryz.prog ty, q ≤ reachBytes) :
  cs = [.slice none 0 0] ∨ ∃ a len cap, cs = [.slice (some a) len cap] ∧ len ≤ cap ∧ cap * b ≤ reachBytes ∧ ∀ i, i < len → ∃ cs' y n', w.cells? 0 (a.add (i * n)) n = some cs' ∧ DataW.trod enc Tryz.prog w 0 (fun _ => true) held n' E cs' = some y ∧ ∀ q ∈ y.1.weights Tryz.prog E, q ≤ reachBytes := by
 have hsl := DataW.trod_slice ht h
 rcases hsl with ⟨e3, e3'⟩ | ⟨a, len, cap, elems, rest, n', hn', e3, e3', _, hl, hm, hel, hat, hsp, _⟩
 ·exact .inl e3
 ·refine .inr ⟨a, len, cap, e3, hl, ?_, ?_⟩
  ·obtain ⟨hrl, _⟩ := hsp rfl
   subst e3'
   simp only [DataW.weights, ht, hb] at hw
   have := hw _ (List.mem_cons_self ..)
   simp only [List.length_map] at this
   rw [hel, hrl] at this
   rw [show cap = len + (cap - len) by omega]
   exact this
  ·intro i hi
   subst e3'
   simp only [DataW.weights, ht, hb] at hw
   have hi' : i < elems.length := by omega
   have h1 := hat i (by omega)
   rw [List.getElem?_eq_getElem hi', hc] at h1
   obtain ⟨cs', hcs, ht'⟩ := Option.bind_eq_some_iff.1 h1
   exact ⟨cs', elems[i], n', hcs, ht', fun q hq => hw q (List.mem_cons_of_mem _ (List.mem_append_left _ (weightsAll_mem (List.mem_map_of_mem (List.getElem_mem hi')) q hq)))⟩
set_option maxRecDepth 100000 in
theorem open_vd {fuel : Nat} {cs : List Value} {x : DataW H × List MemPlace} (h : DataW.trod enc Tryz.prog w 0 (fun _ => true) held fuel 58 cs = some x) :
  ∃ v : VD, cs = [.string v.s, .int .u8 v.k, .int .i64 v.n] ∧ FldV v := by
 have hts := DataW.trod_struct Tryz.underlying58 h
 obtain ⟨xs, n, hfu, hx, hcl, hxl, hg⟩ := hts
 rw [cellsVd] at hcl
 match cs, hcl with
 | [c0, c1, c2], _ =>
 match xs, hxl with
 | [y0, y1, y2], _ =>
 have g0 := hg 0 _ rfl
 have g1 := hg 1 _ rfl
 have g2 := hg 2 _ rfl
 obtain ⟨s, e2, e2', ws⟩ := DataW.trod_string Tryz.underlying9 g0
 obtain ⟨k, e0, e0', wk⟩ := DataW.trod_int Tryz.underlying5 g1
 obtain ⟨m, e1, e1', wm⟩ := DataW.trod_int Tryz.underlying3 g2
 injection e0 with e0
 injection e1 with e1
 injection e2 with e2
 subst e0 e1 e2
 refine ⟨⟨s, k, m⟩, rfl, ws, ?_, ?_⟩
 ·have := wk; simp [Lit.wf, IntKind.min, IntKind.max, IntKind.signed, IntKind.bits] at this; constructor <;> simp only <;> omega
 ·have := wm; simp [Lit.wf, IntKind.min, IntKind.max, IntKind.signed, IntKind.bits] at this; constructor <;> simp only <;> omega
theorem choose_list {α : Type} [Inhabited α] {n : Nat} {P : Nat → α → Prop} (h : ∀ i, i < n → ∃ x, P i x) : ∃ l : List α, l.length = n ∧ ∀ i (hi : i < l.length), P i l[i] := by
 obtain ⟨f, hf⟩ := choose_lt h
 exact ⟨(List.range n).map f, by simp, fun i hi => by simp only [List.getElem_map, List.getElem_range]; exact hf i (by simpa using hi)⟩
instance : Inhabited VD := ⟨⟨⟨#[]⟩, 0, 0⟩⟩
set_option maxRecDepth 100000 in
theorem open_varsW {fuel : Nat} {cs : List Value} {x : DataW H × List MemPlace} (h : DataW.trod enc Tryz.prog w 0 (fun _ => true) held fuel 22 cs = some x) (hw : ∀ q ∈ x.1.weights Tryz.prog 22, q ≤ reachBytes) :
  ∃ (A : Option Addr) (vs : List VD) (c : Nat), cs = [.slice A vs.length c] ∧ RowV w Any A vs ∧ vs.length ≤ 4398046510976 ∧ vs.length ≤ c := by
 rcases open_row Tryz.underlying22 cellsVd bytesVd h hw with rfl | ⟨a, len, cap, rfl, hl, hcap, hat⟩
 ·exact ⟨none, [], 0, rfl, fun i hi => absurd hi (by simp), Nat.zero_le _, Nat.zero_le _⟩
 ·obtain ⟨vs, hvl, hvs⟩ := choose_list (n := len) (P := fun i (v : VD) => w.cells? 0 (a.add (i * 3)) 3 = some [.string v.s, .int .u8 v.k, .int .i64 v.n] ∧ FldV v) fun i hi => by
   obtain ⟨cs', y, n', hcs, ht, _⟩ := hat i hi
   obtain ⟨v, rfl, hf⟩ := open_vd ht
   exact ⟨v, hcs, hf⟩
  refine ⟨some a, vs, cap, by rw [hvl], fun i hi => ?_, by unfold reachBytes at hcap; omega, by omega⟩
  obtain ⟨hc, hf⟩ := hvs i hi
  obtain ⟨_, _, hcell⟩ := World.cells?_some hc
  refine ⟨a, rfl, trivial, ⟨?_, ?_, ?_⟩, hf⟩
  ·have := hcell 0 (by omega); simpa [Addr.add] using this
  ·have := hcell 1 (by omega); simpa [Addr.add] using this
  ·have := hcell 2 (by omega); simpa [Addr.add] using this
theorem open_vars {fuel : Nat} {cs : List Value} {x : DataW H × List MemPlace} (h : DataW.trod enc Tryz.prog w 0 (fun _ => true) held fuel 22 cs = some x) (hw : ∀ q ∈ x.1.weights Tryz.prog 22, q ≤ reachBytes) :
  ∃ (A : Option Addr) (vs : List VD) (c : Nat), cs = [.slice A vs.length c] ∧ RowV w Any A vs ∧ vs.length ≤ LV ∧ vs.length ≤ c := by
 obtain ⟨A, vs, c, h1, h2, h3, h4⟩ := open_varsW h hw
 exact ⟨A, vs, c, h1, h2, by unfold LV; omega, h4⟩
instance : Inhabited T := ⟨zeroT'⟩
theorem nv_parts {t : T} {u0 u1 u2 u3 : Value} (h : NV w Any t (.agg #[u0, u1, u2, u3])) : ∃ A c, u0 = .int .u8 t.k ∧ u1 = .int .i64 t.n ∧ u2 = .string t.s ∧ u3 = .slice A t.ks.length c ∧ NV w Any t (nv t.k t.n t.s A t.ks.length c) := by
 obtain ⟨A, c, e, _⟩ := h.open_
 have e' := e
 simp only [nv, Value.agg.injEq, Array.mk.injEq, List.cons.injEq, and_true] at e
 exact ⟨A, c, e.1, e.2.1, e.2.2.1, e.2.2.2, e' ▸ h⟩
end
end Go.Proofs.YtgnfpcebmefhoaaGreat
namespace Go.Proofs.YtgnfpcebmefhoaaGreat
open Go.RowKit Go.ChangeShapes Go.WideShapes Go.ChangeAt Go.Deep
theorem cellsI : Tryz.prog.cellsOf 30 = 1 := by kernel_rfl
theorem bytesI64 : Tryz.prog.bytesOf 3 = 8 := by kernel_rfl
theorem bytesI : Tryz.prog.bytesOf 30 = 24 := by kernel_rfl
theorem cellsState : Tryz.prog.cellsOf 32 = 3 := by kernel_rfl
section
variable {H : Type} {enc : TypeId × Value → H} {w : World} {held : Bool}
theorem cell0 {a : Addr} {u : Value} (h : w.cells? 0 a 1 = some [u]) : w.cell? a = some u := by
 obtain ⟨_, _, hcell⟩ := World.cells?_some h
 have := hcell 0 (by omega)
 have e : a.add 0 = a := by
  obtain ⟨b, o, l⟩ := a
  rcases l with _ | ⟨l1, l2⟩ <;> simp [Addr.add]
 rw [e] at this
 simpa using this
set_option maxRecDepth 100000 in
theorem open_rowI {fuel : Nat} {cs : List Value} {x : DataW H × List MemPlace} (h : DataW.trod enc Tryz.prog w 0 (fun _ => true) held fuel 30 cs = some x) (hw : ∀ q ∈ x.1.weights Tryz.prog 30, q ≤ reachBytes) :
  ∃ (A : Option Addr) (l : List Int) (c : Nat), cs = [.slice A l.length c] ∧ RowI w Any A l ∧ l.length ≤ LI ∧ l.length ≤ c := by
 rcases open_row Tryz.underlying30 cellsI64 bytesI64 h hw with rfl | ⟨a, len, cap, rfl, hl, hcap, hat⟩
 ·exact ⟨none, [], 0, rfl, fun i hi => absurd hi (by simp), Nat.zero_le _, Nat.zero_le _⟩
 ·obtain ⟨l, hvl, hvs⟩ := choose_list (n := len) (P := fun i (x : Int) => w.cells? 0 (a.add (i * 1)) 1 = some [.int .i64 x] ∧ I64 x) fun i hi => by
   obtain ⟨cs', y, n', hcs, ht, _⟩ := hat i hi
   obtain ⟨m, e1, e1', wm⟩ := DataW.trod_int Tryz.underlying3 ht
   refine ⟨m, by rw [hcs, e1], ?_⟩
   have := wm
   simp [Lit.wf, IntKind.min, IntKind.max, IntKind.signed, IntKind.bits] at this
   constructor <;> omega
  refine ⟨some a, l, cap, by rw [hvl], fun i hi => ?_, by unfold LI; unfold reachBytes at hcap; omega, by omega⟩
  obtain ⟨hc, hf⟩ := hvs i hi
  rw [Nat.mul_one] at hc
  exact ⟨a, rfl, trivial, cell0 hc, hf⟩
instance : Inhabited (List Int) := ⟨[]⟩
set_option maxRecDepth 100000 in
theorem open_rowII {fuel : Nat} {cs : List Value} {x : DataW H × List MemPlace} (h : DataW.trod enc Tryz.prog w 0 (fun _ => true) held fuel 29 cs = some x) (hw : ∀ q ∈ x.1.weights Tryz.prog 29, q ≤ reachBytes) :
  ∃ (A : Option Addr) (ls : List (List Int)) (c : Nat), cs = [.slice A ls.length c] ∧ RowII w Any A ls ∧ ls.length ≤ LI ∧ (∀ l ∈ ls, l.length ≤ LI) ∧ ls.length ≤ c := by
 rcases open_row Tryz.underlying29 cellsI bytesI h hw with rfl | ⟨a, len, cap, rfl, hl, hcap, hat⟩
 ·exact ⟨none, [], 0, rfl, fun i hi => absurd hi (by simp), Nat.zero_le _, by simp, Nat.zero_le _⟩
 ·obtain ⟨ls, hvl, hvs⟩ := choose_list (n := len) (P := fun i (l : List Int) => ∃ A' c', w.cells? 0 (a.add (i * 1)) 1 = some [.slice A' l.length c'] ∧ RowI w Any A' l ∧ l.length ≤ LI ∧ l.length ≤ c') fun i hi => by
   obtain ⟨cs', y, n', hcs, ht, hwy⟩ := hat i hi
   obtain ⟨A', l, c', e, hr, h1, h2⟩ := open_rowI ht hwy
   exact ⟨l, A', c', by rw [hcs, e], hr, h1, h2⟩
  refine ⟨some a, ls, cap, by rw [hvl], fun i hi => ?_, by unfold LI; unfold reachBytes at hcap; omega, fun l hl => ?_, by omega⟩
  ·obtain ⟨A', c', hc, hr, h1, h2⟩ := hvs i hi
   rw [Nat.mul_one] at hc
   exact ⟨a, A', c', rfl, trivial, cell0 hc, h2, hr⟩
  ·obtain ⟨i, hi, rfl⟩ := List.mem_iff_getElem.1 hl
   obtain ⟨A', c', hc, hr, h1, h2⟩ := hvs i hi
   exact h1
set_option maxRecDepth 100000 in
theorem open_state {fuel : Nat} {cs : List Value} {x : DataW H × List MemPlace} (h : DataW.trod enc Tryz.prog w 0 (fun _ => true) held fuel 32 cs = some x) (hw : ∀ q ∈ x.1.weights Tryz.prog 32, q ≤ reachBytes) :
  ∃ (s : SS) (u0 u1 u2 : Value), cs = [u0, u1, u2] ∧ SV w Any s (.agg #[u0, u1, u2]) := by
 have hts := DataW.trod_struct Tryz.underlying32 h
 obtain ⟨xs, n, hfu, hx, hcl, hxl, hg⟩ := hts
 subst hx
 rw [cellsState] at hcl
 match cs, hcl with
 | [c0, c1, c2], _ =>
 match xs, hxl with
 | [y0, y1, y2], _ =>
 have g0 := hg 0 _ rfl
 have g1 := hg 1 _ rfl
 have g2 := hg 2 _ rfl
 have hw0 : ∀ q ∈ y0.1.weights Tryz.prog 29, q ≤ reachBytes := fun q hq => by
  refine hw q ?_
  simp only [List.map_cons, List.map_nil, DataW.weights, Tryz.underlying32]
  simp only [DataW.weightsEach, List.mem_append]
  exact .inl hq
 have hw1 : ∀ q ∈ y1.1.weights Tryz.prog 30, q ≤ reachBytes := fun q hq => by
  refine hw q ?_
  simp only [List.map_cons, List.map_nil, DataW.weights, Tryz.underlying32]
  simp only [DataW.weightsEach, List.mem_append]
  exact .inr (.inl hq)
 have hw2 : ∀ q ∈ y2.1.weights Tryz.prog 30, q ≤ reachBytes := fun q hq => by
  refine hw q ?_
  simp only [List.map_cons, List.map_nil, DataW.weights, Tryz.underlying32]
  simp only [DataW.weightsEach, List.mem_append]
  exact .inr (.inr (.inl hq))
 obtain ⟨A0, ls, k0, e0, hr0, hl0, hl0', hc0⟩ := open_rowII g0 hw0
 obtain ⟨A1, l1, k1, e1, hr1, hl1, hc1⟩ := open_rowI g1 hw1
 obtain ⟨A2, l2, k2, e2, hr2, hl2, hc2⟩ := open_rowI g2 hw2
 injection e0 with e0
 injection e1 with e1
 injection e2 with e2
 subst e0 e1 e2
 exact ⟨⟨ls, l1, l2⟩, _, _, _, rfl, A0, k0, A1, k1, A2, k2, rfl, hr0, hr1, hr2, hc0, hc1, hc2, hl0, hl0', hl1, hl2⟩
set_option maxRecDepth 100000 in
theorem state_in {W : World} {base : Nat} {v : Value} {d : DataW H} {p : List MemPlace} (hok : Value.okWide Tryz.prog W .any base 32 v)
  (h : DataW.Trod enc Tryz.prog W 0 (fun _ => true) true 32 v d p) (hw : ∀ n ∈ d.weights Tryz.prog 32, n ≤ reachBytes) : ∃ s, SV W Any s v := by
 obtain ⟨cs, rfl, hcs⟩ := okWide_struct Tryz.underlying32 hok
 obtain ⟨fuel, hf⟩ := h
 obtain ⟨s, u0, u1, u2, e, hs⟩ := open_state hf hw
 refine ⟨s, ?_⟩
 have : cs = #[u0, u1, u2] := by
  apply Array.ext'
  simpa [Value.cells] using e
 rw [this]
 exact hs
end
end Go.Proofs.YtgnfpcebmefhoaaGreat
namespace Go.Proofs.YtgnfpcebmefhoaaGreat
open Go.RowKit Go.ChangeShapes Go.WideShapes Go.ChangeAt Go.Deep
theorem cellsPr : Tryz.prog.cellsOf 61 = 6 := by kernel_rfl
theorem bytesPr : Tryz.prog.bytesOf 61 = 96 := by kernel_rfl
theorem cellsPg : Tryz.prog.cellsOf 28 = 6 := by kernel_rfl
section
variable {H : Type} {enc : TypeId × Value → H} {w : World} {held : Bool}
instance : Inhabited PR := ⟨⟨⟨#[]⟩, [], zeroT'⟩⟩
set_option maxRecDepth 100000 in
theorem open_proc {fuel : Nat} {cs : List Value} {x : DataW H × List MemPlace} (h : DataW.trod enc Tryz.prog w 0 (fun _ => true) held fuel 61 cs = some x) (hw : ∀ q ∈ x.1.weights Tryz.prog 61, q ≤ reachBytes) :
  ∃ (r : PR) (A1 : Option Addr) (c1 : Nat) (A2 : Option Addr) (c2 : Nat), cs = [.string r.s, .slice A1 r.ps.length c1, .int .u8 r.b.k, .int .i64 r.b.n, .string r.b.s, .slice A2 r.b.ks.length c2] ∧ PrR w Any r A1 c1 A2 c2 := by
 have hts := DataW.trod_struct Tryz.underlying61 h
 obtain ⟨xs, n, hfu, hx, hcl, hxl, hg⟩ := hts
 subst hx
 rw [cellsPr] at hcl
 match cs, hcl with
 | [c0, c1, c2, c3, c4, c5], _ =>
 match xs, hxl with
 | [y0, y1, y2], _ =>
 have g0 := hg 0 _ rfl
 have g1 := hg 1 _ rfl
 have g2 := hg 2 _ rfl
 have hw1 : ∀ q ∈ y1.1.weights Tryz.prog 22, q ≤ reachBytes := fun q hq => by
  refine hw q ?_
  simp only [List.map_cons, List.map_nil, DataW.weights, Tryz.underlying61]
  simp only [DataW.weightsEach, List.map_cons, List.map_nil, List.mem_append]
  exact .inr (.inl hq)
 have hw2 : ∀ q ∈ y2.1.weights Tryz.prog 26, q ≤ reachBytes := fun q hq => by
  refine hw q ?_
  simp only [List.map_cons, List.map_nil, DataW.weights, Tryz.underlying61]
  simp only [DataW.weightsEach, List.map_cons, List.map_nil, List.mem_append]
  exact .inr (.inr (.inl hq))
 obtain ⟨s, e0, _, ws⟩ := DataW.trod_string Tryz.underlying9 g0
 obtain ⟨A1, ps, k1, e1, hrow, hlp, hlc⟩ := open_vars g1 hw1
 obtain ⟨t, u0, u1, u2, u3, e2, hn, _, _⟩ := open_node _ _ _ g2 hw2
 obtain ⟨A2, k2, rfl, rfl, rfl, rfl, hn'⟩ := nv_parts hn
 injection e0 with e0
 injection e1 with e1
 change List.take (Tryz.prog.cellsOf 26) [c2, c3, c4, c5] = _ at e2
 rw [cellsNode] at e2
 simp only [List.take_succ_cons, List.take_zero, List.cons.injEq, and_true] at e2
 obtain ⟨rfl, rfl, rfl, rfl⟩ := e2
 subst e0 e1
 exact ⟨⟨s, ps, t⟩, A1, k1, A2, k2, rfl, ws, hrow, hlp, hlc, hn'⟩
set_option maxRecDepth 100000 in
theorem open_procs {fuel : Nat} {cs : List Value} {x : DataW H × List MemPlace} (h : DataW.trod enc Tryz.prog w 0 (fun _ => true) held fuel 23 cs = some x) (hw : ∀ q ∈ x.1.weights Tryz.prog 23, q ≤ reachBytes) :
  ∃ (A : Option Addr) (ps : List PR) (c : Nat), cs = [.slice A ps.length c] ∧ RowP w Any A ps ∧ ps.length ≤ LV ∧ ps.length ≤ c := by
 rcases open_row Tryz.underlying23 cellsPr bytesPr h hw with rfl | ⟨a, len, cap, rfl, hl, hcap, hat⟩
 ·exact ⟨none, [], 0, rfl, fun i hi => absurd hi (by simp), Nat.zero_le _, Nat.zero_le _⟩
 ·obtain ⟨ps, hvl, hvs⟩ := choose_list (n := len) (P := fun i (r : PR) => ∃ A1 c1 A2 c2, w.cells? 0 (a.add (i * 6)) 6 = some [.string r.s, .slice A1 r.ps.length c1, .int .u8 r.b.k, .int .i64 r.b.n, .string r.b.s, .slice A2 r.b.ks.length c2] ∧ PrR w Any r A1 c1 A2 c2) fun i hi => by
   obtain ⟨cs', y, n', hcs, ht, hwy⟩ := hat i hi
   obtain ⟨r, A1, c1, A2, c2, rfl, hr⟩ := open_proc ht hwy
   exact ⟨r, A1, c1, A2, c2, hcs, hr⟩
  refine ⟨some a, ps, cap, by rw [hvl], fun i hi => ?_, by unfold LV; unfold reachBytes at hcap; omega, by omega⟩
  obtain ⟨A1, c1, A2, c2, hc, hr⟩ := hvs i hi
  obtain ⟨_, _, hcell⟩ := World.cells?_some hc
  refine ⟨a, A1, c1, A2, c2, rfl, trivial, ⟨?_, ?_, ?_, ?_, ?_, ?_⟩, hr⟩
  ·have := hcell 0 (by omega); simpa [Addr.add] using this
  ·have := hcell 1 (by omega); simpa [Addr.add] using this
  ·have := hcell 2 (by omega); simpa [Addr.add] using this
  ·have := hcell 3 (by omega); simpa [Addr.add] using this
  ·have := hcell 4 (by omega); simpa [Addr.add] using this
  ·have := hcell 5 (by omega); simpa [Addr.add] using this
set_option maxRecDepth 100000 in
theorem open_prog {fuel : Nat} {cs : List Value} {x : DataW H × List MemPlace} (h : DataW.trod enc Tryz.prog w 0 (fun _ => true) held fuel 28 cs = some x) (hw : ∀ q ∈ x.1.weights Tryz.prog 28, q ≤ reachBytes) :
  ∃ (p : PG) (A1 : Option Addr) (c1 : Nat) (A2 : Option Addr) (c2 : Nat) (A3 : Option Addr) (c3 : Nat), cs = [.slice A1 p.vs.length c1, .slice A2 p.prs.length c2, .int .u8 p.m.k, .int .i64 p.m.n, .string p.m.s, .slice A3 p.m.ks.length c3] ∧ PgR w Any p A1 c1 A2 c2 A3 c3 := by
 have hts := DataW.trod_struct Tryz.underlying28 h
 obtain ⟨xs, n, hfu, hx, hcl, hxl, hg⟩ := hts
 subst hx
 rw [cellsPg] at hcl
 match cs, hcl with
 | [c0, c1, c2, c3, c4, c5], _ =>
 match xs, hxl with
 | [y0, y1, y2], _ =>
 have g0 := hg 0 _ rfl
 have g1 := hg 1 _ rfl
 have g2 := hg 2 _ rfl
 have hw0 : ∀ q ∈ y0.1.weights Tryz.prog 22, q ≤ reachBytes := fun q hq => by
  refine hw q ?_
  simp only [List.map_cons, List.map_nil, DataW.weights, Tryz.underlying28]
  simp only [DataW.weightsEach, List.map_cons, List.map_nil, List.mem_append]
  exact .inl hq
 have hw1 : ∀ q ∈ y1.1.weights Tryz.prog 23, q ≤ reachBytes := fun q hq => by
  refine hw q ?_
  simp only [List.map_cons, List.map_nil, DataW.weights, Tryz.underlying28]
  simp only [DataW.weightsEach, List.map_cons, List.map_nil, List.mem_append]
  exact .inr (.inl hq)
 have hw2 : ∀ q ∈ y2.1.weights Tryz.prog 26, q ≤ reachBytes := fun q hq => by
  refine hw q ?_
  simp only [List.map_cons, List.map_nil, DataW.weights, Tryz.underlying28]
  simp only [DataW.weightsEach, List.map_cons, List.map_nil, List.mem_append]
  exact .inr (.inr (.inl hq))
 obtain ⟨A1, vs, k1, e0, hrow, hlv, hlvc⟩ := open_vars g0 hw0
 obtain ⟨A2, ps, k2, e1, hrp, hlp, hlpc⟩ := open_procs g1 hw1
 obtain ⟨t, u0, u1, u2, u3, e2, hn, _, _⟩ := open_node _ _ _ g2 hw2
 obtain ⟨A3, k3, rfl, rfl, rfl, rfl, hn'⟩ := nv_parts hn
 injection e0 with e0
 injection e1 with e1
 change List.take (Tryz.prog.cellsOf 26) [c2, c3, c4, c5] = _ at e2
 rw [cellsNode] at e2
 simp only [List.take_succ_cons, List.take_zero, List.cons.injEq, and_true] at e2
 obtain ⟨rfl, rfl, rfl, rfl⟩ := e2
 subst e0 e1
 exact ⟨⟨vs, ps, t⟩, A1, k1, A2, k2, A3, k3, rfl, hrow, hlv, hlvc, hrp, hlp, hlpc, hn'⟩
end
end Go.Proofs.YtgnfpcebmefhoaaGreat
namespace Go.Proofs.YtgnfpcebmefhoaaGreat
open Go.RowKit Go.ChangeShapes Go.WideShapes Go.ChangeAt Go.Deep
set_option maxRecDepth 100000 in
theorem prog_in {H : Type} {enc : TypeId × Value → H} {W : World} {base : Nat} {v : Value} {d : DataW H} {p : List MemPlace} (hok : Value.okWide Tryz.prog W .any base 28 v)
  (h : DataW.Trod enc Tryz.prog W 0 (fun _ => true) true 28 v d p) (hw : ∀ n ∈ d.weights Tryz.prog 28, n ≤ reachBytes) : ∃ g, PV W Any g v := by
 obtain ⟨cs, rfl, hcs⟩ := okWide_struct Tryz.underlying28 hok
 obtain ⟨fuel, hf⟩ := h
 obtain ⟨g, A1, c1, A2, c2, A3, c3, e, hr⟩ := open_prog hf hw
 refine ⟨g, A1, c1, A2, c2, A3, c3, ?_, hr⟩
 have : cs = #[.slice A1 g.vs.length c1, .slice A2 g.prs.length c2, .int .u8 g.m.k, .int .i64 g.m.n, .string g.m.s, .slice A3 g.m.ks.length c3] := by
  apply Array.ext'
  simpa [Value.cells] using e
 rw [this]
end Go.Proofs.YtgnfpcebmefhoaaGreat
