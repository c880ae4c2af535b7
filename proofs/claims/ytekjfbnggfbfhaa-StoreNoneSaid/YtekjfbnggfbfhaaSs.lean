/-
  Steps of a computation that owns a family of rows; the contract of frame.add.
-/
import Derived.Test.YtekjfbnggfbfhaaSq
import Derived.Test.YtekjfbnggfbfhaaStk
import Derived.Test.YtekjfbnggfbfhaaRg
set_option linter.unusedSimpArgs false
set_option linter.unusedVariables false
namespace Go.Proofs.Ytekjfbnggfbfhaa
open Go Go.RowKit

/-- A block of the family. -/
def OwnB {I : Type} (d : I → RowD) (b : Nat) : Prop := ∃ i, (d i).v.ownBlock = some b
/-- From the rows d in W to the rows d' in W': nothing else has turned. -/
structure Stp {I : Type} (n0 : Nat) (d : I → RowD) (W : World) (d' : I → RowD) (W' : World) : Prop where
  rws : Rws W' n0 d'
  chg : Chg (OwnB d) W W'
  own : ∀ b, OwnB d' b → OwnB d b ∨ W.heap.size ≤ b
section
variable {I : Type} {n0 : Nat} {d d' d'' : I → RowD} {W W' W'' : World}
theorem Stp.refl (h : Rws W n0 d) : Stp n0 d W d W := ⟨h, Chg.refl _ _, fun _ h => .inl h⟩
theorem Stp.trans (h : Stp n0 d W d' W') (h' : Stp n0 d' W' d'' W'') : Stp n0 d W d'' W'' :=
  ⟨h'.rws, h.chg.trans2 h'.chg fun b hb hc => (h.own b hc).elim id fun h => by omega, fun b hb => (h'.own b hb).elim (h.own b) fun h2 => .inr (Nat.le_trans h.chg.size h2)⟩
theorem Stp.cast (h : Stp n0 d W d' W') (e : d' = d'') : Stp n0 d W d'' W' := e ▸ h
theorem Stp.below (h : Stp n0 d W d' W') (hb : Below W'.heap.size W' W'') : Stp n0 d W d' W'' :=
  ⟨h.rws.later hb, h.chg.trans (Chg.of_below hb), h.own⟩
theorem Stp.after (h : Stp n0 d W' d' W'') (hb : Below W.heap.size W W') (hd : Rws W n0 d) : Stp n0 d W d' W'' :=
  (Stp.below (Stp.refl hd) hb).trans h
variable [DecidableEq I]
/-- One row turns. -/
theorem Stp.upd {i : I} {r : RowD} (h : Rws W n0 d) (hc : Chg (fun b => (d i).v.ownBlock = some b) W W') (ho : W'.ownsRow n0 r.E r.sz r.v r.n r.xs) (hob : ∀ b, r.v.ownBlock = some b → (d i).v.ownBlock = some b ∨ W.heap.size ≤ b) : Stp n0 d W (updR d i r) W' :=
  ⟨h.upd i hc ho hob, hc.mono fun b _ hb => ⟨i, hb⟩, fun b ⟨j, hj⟩ => by
    by_cases e : j = i
    · subst e
      rw [updR_same] at hj
      exact (hob b hj).imp (fun h => ⟨j, h⟩) id
    · rw [updR_other e] at hj
      exact .inl ⟨j, hj⟩⟩
theorem Stp.set {i : I} (h : Rws W n0 d) {g : Nat} (hg : (d i).v.ownBlock = some g) {o : Nat} (ho : o < (d i).xs.length) (u : Value) : Stp n0 d W (updR d i { d i with xs := (d i).xs.set o u }) (W.setCell ⟨g, o, none⟩ u) :=
  ⟨h.set i hg ho u, ((Chg.refl _ _).setCell (.inl hg) u).mono fun b _ hb => ⟨i, hb⟩, fun b ⟨j, hj⟩ => by
    by_cases e : j = i
    · subst e; rw [updR_same] at hj; exact .inl ⟨j, hj⟩
    · rw [updR_other e] at hj; exact .inl ⟨j, hj⟩⟩
end

theorem vdInfo : (Try.prog.info? 24).map (fun i => (i.zero, i.size, i.bytes)) = some (some (.agg #[.string ⟨#[]⟩, .int .u8 0, .int .i64 0]), 3, 32) := by kernel_rfl
theorem pcInfo : (Try.prog.info? 79).map (fun i => (i.zero, i.size, i.bytes)) = some (some (.pointer none), 1, 8) := by kernel_rfl
theorem buildSV1' (a0 a1 a2 : Value) (w : World) : (Instr.buildSlice 25 1 #[(0, .agg #[a0, a1, a2])]).run Try.prog w = .ok (.slice (some ⟨w.heap.size, 0, none⟩) 1 1) (w.alloc (.cells #[a0, a1, a2] 24)) := by kernel_rfl
theorem buildSP1 (p : Option Addr) (w : World) : (Instr.buildSlice 72 1 #[(0, .pointer p)]).run Try.prog w = .ok (.slice (some ⟨w.heap.size, 0, none⟩) 1 1) (w.alloc (.cells #[.pointer p] 79)) := by kernel_rfl

set_option maxHeartbeats 4000000 in
set_option maxRecDepth 100000 in
theorem add_any {I : Type} [DecidableEq I] {n0 : Nat} {d : I → RowD} {W : World} (h : Rws W n0 d) (i0 iv ic : I) (h01 : i0 ≠ iv) (h02 : i0 ≠ ic) (h12 : iv ≠ ic) (b o : Nat) (hb : (d i0).v.ownBlock = some b)
    (hov : (d i0).xs[o]? = some (d iv).v) (hoc : (d i0).xs[o + 1]? = some (d ic).v) (xs ys : List Value) (m : Nat) (hiv : d iv = ⟨(d iv).v, 24, 3, m, xs⟩) (hic : d ic = ⟨(d ic).v, 79, 1, m, ys⟩) (hm : m ≤ 4398046511000)
    (v : VD) (q : Option Addr) :
    Calls Try.prog 32 #[.pointer (some ⟨b, o, none⟩), .agg #[.string v.s, .int .u8 v.k, .int .i64 v.n], .pointer q] W fun e W' => (∃ u, e = .returned u) ∧ ∃ vv vc,
      Stp n0 d W (updR (updR (updR d iv ⟨vv, 24, 3, m + 1, xs ++ [.string v.s, .int .u8 v.k, .int .i64 v.n]⟩) ic ⟨vc, 79, 1, m + 1, ys ++ [.pointer q]⟩) i0 { d i0 with xs := ((d i0).xs.set o vv).set (o + 1) vc }) W' := by
  obtain ⟨i1, hi1, hz0, hz1, hz2⟩ := info_parts vdInfo
  obtain ⟨i2, hi2, hy0, hy1, hy2⟩ := info_parts pcInfo
  have hrv := h.row iv
  rw [hiv] at hrv
  have hrc := h.row ic
  rw [hic] at hrc
  obtain ⟨A1, c1, e1, -⟩ := row_slice hrv
  obtain ⟨A2, c2, e2, -⟩ := row_slice hrc
  dsimp only at e1 e2 hrv hrc
  have x0 : W.cell? ⟨b, o, none⟩ = some (.slice A1 m c1) := by rw [← e1]; exact h.cell i0 hb hov
  have x1 : W.cell? ⟨b, o + 1, none⟩ = some (.slice A2 m c2) := by rw [← e2]; exact h.cell i0 hb hoc
  have hbf := h.frozen i0 hb
  have HR := Lib.hid h
  have hb1 := buildSV1'
  have hb2 := buildSP1
  clear h
  go_enter Try.func32, Try.ntmps32
  go_upto_region 1 with fail
  have hvb := heap_alloc_new W (.cells #[.string v.s, .int .u8 v.k, .int .i64 v.n] 24)
  obtain ⟨W1, hW1⟩ : ∃ W1, W.alloc (.cells #[.string v.s, .int .u8 v.k, .int .i64 v.n] 24) = W1 := ⟨_, rfl⟩
  have q1 : Below W.heap.size W W1 := hW1 ▸ bl_al (Below.refl _ _) _
  have hzW : W1.heap.size = W.heap.size + 1 := by rw [← hW1]; simp
  rw [hW1] at hvb ⊢
  have HR1 := Lib.hid (HR.out.later q1)
  have HQ1 := Lib.hid q1
  have g0 : W1.cell? ⟨b, o, none⟩ = some (.slice A1 m c1) := cell_bl q1 x0
  have g1 : W1.cell? ⟨b, o + 1, none⟩ = some (.slice A2 m c2) := cell_bl q1 x1
  have v0 : W1.cell? ⟨W.heap.size, 0, none⟩ = some (.string v.s) := cell_of_blk hvb rfl
  have v1 : W1.cell? ⟨W.heap.size, 1, none⟩ = some (.int .u8 v.k) := cell_of_blk hvb rfl
  have v2 : W1.cell? ⟨W.heap.size, 2, none⟩ = some (.int .i64 v.n) := cell_of_blk hvb rfl
  clear hW1 q1 x0 x1 hbf
  have hSS : (fun w' : World => w'.cell? ⟨W.heap.size, 0, none⟩ = some (.string v.s) ∧ w'.cell? ⟨W.heap.size, 1, none⟩ = some (.int .u8 v.k) ∧ w'.cell? ⟨W.heap.size, 2, none⟩ = some (.int .i64 v.n)) W1.drew ∧ (fun w' : World => w'.cell? ⟨b, o, none⟩ = some (.slice A1 m c1)) W1.drew := ⟨⟨v0, v1, v2⟩, g0⟩
  refine wp_region_noPanic ?_
  refine wp_region_G (fun w' : World => w'.cell? ⟨W.heap.size, 0, none⟩ = some (.string v.s) ∧ w'.cell? ⟨W.heap.size, 1, none⟩ = some (.int .u8 v.k) ∧ w'.cell? ⟨W.heap.size, 2, none⟩ = some (.int .i64 v.n)) (fun w' : World => w'.cell? ⟨b, o, none⟩ = some (.slice A1 m c1)) 7 (by kernel_rfl) ?_
  refine wpG_take1 (i := 0) (v := ?_) rfl (by kernel_rfl) (by kernel_rfl) (by kernel_rfl) (by decide) (fun _ _ _ h => h) (Or.inl ⟨by rfl, ?_⟩) hSS ?_
  rotate_left 1
  · (intro w hSw; (try dsimp only at hSw); (try simp only [List.getElem_toArray, List.getElem_cons_succ, List.getElem_cons_zero]); go_simp; (try with_reducible rfl))
  (try simp only [Act.put, List.getElem_toArray, List.getElem_cons_succ, List.getElem_cons_zero, List.setIfInBounds_toArray, List.set_cons_zero, List.set_cons_succ])
  refine wpG_take1 (i := 1) (v := ?_) rfl (by kernel_rfl) (by kernel_rfl) (by kernel_rfl) (by decide) (fun _ _ _ h => h) (Or.inl ⟨by rfl, ?_⟩) hSS ?_
  rotate_left 1
  · (intro w hSw; (try dsimp only at hSw); (try simp only [List.getElem_toArray, List.getElem_cons_succ, List.getElem_cons_zero]); go_simp; (try with_reducible rfl))
  (try simp only [Act.put, List.getElem_toArray, List.getElem_cons_succ, List.getElem_cons_zero, List.setIfInBounds_toArray, List.set_cons_zero, List.set_cons_succ])
  refine wpG_take1 (i := 2) (v := ?_) rfl (by kernel_rfl) (by kernel_rfl) (by kernel_rfl) (by decide) (fun _ _ _ h => h) (Or.inl ⟨by rfl, ?_⟩) hSS ?_
  rotate_left 1
  · (intro w hSw; (try dsimp only at hSw); (try simp only [List.getElem_toArray, List.getElem_cons_succ, List.getElem_cons_zero]); go_simp; (try with_reducible rfl))
  (try simp only [Act.put, List.getElem_toArray, List.getElem_cons_succ, List.getElem_cons_zero, List.setIfInBounds_toArray, List.set_cons_zero, List.set_cons_succ])
  refine wpG_take1 (i := 3) (v := ?_) rfl (by kernel_rfl) (by kernel_rfl) (by kernel_rfl) (by decide) (fun _ _ _ h => h) (Or.inl ⟨by rfl, ?_⟩) hSS ?_
  rotate_left 1
  · (intro w hSw; (try dsimp only at hSw); (try simp only [List.getElem_toArray, List.getElem_cons_succ, List.getElem_cons_zero]); go_simp; (try with_reducible rfl))
  (try simp only [Act.put, List.getElem_toArray, List.getElem_cons_succ, List.getElem_cons_zero, List.setIfInBounds_toArray, List.set_cons_zero, List.set_cons_succ])
  refine wpG_take2 (i := 4) (v := ?_) rfl (by kernel_rfl) (by kernel_rfl) (by kernel_rfl) (by decide) rfl (by kernel_rfl) (by kernel_rfl) (fun _ _ _ h => h) (Or.inl ⟨by rfl, ?_⟩) hSS ?_
  rotate_left 1
  · (intro w hSw; (try dsimp only at hSw); (try simp only [List.getElem_toArray, List.getElem_cons_succ, List.getElem_cons_zero]); go_simp; (try with_reducible rfl))
  (try simp only [Act.put, List.getElem_toArray, List.getElem_cons_succ, List.getElem_cons_zero, List.setIfInBounds_toArray, List.set_cons_zero, List.set_cons_succ])
  refine wpG_take1 (i := 5) (v := ?_) rfl (by kernel_rfl) (by kernel_rfl) (by kernel_rfl) (by decide) (fun _ _ _ h => h) (Or.inl ⟨by rfl, ?_⟩) hSS ?_
  rotate_left 1
  · (intro w hSw; (try dsimp only at hSw); (try simp only [List.getElem_toArray, List.getElem_cons_succ, List.getElem_cons_zero]); go_simp; (try with_reducible rfl))
  (try simp only [Act.put, List.getElem_toArray, List.getElem_cons_succ, List.getElem_cons_zero, List.setIfInBounds_toArray, List.set_cons_zero, List.set_cons_succ])
  refine wpG_one (i := 6) (by kernel_rfl) rfl (fun K hK => ?_)
  (try simp only [List.getElem_toArray, List.getElem_cons_succ, List.getElem_cons_zero])
  go_simp
  refine hK.out _ _ ⟨⟨cell_al v0 _, cell_al v1 _, cell_al v2 _⟩, cell_al g0 _⟩ ?_
  clear hK K hSS
  (try simp only [Act.put, List.getElem_toArray, List.getElem_cons_succ, List.getElem_cons_zero, List.setIfInBounds_toArray, List.set_cons_zero, List.set_cons_succ])
  obtain ⟨W2, hW2⟩ : ∃ W2, (W1.alloc (.cells #[.string v.s, .int .u8 v.k, .int .i64 v.n] 24)).drew = W2 := ⟨_, rfl⟩
  have q2 : Below W1.heap.size W1 W2 := hW2 ▸ (bl_al (Below.refl _ _) _).drew
  have hzW2 : W2.heap.size = W1.heap.size + 1 := by rw [← hW2]; simp
  have HN2 := Lib.hid (show ∀ j u, [Value.string v.s, .int .u8 v.k, .int .i64 v.n][j]? = some u → W2.cell? ((⟨W.heap.size + 1, 0, none⟩ : Addr).add j) = some u from hzW ▸ hW2 ▸ news_newN W1 24 [.string v.s, .int .u8 v.k, .int .i64 v.n])
  have HR2 := HR1.out.later q2
  have hrv2 : W2.ownsRow n0 24 3 (.slice A1 m c1) m xs := by have := HR2.row iv; rw [hiv] at this; rw [← e1]; exact this
  have w0 : W2.cell? ⟨W.heap.size, 0, none⟩ = some (.string v.s) := cell_bl q2 v0
  have w1 : W2.cell? ⟨W.heap.size, 1, none⟩ = some (.int .u8 v.k) := cell_bl q2 v1
  have w2 : W2.cell? ⟨W.heap.size, 2, none⟩ = some (.int .i64 v.n) := cell_bl q2 v2
  have hn0 := (HR.out.lt i0 b hb)
  rw [hW2]
  clear hW2 v0 v1 v2 g0 g1 hvb
  refine wpG_past (i := 7) (by kernel_rfl) rfl (by kernel_rfl) (fun K hK => ?_)
  refine step_append_own (by rfl) (.tmp 10) (.tmp 12) 25 (by rfl) n0 24 i1 _ 3 32 Try.underlying25 hi1 hz0 hz1 hz2 rfl (by decide) (.slice A1 m c1) m xs (by rfl) hrv2 ⟨W.heap.size + 1, 0, none⟩ 1 1 [.string v.s, .int .u8 v.k, .int .i64 v.n] (by rfl) rfl HN2.out (by intro u hu; simp at hu; rcases hu with rfl | rfl | rfl <;> rfl) (by unfold maxLen; omega) (by omega) (by omega) ?_
  intro vv w3 h2 h3 h5
  obtain ⟨g8, cap8, rfl⟩ := ownsRow_succ h2
  have st1 : Stp n0 d W2 (updR d iv ⟨.slice (some ⟨g8, 0, none⟩) (m + 1) cap8, 24, 3, m + 1, xs ++ [.string v.s, .int .u8 v.k, .int .i64 v.n]⟩) w3 := by
    refine Stp.upd (i := iv) HR2 ((Chg.row h3).mono fun b' _ hb' => by rw [e1]; exact hb') h2 (fun b' hb' => ?_)
    rw [e1]
    rcases h5 with h5 | h5
    · exact .inl (h5 ▸ hb')
    · exact .inr (by rw [h5] at hb'; injection hb' with hb'; omega)
  have hd0 : updR d iv ⟨.slice (some ⟨g8, 0, none⟩) (m + 1) cap8, 24, 3, m + 1, xs ++ [.string v.s, .int .u8 v.k, .int .i64 v.n]⟩ i0 = d i0 := updR_other h01
  have z0 : w3.cell? ⟨b, o, none⟩ = some (.slice A1 m c1) := by rw [← e1]; exact st1.rws.cell i0 (by rw [hd0]; exact hb) (by rw [hd0]; exact hov)
  have zf : w3.frozen? ⟨b, o, none⟩ = false := st1.rws.frozen i0 (by rw [hd0]; exact hb) o
  have hol : o < (d i0).xs.length := (List.getElem?_eq_some_iff.1 hov).1
  have hol1 : o + 1 < (d i0).xs.length := (List.getElem?_eq_some_iff.1 hoc).1
  have st2 := Stp.set (i := i0) st1.rws (g := b) (by rw [hd0]; exact hb) (o := o) (by rw [hd0]; exact hol) (.slice (some ⟨g8, 0, none⟩) (m + 1) cap8)
  rw [hd0] at st2
  have hvn : ∀ b', (Value.slice A1 m c1).ownBlock = some b' → b' ≠ W.heap.size := fun b' hb' e => by
    have := (HR.out.lt iv b' (by rw [e1]; exact hb')).2
    omega
  have y0 : w3.cell? ⟨W.heap.size, 0, none⟩ = some (.string v.s) := (World.cell?_of_block (a := ⟨W.heap.size, 0, none⟩) (h3.block _ (by show W.heap.size < _; omega) (fun e => hvn _ e.symm rfl))).trans w0
  have y1 : w3.cell? ⟨W.heap.size, 1, none⟩ = some (.int .u8 v.k) := (World.cell?_of_block (a := ⟨W.heap.size, 1, none⟩) (h3.block _ (by show W.heap.size < _; omega) (fun e => hvn _ e.symm rfl))).trans w1
  have y2 : w3.cell? ⟨W.heap.size, 2, none⟩ = some (.int .i64 v.n) := (World.cell?_of_block (a := ⟨W.heap.size, 2, none⟩) (h3.block _ (by show W.heap.size < _; omega) (fun e => hvn _ e.symm rfl))).trans w2
  have HST := Lib.hid ((st1.trans st2).after (bl_tt HQ1.out q2) HR.out)
  have HY := Lib.hid (show (fun w' : World => w'.cell? ⟨W.heap.size, 0, none⟩ = some (.string v.s) ∧ w'.cell? ⟨W.heap.size, 1, none⟩ = some (.int .u8 v.k) ∧ w'.cell? ⟨W.heap.size, 2, none⟩ = some (.int .i64 v.n)) w3 from ⟨y0, y1, y2⟩)
  have hbW : b ≠ W.heap.size := by omega
  have HY2 := Lib.hid (show (fun w' : World => w'.cell? ⟨W.heap.size, 0, none⟩ = some (.string v.s) ∧ w'.cell? ⟨W.heap.size, 1, none⟩ = some (.int .u8 v.k) ∧ w'.cell? ⟨W.heap.size, 2, none⟩ = some (.int .i64 v.n)) (w3.setCell ⟨b, o, none⟩ (.slice (some ⟨g8, 0, none⟩) (m + 1) cap8)) from by
    have key : ∀ i u, w3.cell? ⟨W.heap.size, i, none⟩ = some u → (w3.setCell ⟨b, o, none⟩ (.slice (some ⟨g8, 0, none⟩) (m + 1) cap8)).cell? ⟨W.heap.size, i, none⟩ = some u := fun i u hu => (World.cell?_of_block (a := ⟨W.heap.size, i, none⟩) (Below.heap_setCell _ _ _ _ (Ne.symm hbW))).trans hu
    exact ⟨key _ _ y0, key _ _ y1, key _ _ y2⟩)
  refine hK.out _ _ HY.out ?_
  clear hK K h2 h3 h5 st1 st2 w0 w1 w2 hrv2 HR2 q2 HN2 HQ1 HR1 y0 y1 y2
  (try simp only [Act.put, List.getElem_toArray, List.getElem_cons_succ, List.getElem_cons_zero, List.setIfInBounds_toArray, List.set_cons_zero, List.set_cons_succ])
  refine wpG_past (i := 8) (by kernel_rfl) rfl (by kernel_rfl) (fun K hK => ?_)
  (try simp only [List.getElem_toArray, List.getElem_cons_succ, List.getElem_cons_zero])
  go_simp
  refine hK.out _ _ HY.out ?_
  clear hK K
  (try simp only [Act.put, List.getElem_toArray, List.getElem_cons_succ, List.getElem_cons_zero, List.setIfInBounds_toArray, List.set_cons_zero, List.set_cons_succ])
  refine wpG_past (i := 9) (by kernel_rfl) rfl (by kernel_rfl) (fun K hK => ?_)
  (try simp only [List.getElem_toArray, List.getElem_cons_succ, List.getElem_cons_zero])
  go_simp
  refine hK.out _ _ HY.out ?_
  clear hK K
  (try simp only [Act.put, List.getElem_toArray, List.getElem_cons_succ, List.getElem_cons_zero, List.setIfInBounds_toArray, List.set_cons_zero, List.set_cons_succ])
  refine wpG_past (i := 10) (by kernel_rfl) rfl (by kernel_rfl) (fun K hK => ?_)
  (try simp only [List.getElem_toArray, List.getElem_cons_succ, List.getElem_cons_zero])
  go_simp
  refine hK.out _ _ HY2.out ?_
  clear hK K
  (try simp only [Act.put, List.getElem_toArray, List.getElem_cons_succ, List.getElem_cons_zero, List.setIfInBounds_toArray, List.set_cons_zero, List.set_cons_succ])
  refine wpG_done (by kernel_rfl) ?_
  refine NoPanic.normal ?_
  clear HY HY2 z0 zf
  obtain ⟨W4, hW4⟩ : ∃ W4, w3.setCell ⟨b, o, none⟩ (.slice (some ⟨g8, 0, none⟩) (m + 1) cap8) = W4 := ⟨_, rfl⟩
  rw [hW4] at HST ⊢
  obtain ⟨d2, hd2⟩ : ∃ d2, updR (updR d iv ⟨.slice (some ⟨g8, 0, none⟩) (m + 1) cap8, 24, 3, m + 1, xs ++ [.string v.s, .int .u8 v.k, .int .i64 v.n]⟩) i0 { d i0 with xs := (d i0).xs.set o (.slice (some ⟨g8, 0, none⟩) (m + 1) cap8) } = d2 := ⟨_, rfl⟩
  rw [hd2] at HST
  have hd2c : d2 ic = d ic := by rw [← hd2, updR_other (Ne.symm h02), updR_other (Ne.symm h12)]
  have hd20 : d2 i0 = { d i0 with xs := (d i0).xs.set o (.slice (some ⟨g8, 0, none⟩) (m + 1) cap8) } := by rw [← hd2, updR_same]
  have g1 : W4.cell? ⟨b, o + 1, none⟩ = some (.slice A2 m c2) := by
    rw [← e2]
    exact HST.out.rws.cell i0 (by rw [hd20]; exact hb) (by rw [hd20]; show ((d i0).xs.set o _)[o + 1]? = _; rw [List.getElem?_set_ne (by omega)]; exact hoc)
  have HD2 := Lib.hid hd2
  clear hW4 hd0 hd2
  obtain ⟨W5, hW5⟩ : ∃ W5, W4.alloc (.cells #[.pointer q] 79) = W5 := ⟨_, rfl⟩
  have q5 : Below W4.heap.size W4 W5 := hW5 ▸ bl_al (Below.refl _ _) _
  have HN5 := Lib.hid (show ∀ j u, [Value.pointer q][j]? = some u → W5.cell? ((⟨W4.heap.size, 0, none⟩ : Addr).add j) = some u from hW5 ▸ news_newN W4 79 [.pointer q])
  have HR5 := HST.out.rws.later q5
  have hrc5 : W5.ownsRow n0 79 1 (.slice A2 m c2) m ys := by have := HR5.row ic; rw [hd2c, hic] at this; rw [← e2]; exact this
  have hs5 := q5.size
  have hs4 := HST.out.chg.size
  have e2' : (d2 ic).v = .slice A2 m c2 := by rw [hd2c]; exact e2
  have HKEY := Lib.hid (show ∀ (g9 cap9 : Nat) (w6 : World), w6.ownsRow n0 79 1 (.slice (some ⟨g9, 0, none⟩) (m + 1) cap9) (m + 1) (ys ++ [.pointer q]) → W5.grownBy w6 (Value.slice A2 m c2).ownBlock → ((Value.slice (some ⟨g9, 0, none⟩) (m + 1) cap9).ownBlock = (Value.slice A2 m c2).ownBlock ∨ (Value.slice (some ⟨g9, 0, none⟩) (m + 1) cap9).ownBlock = some W5.heap.size) →
      w6.cell? ⟨b, o + 1, none⟩ = some (.slice A2 m c2) ∧ w6.frozen? ⟨b, o + 1, none⟩ = false ∧ Stp n0 d W (updR (updR d2 ic ⟨.slice (some ⟨g9, 0, none⟩) (m + 1) cap9, 79, 1, m + 1, ys ++ [.pointer q]⟩) i0 { d i0 with xs := ((d i0).xs.set o (.slice (some ⟨g8, 0, none⟩) (m + 1) cap8)).set (o + 1) (.slice (some ⟨g9, 0, none⟩) (m + 1) cap9) }) (w6.setCell ⟨b, o + 1, none⟩ (.slice (some ⟨g9, 0, none⟩) (m + 1) cap9)) from fun g9 cap9 w6 h2 h3 h5 => by
    have st1 : Stp n0 d2 W5 (updR d2 ic ⟨.slice (some ⟨g9, 0, none⟩) (m + 1) cap9, 79, 1, m + 1, ys ++ [.pointer q]⟩) w6 := by
      refine Stp.upd (i := ic) HR5 ((Chg.row h3).mono fun b' _ hb' => by rw [e2']; exact hb') h2 (fun b' hb' => ?_)
      rw [e2']
      rcases h5 with h5 | h5
      · exact .inl (h5 ▸ hb')
      · exact .inr (by rw [h5] at hb'; injection hb' with hb'; omega)
    have hd0 : updR d2 ic ⟨.slice (some ⟨g9, 0, none⟩) (m + 1) cap9, 79, 1, m + 1, ys ++ [.pointer q]⟩ i0 = { d i0 with xs := (d i0).xs.set o (.slice (some ⟨g8, 0, none⟩) (m + 1) cap8) } := (updR_other h02).trans hd20
    have z0 : w6.cell? ⟨b, o + 1, none⟩ = some (.slice A2 m c2) := by
      rw [← e2]
      exact st1.rws.cell i0 (by rw [hd0]; exact hb) (by rw [hd0]; show ((d i0).xs.set o _)[o + 1]? = _; rw [List.getElem?_set_ne (by omega)]; exact hoc)
    have zf : w6.frozen? ⟨b, o + 1, none⟩ = false := st1.rws.frozen i0 (by rw [hd0]; exact hb) (o + 1)
    have st2 := Stp.set (i := i0) st1.rws (g := b) (by rw [hd0]; exact hb) (o := o + 1) (by rw [hd0]; simpa using hol1) (.slice (some ⟨g9, 0, none⟩) (m + 1) cap9)
    rw [hd0] at st2
    exact ⟨z0, zf, HST.out.trans ((st1.trans st2).after q5 HST.out.rws)⟩)
  clear HR5 q5 hd2c hd20 e2' hvn
  go_wp2_with (at_builtin; refine wpList_append_own_at (P := Try.prog) _ rfl (.tmp 20) (.tmp 22) 72 rfl n0 79 i2 _ 1 8 Try.underlying72 hi2 hy0 hy1 hy2 rfl (by decide) (.slice A2 m c2) m ys rfl hrc5 ⟨W4.heap.size, 0, none⟩ 1 1 [.pointer q] rfl rfl HN5.out (by intro u hu; simp at hu; rw [hu]; rfl) (by unfold maxLen; omega) (by omega) (by omega) ?_; intro vc w6 h2 h3 h4 h5; obtain ⟨g9, cap9, rfl⟩ := ownsRow_succ h2; obtain ⟨z0, zf, hfin⟩ := HKEY.out g9 cap9 w6 h2 h3 h5; have HFIN := Lib.hid hfin; clear h2 h3 h4 h5 hfin)
  go_end0
  refine ⟨⟨_, rfl⟩, .slice (some ⟨g8, 0, none⟩) (m + 1) cap8, .slice (some ⟨g9, 0, none⟩) (m + 1) cap9, ?_⟩
  have := HFIN.out
  rw [← HD2.out] at this
  refine this.cast ?_
  funext j
  by_cases j0 : j = i0
  · subst j0; simp
  · simp only [updR, j0, if_false]

end Go.Proofs.Ytekjfbnggfbfhaa
