/-
  tape, at the tapes of a store: the contracts of Read, Unread, Write, Unwrite.
-/
import Derived.Test.YtekjfbnggfbfhaaSt
import Derived.Test.YtekjfbnggfbfhaaIn
import Derived.Test.YtekjfbnggfbfhaaRg
namespace Go.Proofs.Ytekjfbnggfbfhaa
open Go Go.RowKit

theorem rows_tin (P : Ph) (S : ST) (vv : Value) (ys : List Int) : rows { P with vI := vv } { S with tin := ys } = updR (updR (rows P S) .tin ⟨vv, 3, 1, ys.length, flatI ys⟩) .tb { rows P S .tb with xs := (rows P S .tb).xs.set 0 vv } := by
  funext r
  cases r with
  | calls => simp only [updR, reduceCtorEq, if_false, rows]; rw [flatF_congr (P := P) (P' := { P with vI := vv }) rfl rfl]
  | _ => simp [updR, rows]
theorem rows_tout (P : Ph) (S : ST) (vv : Value) (ys : List Int) : rows { P with vO := vv } { S with tout := ys } = updR (updR (rows P S) .tout ⟨vv, 3, 1, ys.length, flatI ys⟩) .tb { rows P S .tb with xs := (rows P S .tb).xs.set 1 vv } := by
  funext r
  cases r with
  | calls => simp only [updR, reduceCtorEq, if_false, rows]; rw [flatF_congr (P := P) (P' := { P with vO := vv }) rfl rfl]
  | _ => simp [updR, rows]
theorem WF_tin {S : ST} (h : S.WF) (ys : List Int) (hl : ys.length ≤ 4096) (hy : ∀ x ∈ ys, I64 x) : ({ S with tin := ys } : ST).WF := ⟨h.ex, h.ncalls, h.cells, ⟨hl, hy⟩, h.tout⟩
theorem WF_tout {S : ST} (h : S.WF) (ys : List Int) (hl : ys.length ≤ 4096) (hy : ∀ x ∈ ys, I64 x) : ({ S with tout := ys } : ST).WF := ⟨h.ex, h.ncalls, h.cells, h.tin, ⟨hl, hy⟩⟩

set_option maxHeartbeats 4000000 in
set_option maxRecDepth 100000 in
theorem Read_any {W : World} {n0 : Nat} {P : Ph} {S : ST} (h : SR W n0 P S) : Calls Try.prog 66 #[.pointer (some ⟨P.tb, 0, none⟩)] W fun e W' =>
    (S.tin = [] ∧ e = .returned (.tuple #[.int .i64 0, .int .i64 17]) ∧ Below W.heap.size W W') ∨ (∃ x r, S.tin = x :: r ∧ e = .returned (.tuple #[.int .i64 x, .int .i64 0]) ∧ ∃ vv, SStp n0 P S W { P with vI := vv } { S with tin := r } W') := by
  have HRM := Lib.hid (tremove_any h.rws .tb .tin (by simp) P.tb 0 rfl rfl S.tin rfl h.wf.tin.1 0 0 (fun h => ⟨rfl, h⟩))
  have HWF := Lib.hid h.wf
  clear h
  go_enter Try.func66, Try.ntmps66
  go_wp2_with fail
  refine HRM.out.mono ?_
  rintro e w1 hh
  rcases hh with ⟨h0, rfl, hb⟩ | ⟨h0, rfl, vv, hst⟩
  · have HH := Lib.hid h0
    have HB := Lib.hid hb
    clear h0 hb
    go_wp2_with fail
    go_ret2
    exact .inl ⟨List.length_eq_zero_iff.1 HH.out, rfl, HB.out⟩
  · have HH := Lib.hid h0
    have HST := Lib.hid hst
    clear h0 hst
    go_wp2_with fail
    go_ret2
    refine .inr ?_
    obtain ⟨x, r, hxr⟩ : ∃ x r, S.tin = x :: r := by
      cases hc : S.tin with
      | nil => have := HH.out; rw [hc] at this; simp at this
      | cons x r => exact ⟨x, r, rfl⟩
    have ht := HWF.out.tin
    rw [hxr] at ht
    refine ⟨x, r, hxr, by rw [hxr]; rfl, vv, ⟨HST.out.cast ?_, WF_tin HWF.out r (by have := ht.1; simp at this; omega) fun y hy => ht.2 y (List.mem_cons_of_mem _ hy)⟩⟩
    rw [rows_tin P S vv r, hxr]
    simp

set_option maxHeartbeats 4000000 in
set_option maxRecDepth 100000 in
theorem Unread_any {W : World} {n0 : Nat} {P : Ph} {S : ST} (h : SR W n0 P S) (x : Int) (hx : I64 x) : Calls Try.prog 67 #[.pointer (some ⟨P.tb, 0, none⟩), .int .i64 x] W fun e W' =>
    (4096 ≤ S.tin.length ∧ e = .returned (.int .i64 5) ∧ Below W.heap.size W W') ∨ (S.tin.length < 4096 ∧ e = .returned (.int .i64 0) ∧ ∃ vv, SStp n0 P S W { P with vI := vv } { S with tin := x :: S.tin } W') := by
  have HRM := Lib.hid (tinsert_any h.rws .tb .tin (by simp) P.tb 0 rfl rfl S.tin rfl h.wf.tin.1 0 (Nat.zero_le _) x)
  have HWF := Lib.hid h.wf
  clear h
  go_enter Try.func67, Try.ntmps67
  go_wp2_with fail
  refine HRM.out.mono ?_
  rintro e w1 hh
  rcases hh with ⟨h0, rfl, hb⟩ | ⟨h0, rfl, vv, hst⟩
  · have HH := Lib.hid h0
    have HB := Lib.hid hb
    clear h0 hb
    go_wp2_with fail
    go_ret
    exact .inl ⟨HH.out, rfl, HB.out⟩
  · have HH := Lib.hid h0
    have HST := Lib.hid hst
    clear h0 hst
    go_wp2_with fail
    go_ret
    have ht := HWF.out.tin
    refine .inr ⟨HH.out, rfl, vv, ⟨HST.out.cast ?_, WF_tin HWF.out _ (by have := HH.out; simp; omega) fun y hy => ?_⟩⟩
    · rw [rows_tin P S vv (x :: S.tin)]
      simp
    · rcases List.mem_cons.1 hy with rfl | hy
      · exact hx
      · exact ht.2 y hy

theorem fnTinsert : IsFn Try.prog 76 Try.f76 := ⟨Try.func76, by kernel_rfl, by kernel_rfl⟩
theorem fnTremove : IsFn Try.prog 75 Try.f75 := ⟨Try.func75, by kernel_rfl, by kernel_rfl⟩

set_option maxHeartbeats 4000000 in
set_option maxRecDepth 100000 in
theorem Write_any {W : World} {n0 : Nat} {P : Ph} {S : ST} (h : SR W n0 P S) (x : Int) (hx : I64 x) : Calls Try.prog 69 #[.pointer (some ⟨P.tb, 0, none⟩), .int .i64 x] W fun e W' =>
    (4096 ≤ S.tout.length ∧ e = .returned (.int .i64 5) ∧ Below W.heap.size W W') ∨ (S.tout.length < 4096 ∧ e = .returned (.int .i64 0) ∧ ∃ vv, SStp n0 P S W { P with vO := vv } { S with tout := S.tout ++ [x] } W') := by
  have HRM := Lib.hid (tinsert_any (h.later (Below.refl _ _).drew).rws .tb .tout (by simp) P.tb 1 rfl rfl S.tout rfl h.wf.tout.1 S.tout.length (Nat.le_refl _) x)
  have HWF := Lib.hid h.wf
  have HS := Lib.hid h
  obtain ⟨A, c, hv, hc, -⟩ := row_slice (h.rws.row .tout)
  change P.vO = .slice A S.tout.length c at hv
  have x0 : W.cell? ⟨P.tb, 1, none⟩ = some (.slice A S.tout.length c) := by rw [← hv]; exact cell_of_blk h.tbox rfl
  obtain ⟨n, hn⟩ : ∃ n, S.tout.length = n := ⟨_, rfl⟩
  rw [hn] at x0
  have HN := Lib.hid hn
  have had : Calls Try.prog 76 [.pointer (some ⟨P.tb, 1, none⟩), .int .i64 n, .int .i64 x].toArray W.drew fun e W' => ∃ u, e = .returned u ∧
      ((4096 ≤ n ∧ u = .int .i64 5 ∧ Below W.heap.size W W') ∨ (n < 4096 ∧ u = .int .i64 0 ∧ ∃ vv, SStp n0 P S W { P with vO := vv } { S with tout := S.tout ++ [x] } W')) := by
    rw [← hn]
    refine HRM.out.mono ?_
    rintro e W' hh
    rcases hh with ⟨h0, rfl, hb⟩ | ⟨h0, rfl, vv, hst⟩
    · exact ⟨_, rfl, .inl ⟨h0, rfl, bl_tt (Below.refl _ _).drew hb⟩⟩
    · have ht := HWF.out.tout
      refine ⟨_, rfl, .inr ⟨h0, rfl, vv, ⟨((Stp.after hst (Below.refl _ _).drew HS.out.rws).cast ?_), WF_tout HWF.out _ (by simp; omega) fun y hy => ?_⟩⟩⟩
      · rw [rows_tout P S vv (S.tout ++ [x]), List.take_of_length_le (Nat.le_refl _), List.drop_eq_nil_of_le (Nat.le_refl _)]
        simp
      · simp only [List.mem_append, List.mem_singleton] at hy
        rcases hy with hy | rfl
        · exact ht.2 y hy
        · exact hx
  clear h hv hc hn HRM
  go_enter Try.func69, Try.ntmps69
  go_upto_region 3 with fail
  have hSS : (fun _ : World => True) W.drew ∧ (fun w' : World => w'.cell? ⟨P.tb, 1, none⟩ = some (.slice A n c)) W.drew := ⟨trivial, x0⟩
  refine wp_region_noPanic ?_
  refine wp_region_G (fun _ : World => True) (fun w' : World => w'.cell? ⟨P.tb, 1, none⟩ = some (.slice A n c)) 9 (by kernel_rfl) ?_
  refine wpG_take1 (i := 0) (v := ?_) rfl (by kernel_rfl) (by kernel_rfl) (by kernel_rfl) (by decide) (fun _ _ _ h => h) (Or.inl ⟨by rfl, ?_⟩) hSS ?_
  rotate_left 1
  · (intro w hSw; (try dsimp only at hSw); (try simp only [List.getElem_toArray, List.getElem_cons_zero]); go_simp; (try with_reducible rfl))
  (try simp only [Act.put, List.getElem_toArray, List.getElem_cons_zero, List.setIfInBounds_toArray, List.set_cons_zero, List.set_cons_succ])
  refine wpG_take1 (i := 1) (v := ?_) rfl (by kernel_rfl) (by kernel_rfl) (by kernel_rfl) (by decide) (fun _ _ _ h => h) (Or.inl ⟨by rfl, ?_⟩) hSS ?_
  rotate_left 1
  · (intro w hSw; (try dsimp only at hSw); (try simp only [List.getElem_toArray, List.getElem_cons_succ, List.getElem_cons_zero]); go_simp; (try with_reducible rfl))
  (try simp only [Act.put, List.getElem_toArray, List.getElem_cons_succ, List.getElem_cons_zero, List.setIfInBounds_toArray, List.set_cons_zero, List.set_cons_succ])
  refine wpG_take1 (i := 2) (v := ?_) rfl (by kernel_rfl) (by kernel_rfl) (by kernel_rfl) (by decide) (fun _ _ _ h => h) (Or.inl ⟨by rfl, ?_⟩) hSS ?_
  rotate_left 1
  · (intro w hSw; (try dsimp only at hSw); (try simp only [List.getElem_toArray, List.getElem_cons_succ, List.getElem_cons_zero]); go_simp; (try with_reducible rfl))
  (try simp only [Act.put, List.getElem_toArray, List.getElem_cons_succ, List.getElem_cons_zero, List.setIfInBounds_toArray, List.set_cons_zero, List.set_cons_succ])
  refine wpG_take1 (i := 3) (v := ?_) rfl (by kernel_rfl) (by kernel_rfl) (by kernel_rfl) (by decide) (fun _ _ _ h => h) (Or.inl ⟨by rfl, ?_⟩) hSS ?_
  rotate_left 1
  · (intro w hSw; (try dsimp only at hSw); (try simp only [List.getElem_toArray, List.getElem_cons_succ, List.getElem_cons_zero]); go_simp; (try with_reducible rfl))
  (try simp only [Act.put, List.getElem_toArray, List.getElem_cons_succ, List.getElem_cons_zero, List.setIfInBounds_toArray, List.set_cons_zero, List.set_cons_succ])
  refine wpG_take1 (i := 4) (v := ?_) rfl (by kernel_rfl) (by kernel_rfl) (by kernel_rfl) (by decide) (fun _ _ _ h => h) (Or.inl ⟨by rfl, ?_⟩) hSS ?_
  rotate_left 1
  · (intro w hSw; (try dsimp only at hSw); (try simp only [List.getElem_toArray, List.getElem_cons_succ, List.getElem_cons_zero]); go_simp; (try with_reducible rfl))
  (try simp only [Act.put, List.getElem_toArray, List.getElem_cons_succ, List.getElem_cons_zero, List.setIfInBounds_toArray, List.set_cons_zero, List.set_cons_succ])
  refine wpG_take1 (i := 5) (v := ?_) rfl (by kernel_rfl) (by kernel_rfl) (by kernel_rfl) (by decide) (fun _ _ _ h => h) (Or.inl ⟨by rfl, ?_⟩) hSS ?_
  rotate_left 1
  · (intro w hSw; (try dsimp only at hSw); (try simp only [List.getElem_toArray, List.getElem_cons_succ, List.getElem_cons_zero]); go_simp; (try with_reducible rfl))
  (try simp only [Act.put, List.getElem_toArray, List.getElem_cons_succ, List.getElem_cons_zero, List.setIfInBounds_toArray, List.set_cons_zero, List.set_cons_succ])
  refine wpG_takeC (i := 6) (v := ?_) [7] rfl (by kernel_rfl) (by kernel_rfl) (by kernel_rfl) (by decide) (by kernel_rfl) (by kernel_rfl) (fun _ _ _ h => h) (Or.inl ⟨by rfl, ?_⟩) hSS ?_
  rotate_left 1
  · (intro w hSw; (try dsimp only at hSw); (try simp only [List.getElem_toArray, List.getElem_cons_succ, List.getElem_cons_zero]); go_simp; (try with_reducible rfl))
  (try simp only [Act.put, List.getElem_toArray, List.getElem_cons_succ, List.getElem_cons_zero, List.setIfInBounds_toArray, List.set_cons_zero, List.set_cons_succ])
  refine wpG_take1 (i := 7) (v := ?_) rfl (by kernel_rfl) (by kernel_rfl) (by kernel_rfl) (by decide) (fun _ _ _ h => h) (Or.inl ⟨by rfl, ?_⟩) hSS ?_
  rotate_left 1
  · (intro w hSw; (try dsimp only at hSw); (try simp only [List.getElem_toArray, List.getElem_cons_succ, List.getElem_cons_zero]); go_simp; (try with_reducible rfl))
  (try simp only [Act.put, List.getElem_toArray, List.getElem_cons_succ, List.getElem_cons_zero, List.setIfInBounds_toArray, List.set_cons_zero, List.set_cons_succ])
  refine wpG_take1 (i := 8) (v := ?_) rfl (by kernel_rfl) (by kernel_rfl) (by kernel_rfl) (by decide) (fun _ _ _ h => h) (Or.inl ⟨by rfl, ?_⟩) hSS ?_
  rotate_left 1
  · (intro w hSw; (try dsimp only at hSw); (try simp only [List.getElem_toArray, List.getElem_cons_succ, List.getElem_cons_zero]); go_simp; (try with_reducible rfl))
  (try simp only [Act.put, List.getElem_toArray, List.getElem_cons_succ, List.getElem_cons_zero, List.setIfInBounds_toArray, List.set_cons_zero, List.set_cons_succ])
  refine wpG_past (i := 9) (by kernel_rfl) rfl (by kernel_rfl) (fun K hK => ?_)
  refine step_callL (by rfl) (.func 76) [.tmp 9, .tmp 14, .tmp 15] _ (by rfl) 76 _ fnTinsert (by rfl) _ (by rfl) _ had ?_
  rintro v4 w4 hh
  have HH := Lib.hid hh
  have hv4 : ∃ y, v4 = .int .i64 y := by rcases hh with ⟨_, rfl, _⟩ | ⟨_, rfl, _⟩ <;> exact ⟨_, rfl⟩
  obtain ⟨y, rfl⟩ := hv4
  refine hK.out _ _ trivial ?_
  clear hK K hSS had hh
  (try simp only [Act.put, List.getElem_toArray, List.getElem_cons_succ, List.getElem_cons_zero, List.setIfInBounds_toArray, List.set_cons_zero, List.set_cons_succ])
  refine wpG_past (i := 10) (by kernel_rfl) rfl (by kernel_rfl) (fun K hK => ?_)
  (try simp only [List.getElem_toArray, List.getElem_cons_succ, List.getElem_cons_zero])
  go_simp
  refine hK.out _ _ trivial ?_
  clear hK K
  (try simp only [Act.put, List.getElem_toArray, List.getElem_cons_succ, List.getElem_cons_zero, List.setIfInBounds_toArray, List.set_cons_zero, List.set_cons_succ])
  refine wpG_done (by kernel_rfl) ?_
  refine NoPanic.normal ?_
  go_wp2_with fail
  go_ret
  rcases HH.out with ⟨h0, h1, h2⟩ | ⟨h0, h1, h2⟩
  · exact .inl ⟨by rw [HN.out]; exact h0, by rw [← h1]; rfl, h2⟩
  · exact .inr ⟨by rw [HN.out]; exact h0, by rw [← h1]; rfl, h2⟩

set_option maxHeartbeats 4000000 in
set_option maxRecDepth 100000 in
theorem Unwrite_any {W : World} {n0 : Nat} {P : Ph} {S : ST} (h : SR W n0 P S) : Calls Try.prog 68 #[.pointer (some ⟨P.tb, 0, none⟩)] W fun e W' =>
    (S.tout = [] ∧ e = .returned (.tuple #[.int .i64 0, .int .i64 17]) ∧ Below W.heap.size W W') ∨ (∃ r x, S.tout = r ++ [x] ∧ e = .returned (.tuple #[.int .i64 x, .int .i64 0]) ∧ ∃ vv, SStp n0 P S W { P with vO := vv } { S with tout := r } W') := by
  have HRM := Lib.hid (tremove_any (h.later (Below.refl _ _).drew).rws .tb .tout (by simp) P.tb 1 rfl rfl S.tout rfl h.wf.tout.1 ((S.tout.length : Int) - 1) (S.tout.length - 1) (fun h => ⟨by omega, by omega⟩))
  have HWF := Lib.hid h.wf
  have HS := Lib.hid h
  obtain ⟨A, c, hv, hc, -⟩ := row_slice (h.rws.row .tout)
  change P.vO = .slice A S.tout.length c at hv
  have x0 : W.cell? ⟨P.tb, 1, none⟩ = some (.slice A S.tout.length c) := by rw [← hv]; exact cell_of_blk h.tbox rfl
  have hlen := h.wf.tout.1
  obtain ⟨n, hn⟩ : ∃ n, S.tout.length = n := ⟨_, rfl⟩
  rw [hn] at x0 hlen
  have had : Calls Try.prog 75 [.pointer (some ⟨P.tb, 1, none⟩), .int .i64 ((n : Int) - 1)].toArray W.drew fun e W' => ∃ u, e = .returned u ∧ ∃ a1 a2, u = .tuple #[.int .i64 a1, .int .i64 a2] ∧
      ((S.tout = [] ∧ (a1, a2) = ((0 : Int), (17 : Int)) ∧ Below W.heap.size W W') ∨ (∃ r x, S.tout = r ++ [x] ∧ (a1, a2) = (x, 0) ∧ ∃ vv, SStp n0 P S W { P with vO := vv } { S with tout := r } W')) := by
    rw [← hn]
    refine HRM.out.mono ?_
    rintro e W' hh
    rcases hh with ⟨h0, rfl, hb⟩ | ⟨h0, rfl, vv, hst⟩
    · exact ⟨_, rfl, _, _, rfl, .inl ⟨List.length_eq_zero_iff.1 h0, rfl, bl_tt (Below.refl _ _).drew hb⟩⟩
    · have ht := HWF.out.tout
      obtain ⟨r, x, hrx⟩ : ∃ r x, S.tout = r ++ [x] := ⟨S.tout.dropLast, S.tout.getLast (by intro e; rw [e] at h0; simp at h0), (List.dropLast_concat_getLast _).symm⟩
      rw [hrx] at ht
      refine ⟨_, rfl, _, _, rfl, .inr ⟨r, x, hrx, ?_, vv, ⟨((Stp.after hst (Below.refl _ _).drew HS.out.rws).cast ?_), WF_tout HWF.out _ (by have := ht.1; simp at this; omega) fun y hy => ht.2 y (List.mem_append_left _ hy)⟩⟩⟩
      · rw [hrx]; simp
      · rw [rows_tout P S vv r, hrx]
        simp
  clear h hv hc hn HRM
  have hw1 : IntKind.i64.wrap ((n : Int) - 1) = (n : Int) - 1 := IntWalk.i64_in _ (by omega)
  go_enter Try.func68, Try.ntmps68
  go_upto_region 3 with fail
  have hSS : (fun _ : World => True) W.drew ∧ (fun w' : World => w'.cell? ⟨P.tb, 1, none⟩ = some (.slice A n c)) W.drew := ⟨trivial, x0⟩
  refine wp_region_noPanic ?_
  refine wp_region_G (fun _ : World => True) (fun w' : World => w'.cell? ⟨P.tb, 1, none⟩ = some (.slice A n c)) 9 (by kernel_rfl) ?_
  refine wpG_take1 (i := 0) (v := ?_) rfl (by kernel_rfl) (by kernel_rfl) (by kernel_rfl) (by decide) (fun _ _ _ h => h) (Or.inl ⟨by rfl, ?_⟩) hSS ?_
  rotate_left 1
  · (intro w hSw; (try dsimp only at hSw); (try simp only [List.getElem_toArray, List.getElem_cons_zero]); go_simp; (try with_reducible rfl))
  (try simp only [Act.put, List.getElem_toArray, List.getElem_cons_zero, List.setIfInBounds_toArray, List.set_cons_zero, List.set_cons_succ])
  refine wpG_take1 (i := 1) (v := ?_) rfl (by kernel_rfl) (by kernel_rfl) (by kernel_rfl) (by decide) (fun _ _ _ h => h) (Or.inl ⟨by rfl, ?_⟩) hSS ?_
  rotate_left 1
  · (intro w hSw; (try dsimp only at hSw); (try simp only [List.getElem_toArray, List.getElem_cons_succ, List.getElem_cons_zero]); go_simp; (try with_reducible rfl))
  (try simp only [Act.put, List.getElem_toArray, List.getElem_cons_succ, List.getElem_cons_zero, List.setIfInBounds_toArray, List.set_cons_zero, List.set_cons_succ])
  refine wpG_take1 (i := 2) (v := ?_) rfl (by kernel_rfl) (by kernel_rfl) (by kernel_rfl) (by decide) (fun _ _ _ h => h) (Or.inl ⟨by rfl, ?_⟩) hSS ?_
  rotate_left 1
  · (intro w hSw; (try dsimp only at hSw); (try simp only [List.getElem_toArray, List.getElem_cons_succ, List.getElem_cons_zero]); go_simp; (try with_reducible rfl))
  (try simp only [Act.put, List.getElem_toArray, List.getElem_cons_succ, List.getElem_cons_zero, List.setIfInBounds_toArray, List.set_cons_zero, List.set_cons_succ])
  refine wpG_take1 (i := 3) (v := ?_) rfl (by kernel_rfl) (by kernel_rfl) (by kernel_rfl) (by decide) (fun _ _ _ h => h) (Or.inl ⟨by rfl, ?_⟩) hSS ?_
  rotate_left 1
  · (intro w hSw; (try dsimp only at hSw); (try simp only [List.getElem_toArray, List.getElem_cons_succ, List.getElem_cons_zero]); go_simp; (try with_reducible rfl))
  (try simp only [Act.put, List.getElem_toArray, List.getElem_cons_succ, List.getElem_cons_zero, List.setIfInBounds_toArray, List.set_cons_zero, List.set_cons_succ])
  refine wpG_take1 (i := 4) (v := ?_) rfl (by kernel_rfl) (by kernel_rfl) (by kernel_rfl) (by decide) (fun _ _ _ h => h) (Or.inl ⟨by rfl, ?_⟩) hSS ?_
  rotate_left 1
  · (intro w hSw; (try dsimp only at hSw); (try simp only [List.getElem_toArray, List.getElem_cons_succ, List.getElem_cons_zero]); go_simp; (try with_reducible rfl))
  (try simp only [Act.put, List.getElem_toArray, List.getElem_cons_succ, List.getElem_cons_zero, List.setIfInBounds_toArray, List.set_cons_zero, List.set_cons_succ])
  refine wpG_take1 (i := 5) (v := ?_) rfl (by kernel_rfl) (by kernel_rfl) (by kernel_rfl) (by decide) (fun _ _ _ h => h) (Or.inl ⟨by rfl, ?_⟩) hSS ?_
  rotate_left 1
  · (intro w hSw; (try dsimp only at hSw); (try simp only [List.getElem_toArray, List.getElem_cons_succ, List.getElem_cons_zero]); go_simp; (try with_reducible rfl))
  (try simp only [Act.put, List.getElem_toArray, List.getElem_cons_succ, List.getElem_cons_zero, List.setIfInBounds_toArray, List.set_cons_zero, List.set_cons_succ])
  refine wpG_takeC (i := 6) (v := ?_) [7, 8] rfl (by kernel_rfl) (by kernel_rfl) (by kernel_rfl) (by decide) (by kernel_rfl) (by kernel_rfl) (fun _ _ _ h => h) (Or.inl ⟨by rfl, ?_⟩) hSS ?_
  rotate_left 1
  · (intro w hSw; (try dsimp only at hSw); (try simp only [List.getElem_toArray, List.getElem_cons_succ, List.getElem_cons_zero]); go_simp; (try with_reducible rfl))
  (try simp only [Act.put, List.getElem_toArray, List.getElem_cons_succ, List.getElem_cons_zero, List.setIfInBounds_toArray, List.set_cons_zero, List.set_cons_succ])
  refine wpG_take1 (i := 7) (v := ?_) rfl (by kernel_rfl) (by kernel_rfl) (by kernel_rfl) (by decide) (fun _ _ _ h => h) (Or.inl ⟨by rfl, ?_⟩) hSS ?_
  rotate_left 1
  · (intro w hSw; (try dsimp only at hSw); (try simp only [List.getElem_toArray, List.getElem_cons_succ, List.getElem_cons_zero]); go_simp; (try with_reducible rfl))
  (try simp only [Act.put, List.getElem_toArray, List.getElem_cons_succ, List.getElem_cons_zero, List.setIfInBounds_toArray, List.set_cons_zero, List.set_cons_succ])
  refine wpG_take1 (i := 8) (v := ?_) rfl (by kernel_rfl) (by kernel_rfl) (by kernel_rfl) (by decide) (fun _ _ _ h => h) (Or.inl ⟨by rfl, ?_⟩) hSS ?_
  rotate_left 1
  · (intro w hSw; (try dsimp only at hSw); (try simp only [List.getElem_toArray, List.getElem_cons_succ, List.getElem_cons_zero]); go_simp; (try with_reducible rfl))
  (try simp only [Act.put, List.getElem_toArray, List.getElem_cons_succ, List.getElem_cons_zero, List.setIfInBounds_toArray, List.set_cons_zero, List.set_cons_succ])
  refine wpG_past (i := 9) (by kernel_rfl) rfl (by kernel_rfl) (fun K hK => ?_)
  refine step_callL (by rfl) (.func 75) [.tmp 8, .tmp 14] _ (by rfl) 75 _ fnTremove (by rfl) _ (by rfl) _ had ?_
  rintro v4 w4 ⟨a1, a2, rfl, hh⟩
  have HH := Lib.hid hh
  refine hK.out _ _ trivial ?_
  clear hK K hSS had hh
  (try simp only [Act.put, List.getElem_toArray, List.getElem_cons_succ, List.getElem_cons_zero, List.setIfInBounds_toArray, List.set_cons_zero, List.set_cons_succ])
  refine wpG_takeP (i := 10) (v := ?_) rfl (by kernel_rfl) (by kernel_rfl) (by kernel_rfl) (by decide) (by kernel_rfl) (fun _ _ _ h => h) (Or.inl ⟨by rfl, ?_⟩) trivial ?_
  rotate_left 1
  · (intro w hSw; (try dsimp only at hSw); (try simp only [List.getElem_toArray, List.getElem_cons_succ, List.getElem_cons_zero]); go_simp; (try with_reducible rfl))
  (try simp only [Act.put, List.getElem_toArray, List.getElem_cons_succ, List.getElem_cons_zero, List.setIfInBounds_toArray, List.set_cons_zero, List.set_cons_succ])
  refine wpG_takeP (i := 11) (v := ?_) rfl (by kernel_rfl) (by kernel_rfl) (by kernel_rfl) (by decide) (by kernel_rfl) (fun _ _ _ h => h) (Or.inl ⟨by rfl, ?_⟩) trivial ?_
  rotate_left 1
  · (intro w hSw; (try dsimp only at hSw); (try simp only [List.getElem_toArray, List.getElem_cons_succ, List.getElem_cons_zero]); go_simp; (try with_reducible rfl))
  (try simp only [Act.put, List.getElem_toArray, List.getElem_cons_succ, List.getElem_cons_zero, List.setIfInBounds_toArray, List.set_cons_zero, List.set_cons_succ])
  refine wpG_past (i := 12) (by kernel_rfl) rfl (by kernel_rfl) (fun K hK => ?_)
  (try simp only [List.getElem_toArray, List.getElem_cons_succ, List.getElem_cons_zero])
  go_simp
  refine hK.out _ _ trivial ?_
  clear hK K
  (try simp only [Act.put, List.getElem_toArray, List.getElem_cons_succ, List.getElem_cons_zero, List.setIfInBounds_toArray, List.set_cons_zero, List.set_cons_succ])
  refine wpG_past (i := 13) (by kernel_rfl) rfl (by kernel_rfl) (fun K hK => ?_)
  (try simp only [List.getElem_toArray, List.getElem_cons_succ, List.getElem_cons_zero])
  go_simp
  refine hK.out _ _ trivial ?_
  clear hK K
  (try simp only [Act.put, List.getElem_toArray, List.getElem_cons_succ, List.getElem_cons_zero, List.setIfInBounds_toArray, List.set_cons_zero, List.set_cons_succ])
  refine wpG_done (by kernel_rfl) ?_
  refine NoPanic.normal ?_
  go_wp2_with fail
  go_ret2
  rcases HH.out with ⟨h0, h1, h2⟩ | ⟨r, x, h0, h1, h2⟩
  · injection h1 with e1 e2
    subst e1 e2
    exact .inl ⟨h0, rfl, h2⟩
  · injection h1 with e1 e2
    subst e1 e2
    exact .inr ⟨r, a1, h0, rfl, h2⟩

end Go.Proofs.Ytekjfbnggfbfhaa
