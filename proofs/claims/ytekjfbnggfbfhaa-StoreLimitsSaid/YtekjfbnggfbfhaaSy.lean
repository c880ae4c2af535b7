/-
  store: the contract of Leave.
-/
import Derived.Test.YtekjfbnggfbfhaaSx
import Derived.IntWalk
namespace Go.Proofs.Ytekjfbnggfbfhaa
open Go Go.RowKit

/-- A step of the store. -/
structure SStp (n0 : Nat) (P : Ph) (S : ST) (W : World) (P' : Ph) (S' : ST) (W' : World) : Prop where
  st : Stp n0 (rows P S) W (rows P' S') W'
  wf : S'.WF
theorem SStp.sr {n0 : Nat} {P P' : Ph} {S S' : ST} {W W' : World} (h : SStp n0 P S W P' S' W') : SR W' n0 P' S' := ⟨h.st.rws, h.wf⟩
theorem SStp.trans {n0 : Nat} {P P' P'' : Ph} {S S' S'' : ST} {W W' W'' : World} (h : SStp n0 P S W P' S' W') (h' : SStp n0 P' S' W' P'' S'' W'') : SStp n0 P S W P'' S'' W'' := ⟨h.st.trans h'.st, h'.wf⟩
theorem SStp.refl {n0 : Nat} {P : Ph} {S : ST} {W W' : World} (h : SR W n0 P S) (hb : Below W.heap.size W W') : SStp n0 P S W P S W' := ⟨(Stp.refl h.rws).below hb, h.wf⟩

theorem ownsRow_nilR (w : World) (n0 : Nat) : w.ownsRow n0 nilR.E nilR.sz nilR.v nilR.n nilR.xs := ⟨rfl, .inl ⟨rfl, rfl⟩⟩
/-- A row is given up. -/
theorem Stp.drop {I : Type} [DecidableEq I] {n0 : Nat} {d : I → RowD} {W : World} (h : Rws W n0 d) (i : I) : Stp n0 d W (updR d i nilR) W :=
  Stp.upd h (Chg.refl _ _) (ownsRow_nilR W n0) (fun b hb => by simp [nilR, Value.ownBlock] at hb)
theorem flatF_congr {P P' : Ph} (h1 : P'.fV = P.fV) (h2 : P'.fC = P.fC) : ∀ (fs : List FR) (i : Nat), flatF P' i fs = flatF P i fs
  | [], _ => rfl
  | f :: fs, i => by simp [flatF, h1, h2, flatF_congr h1 h2 fs]
theorem flatF_take (P : Ph) : ∀ (fs : List FR) (i m : Nat), (flatF P i fs).take (m * 3) = flatF P i (fs.take m)
  | [], i, m => by simp [flatF]
  | f :: fs, i, 0 => by simp [flatF]
  | f :: fs, i, m + 1 => by
    rw [show (m + 1) * 3 = m * 3 + 1 + 1 + 1 by omega]
    simp only [flatF, List.take_succ_cons, flatF_take P fs (i + 1) m]

/-- Store.Leave. -/
def leaveE (S : ST) : Int × ST := if S.calls.length = 0 ∨ 0 < S.cur.loc then (20, S) else (0, { S with calls := S.calls.take (S.calls.length - 1) })
theorem WF_leave {S : ST} (h : S.WF) : ({ S with calls := S.calls.take (S.calls.length - 1) } : ST).WF := by
  obtain ⟨kd, h1, h2, h3⟩ := h.ex
  exact ⟨⟨kd, h1, fun f hf => h2 f (List.mem_of_mem_take hf), h3⟩, by have := h.ncalls; simp; omega, h.cells, h.tin, h.tout⟩

theorem leave_rows {W : World} {n0 : Nat} {P : Ph} {S : ST} (h : SR W n0 P S) (m c : Nat) (hm : S.calls.length = m + 1) (hv : P.vF = .slice (some ⟨P.gF, 0, none⟩) (m + 1) c) :
    SStp n0 P S W { P with vF := .slice (some ⟨P.gF, 0, none⟩) m c } { S with calls := S.calls.take (S.calls.length - 1) } (W.setCell ⟨P.sb, 3, none⟩ (.slice (some ⟨P.gF, 0, none⟩) m c)) := by
  refine ⟨?_, WF_leave h.wf⟩
  have hrow : W.ownsRow n0 74 3 P.vF S.calls.length (flatF P 0 S.calls) := h.rws.row .calls
  have hpop : W.ownsRow n0 74 3 (.slice (some ⟨P.gF, 0, none⟩) m c) m (flatF P 0 (S.calls.take m)) := by
    rw [hv, hm] at hrow
    have e1 : flatF P 0 S.calls = flatF P 0 (S.calls.take m) ++ (flatF P 0 S.calls).drop (m * 3) := by rw [← flatF_take, List.take_append_drop]
    rw [e1] at hrow
    exact ownsRow_pop (by rw [flatF_len]; simp [hm]) hrow
  have st1 : Stp n0 (rows P S) W (updR (rows P S) .calls ⟨.slice (some ⟨P.gF, 0, none⟩) m c, 74, 3, m, flatF P 0 (S.calls.take m)⟩) W :=
    Stp.upd h.rws (Chg.refl _ _) hpop (fun b hb => .inl (by show P.vF.ownBlock = some b; rw [hv]; exact hb))
  have st2 := Stp.set (i := Res.sb) st1.rws (g := P.sb) (by rw [updR_other (by simp)]; rfl) (o := 3) (by rw [updR_other (by simp)]; simp [rows]) (.slice (some ⟨P.gF, 0, none⟩) m c)
  have st3 := Stp.drop st2.rws (Res.fv m)
  have st4 := Stp.drop st3.rws (Res.fc m)
  refine (((st1.trans st2).trans st3).trans st4).cast ?_
  have hm1 : S.calls.length - 1 = m := by omega
  funext r
  cases r with
  | fv i =>
    by_cases e : i = m
    · subst e
      have h2 : (S.calls.take (S.calls.length - 1))[i]? = none := List.getElem?_eq_none (by rw [List.length_take]; omega)
      simp [updR, rows, nilR, h2]
    · simp only [updR, Res.fv.injEq, e, reduceCtorEq, if_false, rows, hm1]
      by_cases hi : i < m
      · simp [hi]
      · have h1 : S.calls[i]? = none := List.getElem?_eq_none (by omega)
        have h2 : (S.calls.take m)[i]? = none := List.getElem?_eq_none (by rw [List.length_take]; omega)
        rw [h1, h2]
  | fc i =>
    by_cases e : i = m
    · subst e
      have h2 : (S.calls.take (S.calls.length - 1))[i]? = none := List.getElem?_eq_none (by rw [List.length_take]; omega)
      simp [updR, rows, nilR, h2]
    · simp only [updR, Res.fc.injEq, e, reduceCtorEq, if_false, rows, hm1]
      by_cases hi : i < m
      · simp [hi]
      · have h1 : S.calls[i]? = none := List.getElem?_eq_none (by omega)
        have h2 : (S.calls.take m)[i]? = none := List.getElem?_eq_none (by rw [List.length_take]; omega)
        rw [h1, h2]
  | calls =>
    simp only [updR, reduceCtorEq, if_false, if_true, rows, hm1]
    simp only [List.length_take, hm]
    rw [flatF_congr (P := P) (P' := { P with vF := .slice (some ⟨P.gF, 0, none⟩) m c }) rfl rfl]
    simp
  | sb => simp [updR, rows]
  | tb => simp [updR, rows]
  | tin => simp [updR, rows]
  | tout => simp [updR, rows]
  | bv => simp [updR, rows]
  | bc => simp [updR, rows]
  | cb i => simp [updR, rows]
  | ci i => simp [updR, rows]
  | x i => simp [updR, rows]

set_option maxHeartbeats 4000000 in
set_option maxRecDepth 100000 in
theorem Leave_any {W : World} {n0 : Nat} {P : Ph} {S : ST} (h : SR W n0 P S) : Calls Try.prog 20 #[.pointer (some ⟨P.sb, 0, none⟩)] W fun e W' => e = .returned (.int .i64 (leaveE S).1) ∧ ∃ P', SStp n0 P S W P' (leaveE S).2 W' ∧ P'.sb = P.sb := by
  obtain ⟨A, c, hvF, hc, h2⟩ := h.calls
  have hx : W.cell? ⟨P.sb, 3, none⟩ = some (.slice A S.calls.length c) := by rw [← hvF]; exact cell_of_blk h.box rfl
  have hfz : W.frozen? ⟨P.sb, 3, none⟩ = false := frozen_of_blk h.box
  have hcal := h.wf.ncalls
  have HS := Lib.hid h
  have HCU := Lib.hid (current_any h)
  obtain ⟨h3, h4, h5⟩ := h.cur3
  obtain ⟨L, hL⟩ : ∃ L, S.calls.length = L := ⟨_, rfl⟩
  obtain ⟨lc, hlc⟩ : ∃ lc, S.cur.loc = lc := ⟨_, rfl⟩
  obtain ⟨cp, hcp⟩ : ∃ cp, curP P S = cp := ⟨_, rfl⟩
  rw [hcp] at h5 HCU
  rw [hlc] at h5
  obtain ⟨R, hR⟩ : ∃ R, leaveE S = R := ⟨_, rfl⟩
  rw [hR]
  have HR := Lib.hid (show R = if L = 0 ∨ 0 < lc then (20, S) else (0, { S with calls := S.calls.take (S.calls.length - 1) }) by rw [← hR, leaveE, hL, hlc])
  have HVF := Lib.hid hvF
  have HL := Lib.hid hL
  have H2 := Lib.hid h2
  rw [hL] at hx hcal
  rw [hL] at hc
  clear h hvF h2 h3 h4 hL hlc hcp hR
  rcases Nat.eq_zero_or_pos L with h0 | h0
  · subst h0
    have HX := Lib.hid (show R = (20, S) by rw [HR.out, if_pos (.inl rfl)])
    clear HR
    go_enter Try.func20, Try.ntmps20
    go_wp2_with fail
    go_ret
    exact ⟨by rw [HX.out]; rfl, P, by rw [HX.out]; exact SStp.refl HS.out (Below.refl _ _), rfl⟩
  · obtain ⟨m, rfl⟩ : ∃ m, L = m + 1 := ⟨L - 1, by omega⟩
    obtain ⟨rfl, -⟩ := H2.out (by rw [HL.out]; exact h0)
    by_cases hl : 0 < lc
    · have HX := Lib.hid (show R = (20, S) by rw [HR.out, if_pos (.inr hl)])
      have hl' : (0 : Int) < (lc : Int) := by omega
      clear HR
      go_enter Try.func20, Try.ntmps20
      go_wp2_with fail
      refine HCU.out.mono ?_
      rintro e w1 ⟨rfl, rfl⟩
      go_wp2_with fail
      go_ret
      exact ⟨by rw [HX.out]; rfl, P, by rw [HX.out]; exact SStp.refl HS.out (Below.refl _ _), rfl⟩
    · obtain rfl : lc = 0 := by omega
      have HX := Lib.hid (show R = (0, { S with calls := S.calls.take (S.calls.length - 1) }) by rw [HR.out, if_neg (by omega)])
      have HFN := Lib.hid (leave_rows (HS.out.later (Below.refl _ _).drew) m c HL.out (by rw [HVF.out, HL.out]))
      clear HR
      go_enter Try.func20, Try.ntmps20
      go_wp2_with fail
      refine HCU.out.mono ?_
      rintro e w1 ⟨rfl, rfl⟩
      go_upto_region 5 with fail
      have hSS : (fun _ : World => True) w1.drew ∧ (fun w' : World => w'.cell? ⟨P.sb, 3, none⟩ = some (.slice (some ⟨P.gF, 0, none⟩) (m + 1) c)) w1.drew := ⟨trivial, hx⟩
      have hm1 : (m : Int) ≤ (c : Int) := by omega
      have hm0 : (0 : Int) ≤ (m : Int) := by omega
      have hw1 : IntKind.i64.wrap (m : Int) = (m : Int) := IntWalk.i64_in _ (by omega)
      refine wp_region_noPanic ?_
      refine wp_region_G (fun _ : World => True) (fun w' : World => w'.cell? ⟨P.sb, 3, none⟩ = some (.slice (some ⟨P.gF, 0, none⟩) (m + 1) c)) 14 (by kernel_rfl) ?_
      refine wpG_take1 (i := 0) (v := ?_) rfl (by kernel_rfl) (by kernel_rfl) (by kernel_rfl) (by decide) (fun _ _ _ h => h) (Or.inl ⟨by rfl, ?_⟩) hSS ?_
      rotate_left 1
      · (intro w hSw; (try dsimp only at hSw); (try simp only [List.getElem_toArray, List.getElem_cons_succ, List.getElem_cons_zero]); go_simp; (try with_reducible rfl))
      (try simp only [Act.put, List.getElem_toArray, List.getElem_cons_succ, List.getElem_cons_zero, List.setIfInBounds_toArray, List.set_cons_zero, List.set_cons_succ])
      refine wpG_take1 (i := 1) (v := ?_) rfl (by kernel_rfl) (by kernel_rfl) (by kernel_rfl) (by decide) (fun _ _ _ h => h) (Or.inl ⟨by rfl, ?_⟩) hSS ?_
      rotate_left 1
      · (intro w hSw; (try dsimp only at hSw); (try simp only [List.getElem_toArray, List.getElem_cons_succ, List.getElem_cons_zero]); go_simp; (try with_reducible rfl))
      (try simp only [Act.put, List.getElem_toArray, List.getElem_cons_succ, List.getElem_cons_zero, List.setIfInBounds_toArray, List.set_cons_zero, List.set_cons_succ])
      refine wpG_take1 (i := 2) (v := ?_) rfl (by kernel_rfl) (by kernel_rfl) (by kernel_rfl) (by decide) (fun _ _ _ h => h) (Or.inl ⟨by rfl, ?_⟩) hSS ?_
      rotate_left 1
      · (intro w hSw; (try dsimp only at hSw); (try simp only [List.getElem_toArray, List.getElem_cons_succ, List.getElem_cons_zero]); go_simp; (try with_reducible rfl))
      (try simp only [Act.put, List.getElem_toArray, List.getElem_cons_succ, List.getElem_cons_zero, List.setIfInBounds_toArray, List.set_cons_zero, List.set_cons_succ])
      refine wpG_take1 (i := 3) (v := ?_) rfl (by kernel_rfl) (by kernel_rfl) (by kernel_rfl) (by decide) (fun _ _ _ h => h) (Or.inl ⟨by rfl, ?_⟩) hSS ?_
      rotate_left 1
      · (intro w hSw; (try dsimp only at hSw); (try simp only [List.getElem_toArray, List.getElem_cons_succ, List.getElem_cons_zero]); go_simp; (try with_reducible rfl))
      (try simp only [Act.put, List.getElem_toArray, List.getElem_cons_succ, List.getElem_cons_zero, List.setIfInBounds_toArray, List.set_cons_zero, List.set_cons_succ])
      refine wpG_take2 (i := 4) (v := ?_) rfl (by kernel_rfl) (by kernel_rfl) (by kernel_rfl) (by decide) rfl (by kernel_rfl) (by kernel_rfl) (fun _ _ _ h => h) (Or.inl ⟨by rfl, ?_⟩) hSS ?_
      rotate_left 1
      · (intro w hSw; (try dsimp only at hSw); (try simp only [List.getElem_toArray, List.getElem_cons_succ, List.getElem_cons_zero]); go_simp; (try with_reducible rfl))
      (try simp only [Act.put, List.getElem_toArray, List.getElem_cons_succ, List.getElem_cons_zero, List.setIfInBounds_toArray, List.set_cons_zero, List.set_cons_succ])
      refine wpG_take1 (i := 5) (v := ?_) rfl (by kernel_rfl) (by kernel_rfl) (by kernel_rfl) (by decide) (fun _ _ _ h => h) (Or.inl ⟨by rfl, ?_⟩) hSS ?_
      rotate_left 1
      · (intro w hSw; (try dsimp only at hSw); (try simp only [List.getElem_toArray, List.getElem_cons_succ, List.getElem_cons_zero]); go_simp; (try with_reducible rfl))
      (try simp only [Act.put, List.getElem_toArray, List.getElem_cons_succ, List.getElem_cons_zero, List.setIfInBounds_toArray, List.set_cons_zero, List.set_cons_succ])
      refine wpG_take1 (i := 6) (v := ?_) rfl (by kernel_rfl) (by kernel_rfl) (by kernel_rfl) (by decide) (fun _ _ _ h => h) (Or.inl ⟨by rfl, ?_⟩) hSS ?_
      rotate_left 1
      · (intro w hSw; (try dsimp only at hSw); (try simp only [List.getElem_toArray, List.getElem_cons_succ, List.getElem_cons_zero]); go_simp; (try with_reducible rfl))
      (try simp only [Act.put, List.getElem_toArray, List.getElem_cons_succ, List.getElem_cons_zero, List.setIfInBounds_toArray, List.set_cons_zero, List.set_cons_succ])
      refine wpG_take1 (i := 7) (v := ?_) rfl (by kernel_rfl) (by kernel_rfl) (by kernel_rfl) (by decide) (fun _ _ _ h => h) (Or.inl ⟨by rfl, ?_⟩) hSS ?_
      rotate_left 1
      · (intro w hSw; (try dsimp only at hSw); (try simp only [List.getElem_toArray, List.getElem_cons_succ, List.getElem_cons_zero]); go_simp; (try with_reducible rfl))
      (try simp only [Act.put, List.getElem_toArray, List.getElem_cons_succ, List.getElem_cons_zero, List.setIfInBounds_toArray, List.set_cons_zero, List.set_cons_succ])
      refine wpG_take2 (i := 8) (v := ?_) rfl (by kernel_rfl) (by kernel_rfl) (by kernel_rfl) (by decide) rfl (by kernel_rfl) (by kernel_rfl) (fun _ _ _ h => h) (Or.inl ⟨by rfl, ?_⟩) hSS ?_
      rotate_left 1
      · (intro w hSw; (try dsimp only at hSw); (try simp only [List.getElem_toArray, List.getElem_cons_succ, List.getElem_cons_zero]); go_simp; (try with_reducible rfl))
      (try simp only [Act.put, List.getElem_toArray, List.getElem_cons_succ, List.getElem_cons_zero, List.setIfInBounds_toArray, List.set_cons_zero, List.set_cons_succ])
      refine wpG_take1 (i := 9) (v := ?_) rfl (by kernel_rfl) (by kernel_rfl) (by kernel_rfl) (by decide) (fun _ _ _ h => h) (Or.inl ⟨by rfl, ?_⟩) hSS ?_
      rotate_left 1
      · (intro w hSw; (try dsimp only at hSw); (try simp only [List.getElem_toArray, List.getElem_cons_succ, List.getElem_cons_zero]); go_simp; (try with_reducible rfl))
      (try simp only [Act.put, List.getElem_toArray, List.getElem_cons_succ, List.getElem_cons_zero, List.setIfInBounds_toArray, List.set_cons_zero, List.set_cons_succ])
      refine wpG_take1 (i := 10) (v := ?_) rfl (by kernel_rfl) (by kernel_rfl) (by kernel_rfl) (by decide) (fun _ _ _ h => h) (Or.inl ⟨by rfl, ?_⟩) hSS ?_
      rotate_left 1
      · (intro w hSw; (try dsimp only at hSw); (try simp only [List.getElem_toArray, List.getElem_cons_succ, List.getElem_cons_zero]); go_simp; (try with_reducible rfl))
      (try simp only [Act.put, List.getElem_toArray, List.getElem_cons_succ, List.getElem_cons_zero, List.setIfInBounds_toArray, List.set_cons_zero, List.set_cons_succ])
      refine wpG_take1 (i := 11) (v := ?_) rfl (by kernel_rfl) (by kernel_rfl) (by kernel_rfl) (by decide) (fun _ _ _ h => h) (Or.inl ⟨by rfl, ?_⟩) hSS ?_
      rotate_left 1
      · (intro w hSw; (try dsimp only at hSw); (try simp only [List.getElem_toArray, List.getElem_cons_succ, List.getElem_cons_zero]); go_simp; (try with_reducible rfl))
      (try simp only [Act.put, List.getElem_toArray, List.getElem_cons_succ, List.getElem_cons_zero, List.setIfInBounds_toArray, List.set_cons_zero, List.set_cons_succ])
      refine wpG_take1 (i := 12) (v := ?_) rfl (by kernel_rfl) (by kernel_rfl) (by kernel_rfl) (by decide) (fun _ _ _ h => h) (Or.inl ⟨by rfl, ?_⟩) hSS ?_
      rotate_left 1
      · (intro w hSw; (try dsimp only at hSw); (try simp only [List.getElem_toArray, List.getElem_cons_succ, List.getElem_cons_zero]); go_simp; (try with_reducible rfl))
      (try simp only [Act.put, List.getElem_toArray, List.getElem_cons_succ, List.getElem_cons_zero, List.setIfInBounds_toArray, List.set_cons_zero, List.set_cons_succ])
      refine wpG_take1 (i := 13) (v := ?_) rfl (by kernel_rfl) (by kernel_rfl) (by kernel_rfl) (by decide) (fun _ _ _ h => h) (Or.inl ⟨by rfl, ?_⟩) hSS ?_
      rotate_left 1
      · (intro w hSw; (try dsimp only at hSw); (try simp only [List.getElem_toArray, List.getElem_cons_succ, List.getElem_cons_zero]); go_simp; (try with_reducible rfl))
      (try simp only [Act.put, List.getElem_toArray, List.getElem_cons_succ, List.getElem_cons_zero, List.setIfInBounds_toArray, List.set_cons_zero, List.set_cons_succ])
      refine wpG_past (i := 14) (by kernel_rfl) rfl (by kernel_rfl) (fun K hK => ?_)
      (try simp only [List.getElem_toArray, List.getElem_cons_succ, List.getElem_cons_zero])
      have hx1 : w1.drew.cell? ⟨P.sb, 3, none⟩ = some (.slice (some ⟨P.gF, 0, none⟩) (m + 1) c) := hx
      have hfz1 : w1.drew.frozen? ⟨P.sb, 3, none⟩ = false := hfz
      go_simp
      refine hK.out _ _ trivial ?_
      clear hK K hSS hx1 hfz1
      (try simp only [Act.put, List.getElem_toArray, List.getElem_cons_succ, List.getElem_cons_zero, List.setIfInBounds_toArray, List.set_cons_zero, List.set_cons_succ])
      refine wpG_done (by kernel_rfl) ?_
      refine NoPanic.normal ?_
      clear hx hfz
      go_wp2_with fail
      go_ret
      refine ⟨by rw [HX.out]; rfl, { P with vF := .slice (some ⟨P.gF, 0, none⟩) m c }, ?_, rfl⟩
      rw [HX.out]
      exact ⟨HFN.out.st.after (Below.refl _ _).drew HS.out.rws, HFN.out.wf⟩

end Go.Proofs.Ytekjfbnggfbfhaa
