/-
  tape: the contracts of New, In, Out.
-/
import Derived.Test.YtekjfbnggfbfhaaSq
import Derived.Test.YtekjfbnggfbfhaaSs
import Derived.IntWalk
namespace Go.Proofs.Ytekjfbnggfbfhaa
open Go Go.RowKit

theorem buildTp (a0 a1 : Value) (w : World) (h0 : ∃ A l c, a0 = .slice A l c) (h1 : ∃ A l c, a1 = .slice A l c) : (Instr.build 93 #[(0, a0), (1, a1)]).run Try.prog w = .ok (.agg #[a0, a1]) w := by
  obtain ⟨A, l, c, rfl⟩ := h0
  obtain ⟨A', l', c', rfl⟩ := h1
  kernel_rfl

set_option maxHeartbeats 4000000 in
set_option maxRecDepth 100000 in
theorem TNew_any (xs ys : List Int) (A B : Option Addr) (c d : Nat) (w : World) (hx : RowI w Any A xs) (hy : RowI w Any B ys) (hl : xs.length ≤ 4096) (hm : ys.length ≤ 4096) :
    Calls Try.prog 31 #[.slice A xs.length c, .slice B ys.length d] w fun e w' => ∃ tb vI vO, e = .returned (.tuple #[.pointer (some ⟨tb, 0, none⟩), .int .i64 0]) ∧ w.heap.size ≤ tb ∧ w'.heap[tb]? = some (.cells #[vI, vO] 93 (0, 0)) ∧
      w'.ownsRow w.heap.size 3 1 vI xs.length (flatI xs) ∧ w'.ownsRow w.heap.size 3 1 vO ys.length (flatI ys) ∧ vI.ownBlock ≠ some tb ∧ vO.ownBlock ≠ some tb ∧ (∀ b, vI.ownBlock = some b → vO.ownBlock ≠ some b) ∧ Below w.heap.size w w' := by
  have hxl : ¬ (4096 : Int) < (xs.length : Int) := by omega
  have hyl : ¬ (4096 : Int) < (ys.length : Int) := by omega
  have HX := Lib.hid (fun w' (hb : Below w.heap.size w w') => CloneI_own xs A c Any w' (hx.later hb) (by unfold LI; omega))
  have HY := Lib.hid (fun w' (hb : Below w.heap.size w w') => CloneI_own ys B d Any w' (hy.later hb) (by unfold LI; omega))
  obtain ⟨n, hn⟩ : ∃ n, xs.length = n := ⟨_, rfl⟩
  obtain ⟨m, hm'⟩ : ∃ m, ys.length = m := ⟨_, rfl⟩
  rw [hn, hm']
  rw [hn] at hxl HX
  rw [hm'] at hyl HY
  have HN := Lib.hid hn
  have HM := Lib.hid hm'
  clear hx hy hn hm' hl hm
  go_enter Try.func31, Try.ntmps31
  go_wp2_with fail
  refine (HX.out _ (Below.refl _ _)).mono ?_
  rintro e w1 ⟨v1, rfl, ho1, hf1, bw1⟩
  rw [HN.out] at ho1
  obtain ⟨A1, c1, rfl, -⟩ := row_slice ho1
  have HO1 := Lib.hid ho1
  have HB1 := Lib.hid bw1
  clear ho1 bw1
  go_wp2_with fail
  refine (HY.out _ HB1.out).mono ?_
  rintro e w2 ⟨v2, rfl, ho2, hf2, bw2⟩
  rw [HM.out] at ho2
  obtain ⟨A2, c2, rfl, -⟩ := row_slice ho2
  have HO2 := Lib.hid ho2
  have HB2 := Lib.hid bw2
  have hbt := fun w => buildTp (.slice A1 n c1) (.slice A2 m c2) w ⟨_, _, _, rfl⟩ ⟨_, _, _, rfl⟩
  clear ho2 bw2
  go_wp2_with fail
  go_ret2
  have h1 := own_later HO1.out HB2.out
  have hs1 := HB1.out.size
  have hs2 := HB2.out.size
  refine ⟨w2.heap.size, .slice A1 n c1, .slice A2 m c2, rfl, by omega, heap_alloc_new w2 _, ?_, ?_, fun e => ?_, fun e => ?_, fun b e1 e2 => ?_, bl_al (bl_tt HB1.out HB2.out) _⟩
  · exact h1.alloc _
  · obtain ⟨x1, x2⟩ := HO2.out.alloc (.cells #[.slice A1 n c1, .slice A2 m c2] 93)
    refine ⟨x1, ?_⟩
    rcases x2 with x2 | ⟨g, cap, cur, y1, y2, y3⟩
    · exact .inl x2
    · exact .inr ⟨g, cap, cur, y1, by omega, y3⟩
  · have := (h1.lt _ e).2; omega
  · have := (HO2.out.lt _ e).2; omega
  · have := (HO1.out.lt _ e1).2
    have := (HO2.out.lt _ e2).1
    omega

set_option maxHeartbeats 4000000 in
set_option maxRecDepth 100000 in
theorem TIn_any {W : World} {n0 : Nat} {P : Ph} {S : ST} (h : SR W n0 P S) : Calls Try.prog 44 #[.pointer (some ⟨P.tb, 0, none⟩)] W (OwnI W S.tin) := by
  obtain ⟨A, c, hv, hc, hr⟩ := row_I (h.rws.row .tin) h.wf.tin.2
  have hv' : P.vI = .slice A S.tin.length c := hv
  have x0 : W.cell? ⟨P.tb, 0, none⟩ = some (.slice A S.tin.length c) := by rw [← hv']; exact cell_of_blk h.tbox rfl
  have HC := Lib.hid (CloneI_own S.tin A c Any W hr (by have := h.wf.tin.1; unfold LI; omega))
  obtain ⟨n, hn⟩ : ∃ n, S.tin.length = n := ⟨_, rfl⟩
  rw [hn] at x0 HC
  clear h hv hv' hr hn hc
  go_enter Try.func44, Try.ntmps44
  go_wp2_with fail
  refine HC.out.mono ?_
  rintro e w1 ⟨v1, rfl, h1⟩
  have H1 := Lib.hid h1
  obtain ⟨A1, c1, rfl, -⟩ := row_slice h1.1
  clear h1
  go_wp2_with fail
  go_ret
  exact ⟨_, rfl, H1.out⟩

set_option maxHeartbeats 4000000 in
set_option maxRecDepth 100000 in
theorem TOut_any {W : World} {n0 : Nat} {P : Ph} {S : ST} (h : SR W n0 P S) : Calls Try.prog 45 #[.pointer (some ⟨P.tb, 0, none⟩)] W (OwnI W S.tout) := by
  obtain ⟨A, c, hv, hc, hr⟩ := row_I (h.rws.row .tout) h.wf.tout.2
  have hv' : P.vO = .slice A S.tout.length c := hv
  have x0 : W.cell? ⟨P.tb, 1, none⟩ = some (.slice A S.tout.length c) := by rw [← hv']; exact cell_of_blk h.tbox rfl
  have HC := Lib.hid (CloneI_own S.tout A c Any W hr (by have := h.wf.tout.1; unfold LI; omega))
  obtain ⟨n, hn⟩ : ∃ n, S.tout.length = n := ⟨_, rfl⟩
  rw [hn] at x0 HC
  clear h hv hv' hr hn hc
  go_enter Try.func45, Try.ntmps45
  go_wp2_with fail
  refine HC.out.mono ?_
  rintro e w1 ⟨v1, rfl, h1⟩
  have H1 := Lib.hid h1
  obtain ⟨A1, c1, rfl, -⟩ := row_slice h1.1
  clear h1
  go_wp2_with fail
  go_ret
  exact ⟨_, rfl, H1.out⟩

end Go.Proofs.Ytekjfbnggfbfhaa

/-
  store: the contracts of Depth and Cell.
-/
namespace Go.Proofs.Ytekjfbnggfbfhaa
open Go Go.RowKit

set_option maxHeartbeats 4000000 in
set_option maxRecDepth 100000 in
theorem Depth_any {W : World} {n0 : Nat} {P : Ph} {S : ST} (h : SR W n0 P S) : Calls Try.prog 18 #[.pointer (some ⟨P.sb, 0, none⟩)] W fun e w' => e = .returned (.int .i64 S.calls.length) ∧ w' = W := by
  obtain ⟨A, c, hvF, hc, -⟩ := h.calls
  have hx : W.cell? ⟨P.sb, 3, none⟩ = some (.slice A S.calls.length c) := by rw [← hvF]; exact cell_of_blk h.box rfl
  obtain ⟨L, hL⟩ : ∃ L, S.calls.length = L := ⟨_, rfl⟩
  rw [hL] at hx ⊢
  clear h hvF hc hL
  go_enter Try.func18, Try.ntmps18
  go_wp2_with fail
  go_ret
  exact ⟨rfl, rfl⟩

/-- What Cell hands back. -/
def CellP (W : World) (S : ST) (s : ByteArray) (e : Ending) (W' : World) : Prop := ∃ v l b, e = .returned (.tuple #[v, .bool b]) ∧ S.look s = (if b = true then some l else none) ∧ (b = false → l = []) ∧ W'.ownsRow W.heap.size 3 1 v l.length (flatI l) ∧ (∀ x ∈ l, I64 x) ∧ Below W.heap.size W W'

set_option maxHeartbeats 4000000 in
set_option maxRecDepth 100000 in
theorem SCell_any {W : World} {n0 : Nat} {P : Ph} {S : ST} (h : SR W n0 P S) (s : ByteArray) : Calls Try.prog 16 #[.pointer (some ⟨P.sb, 0, none⟩), .string s] W (CellP W S s) := by
  have HLK := Lib.hid (lookup_any h s)
  have HFT := Lib.hid ((lookC n0 P S h.wf).fits s)
  clear h
  go_enter Try.func16, Try.ntmps16
  go_wp2_with fail
  refine HLK.out.mono ?_
  rintro e w1 ⟨bw1, hr⟩
  have HB1 := Lib.hid bw1
  clear bw1
  rcases hr with ⟨hno, A, c, rfl⟩ | ⟨l, A, c, hso, rfl, hri⟩
  · have HNO := Lib.hid hno
    have HCL := Lib.hid (CloneI_own [] A c Any w1 (fun i hi => by simp at hi) (by simp [LI]))
    clear hno
    simp only [List.length_nil] at HCL
    go_wp2_with fail
    refine HCL.out.mono ?_
    rintro e w2 ⟨v2, rfl, ho2, hf2, bw2⟩
    obtain ⟨A2, c2, rfl, -⟩ := row_slice ho2
    have HO := Lib.hid ho2
    have HB2 := Lib.hid bw2
    clear ho2 bw2
    go_wp2_with fail
    go_ret2
    refine ⟨.slice A2 0 c2, [], false, rfl, HNO.out, fun _ => rfl, ?_, by simp, bl_tt HB1.out HB2.out⟩
    obtain ⟨x1, x2⟩ := HO.out
    refine ⟨x1, ?_⟩
    rcases x2 with x2 | ⟨g, cap, cur, y1, y2, y3⟩
    · exact .inl x2
    · exact .inr ⟨g, cap, cur, y1, by have := HB1.out.size; omega, y3⟩
  · have hll := HFT.out l hso
    have HSO := Lib.hid hso
    have HCL := Lib.hid (CloneI_own l A c Any w1 hri (by unfold LI; omega))
    clear hso hri
    go_wp2_with fail
    refine HCL.out.mono ?_
    rintro e w2 ⟨v2, rfl, ho2, hf2, bw2⟩
    obtain ⟨A2, c2, rfl, -⟩ := row_slice ho2
    have HO := Lib.hid ho2
    have HF2 := Lib.hid hf2
    have HB2 := Lib.hid bw2
    clear ho2 bw2 hf2
    go_wp2_with fail
    go_ret2
    refine ⟨.slice A2 l.length c2, l, true, rfl, HSO.out, (fun h => by cases h), ?_, HF2.out, bl_tt HB1.out HB2.out⟩
    obtain ⟨x1, x2⟩ := HO.out
    refine ⟨x1, ?_⟩
    rcases x2 with x2 | ⟨g, cap, cur, y1, y2, y3⟩
    · exact .inl x2
    · exact .inr ⟨g, cap, cur, y1, by have := HB1.out.size; omega, y3⟩

end Go.Proofs.Ytekjfbnggfbfhaa

/-
  store: the contract of Leave.
-/
set_option linter.unusedSimpArgs false
set_option linter.unusedVariables false
namespace Go.Proofs.Ytekjfbnggfbfhaa
open Go Go.RowKit

/-- A step of the store. -/
structure SStp (n0 : Nat) (P : Ph) (S : ST) (W : World) (P' : Ph) (S' : ST) (W' : World) : Prop where
  st : Stp n0 (rows P S) W (rows P' S') W'
  wf : S'.WF
theorem SStp.sr {n0 : Nat} {P P' : Ph} {S S' : ST} {W W' : World} (h : SStp n0 P S W P' S' W') : SR W' n0 P' S' := ⟨h.st.rws, h.wf⟩
theorem SStp.trans {n0 : Nat} {P P' P'' : Ph} {S S' S'' : ST} {W W' W'' : World} (h : SStp n0 P S W P' S' W') (h' : SStp n0 P' S' W' P'' S'' W'') : SStp n0 P S W P'' S'' W'' := ⟨h.st.trans h'.st, h'.wf⟩
theorem SStp.refl {n0 : Nat} {P : Ph} {S : ST} {W W' : World} (h : SR W n0 P S) (hb : Below W.heap.size W W') : SStp n0 P S W P S W' := ⟨(Stp.refl h.rws).below hb, h.wf⟩

theorem ownsRow_nilR (w : World) (n0 : Nat) : w.ownsRow n0 nilR.E nilR.sz nilR.v nilR.n nilR.xs := ⟨rfl, .inl ⟨rfl, rfl⟩⟩
/-- A row is given up. -/
theorem Stp.drop {I : Type} [DecidableEq I] {n0 : Nat} {d : I → RowD} {W : World} (h : Rws W n0 d) (i : I) : Stp n0 d W (updR d i nilR) W :=
  Stp.upd h (Chg.refl _ _) (ownsRow_nilR W n0) (fun b hb => by simp [nilR, Value.ownBlock] at hb)
theorem flatF_congr {P P' : Ph} (h1 : P'.fV = P.fV) (h2 : P'.fC = P.fC) : ∀ (fs : List FR) (i : Nat), flatF P' i fs = flatF P i fs
  | [], _ => rfl
  | f :: fs, i => by simp [flatF, h1, h2, flatF_congr h1 h2 fs]
theorem flatF_take (P : Ph) : ∀ (fs : List FR) (i m : Nat), (flatF P i fs).take (m * 3) = flatF P i (fs.take m)
  | [], i, m => by simp [flatF]
  | f :: fs, i, 0 => by simp [flatF]
  | f :: fs, i, m + 1 => by
    rw [show (m + 1) * 3 = m * 3 + 1 + 1 + 1 by omega]
    simp only [flatF, List.take_succ_cons, flatF_take P fs (i + 1) m]

/-- Store.Leave. -/
def leaveE (S : ST) : Int × ST := if S.calls.length = 0 ∨ 0 < S.cur.loc then (20, S) else (0, { S with calls := S.calls.take (S.calls.length - 1) })
theorem WF_leave {S : ST} (h : S.WF) : ({ S with calls := S.calls.take (S.calls.length - 1) } : ST).WF := by
  obtain ⟨kd, h1, h2, h3⟩ := h.ex
  exact ⟨⟨kd, h1, fun f hf => h2 f (List.mem_of_mem_take hf), h3⟩, by have := h.ncalls; simp; omega, h.cells, h.tin, h.tout⟩

theorem leave_rows {W : World} {n0 : Nat} {P : Ph} {S : ST} (h : SR W n0 P S) (m c : Nat) (hm : S.calls.length = m + 1) (hv : P.vF = .slice (some ⟨P.gF, 0, none⟩) (m + 1) c) :
    SStp n0 P S W { P with vF := .slice (some ⟨P.gF, 0, none⟩) m c } { S with calls := S.calls.take (S.calls.length - 1) } (W.setCell ⟨P.sb, 3, none⟩ (.slice (some ⟨P.gF, 0, none⟩) m c)) := by
  refine ⟨?_, WF_leave h.wf⟩
  have hrow : W.ownsRow n0 74 3 P.vF S.calls.length (flatF P 0 S.calls) := h.rws.row .calls
  have hpop : W.ownsRow n0 74 3 (.slice (some ⟨P.gF, 0, none⟩) m c) m (flatF P 0 (S.calls.take m)) := by
    rw [hv, hm] at hrow
    have e1 : flatF P 0 S.calls = flatF P 0 (S.calls.take m) ++ (flatF P 0 S.calls).drop (m * 3) := by rw [← flatF_take, List.take_append_drop]
    rw [e1] at hrow
    exact ownsRow_pop (by rw [flatF_len]; simp [hm]) hrow
  have st1 : Stp n0 (rows P S) W (updR (rows P S) .calls ⟨.slice (some ⟨P.gF, 0, none⟩) m c, 74, 3, m, flatF P 0 (S.calls.take m)⟩) W :=
    Stp.upd h.rws (Chg.refl _ _) hpop (fun b hb => .inl (by show P.vF.ownBlock = some b; rw [hv]; exact hb))
  have st2 := Stp.set (i := Res.sb) st1.rws (g := P.sb) (by rw [updR_other (by simp)]; rfl) (o := 3) (by rw [updR_other (by simp)]; simp [rows]) (.slice (some ⟨P.gF, 0, none⟩) m c)
  have st3 := Stp.drop st2.rws (Res.fv m)
  have st4 := Stp.drop st3.rws (Res.fc m)
  refine (((st1.trans st2).trans st3).trans st4).cast ?_
  have hm1 : S.calls.length - 1 = m := by omega
  funext r
  cases r with
  | fv i =>
    by_cases e : i = m
    · subst e
      have h2 : (S.calls.take (S.calls.length - 1))[i]? = none := List.getElem?_eq_none (by rw [List.length_take]; omega)
      simp [updR, rows, nilR, h2]
    · simp only [updR, Res.fv.injEq, e, reduceCtorEq, if_false, rows, hm1]
      by_cases hi : i < m
      · simp [hi]
      · have h1 : S.calls[i]? = none := List.getElem?_eq_none (by omega)
        have h2 : (S.calls.take m)[i]? = none := List.getElem?_eq_none (by rw [List.length_take]; omega)
        rw [h1, h2]
  | fc i =>
    by_cases e : i = m
    · subst e
      have h2 : (S.calls.take (S.calls.length - 1))[i]? = none := List.getElem?_eq_none (by rw [List.length_take]; omega)
      simp [updR, rows, nilR, h2]
    · simp only [updR, Res.fc.injEq, e, reduceCtorEq, if_false, rows, hm1]
      by_cases hi : i < m
      · simp [hi]
      · have h1 : S.calls[i]? = none := List.getElem?_eq_none (by omega)
        have h2 : (S.calls.take m)[i]? = none := List.getElem?_eq_none (by rw [List.length_take]; omega)
        rw [h1, h2]
  | calls =>
    simp only [updR, reduceCtorEq, if_false, if_true, rows, hm1]
    simp only [List.length_take, hm]
    rw [flatF_congr (P := P) (P' := { P with vF := .slice (some ⟨P.gF, 0, none⟩) m c }) rfl rfl]
    simp
  | sb => simp [updR, rows]
  | tb => simp [updR, rows]
  | tin => simp [updR, rows]
  | tout => simp [updR, rows]
  | bv => simp [updR, rows]
  | bc => simp [updR, rows]
  | cb i => simp [updR, rows]
  | ci i => simp [updR, rows]
  | x i => simp [updR, rows]

set_option maxHeartbeats 4000000 in
set_option maxRecDepth 100000 in
theorem Leave_any {W : World} {n0 : Nat} {P : Ph} {S : ST} (h : SR W n0 P S) : Calls Try.prog 20 #[.pointer (some ⟨P.sb, 0, none⟩)] W fun e W' => e = .returned (.int .i64 (leaveE S).1) ∧ ∃ P', SStp n0 P S W P' (leaveE S).2 W' ∧ P'.sb = P.sb := by
  obtain ⟨A, c, hvF, hc, h2⟩ := h.calls
  have hx : W.cell? ⟨P.sb, 3, none⟩ = some (.slice A S.calls.length c) := by rw [← hvF]; exact cell_of_blk h.box rfl
  have hfz : W.frozen? ⟨P.sb, 3, none⟩ = false := frozen_of_blk h.box
  have hcal := h.wf.ncalls
  have HS := Lib.hid h
  have HCU := Lib.hid (current_any h)
  obtain ⟨h3, h4, h5⟩ := h.cur3
  obtain ⟨L, hL⟩ : ∃ L, S.calls.length = L := ⟨_, rfl⟩
  obtain ⟨lc, hlc⟩ : ∃ lc, S.cur.loc = lc := ⟨_, rfl⟩
  obtain ⟨cp, hcp⟩ : ∃ cp, curP P S = cp := ⟨_, rfl⟩
  rw [hcp] at h5 HCU
  rw [hlc] at h5
  obtain ⟨R, hR⟩ : ∃ R, leaveE S = R := ⟨_, rfl⟩
  rw [hR]
  have HR := Lib.hid (show R = if L = 0 ∨ 0 < lc then (20, S) else (0, { S with calls := S.calls.take (S.calls.length - 1) }) by rw [← hR, leaveE, hL, hlc])
  have HVF := Lib.hid hvF
  have HL := Lib.hid hL
  have H2 := Lib.hid h2
  rw [hL] at hx hcal
  rw [hL] at hc
  clear h hvF h2 h3 h4 hL hlc hcp hR
  rcases Nat.eq_zero_or_pos L with h0 | h0
  · subst h0
    have HX := Lib.hid (show R = (20, S) by rw [HR.out, if_pos (.inl rfl)])
    clear HR
    go_enter Try.func20, Try.ntmps20
    go_wp2_with fail
    go_ret
    exact ⟨by rw [HX.out]; rfl, P, by rw [HX.out]; exact SStp.refl HS.out (Below.refl _ _), rfl⟩
  · obtain ⟨m, rfl⟩ : ∃ m, L = m + 1 := ⟨L - 1, by omega⟩
    obtain ⟨rfl, -⟩ := H2.out (by rw [HL.out]; exact h0)
    by_cases hl : 0 < lc
    · have HX := Lib.hid (show R = (20, S) by rw [HR.out, if_pos (.inr hl)])
      have hl' : (0 : Int) < (lc : Int) := by omega
      clear HR
      go_enter Try.func20, Try.ntmps20
      go_wp2_with fail
      refine HCU.out.mono ?_
      rintro e w1 ⟨rfl, rfl⟩
      go_wp2_with fail
      go_ret
      exact ⟨by rw [HX.out]; rfl, P, by rw [HX.out]; exact SStp.refl HS.out (Below.refl _ _), rfl⟩
    · obtain rfl : lc = 0 := by omega
      have HX := Lib.hid (show R = (0, { S with calls := S.calls.take (S.calls.length - 1) }) by rw [HR.out, if_neg (by omega)])
      have HFN := Lib.hid (leave_rows (HS.out.later (Below.refl _ _).drew) m c HL.out (by rw [HVF.out, HL.out]))
      clear HR
      go_enter Try.func20, Try.ntmps20
      go_wp2_with fail
      refine HCU.out.mono ?_
      rintro e w1 ⟨rfl, rfl⟩
      go_upto_region 5 with fail
      have hSS : (fun _ : World => True) w1.drew ∧ (fun w' : World => w'.cell? ⟨P.sb, 3, none⟩ = some (.slice (some ⟨P.gF, 0, none⟩) (m + 1) c)) w1.drew := ⟨trivial, hx⟩
      have hm1 : (m : Int) ≤ (c : Int) := by omega
      have hm0 : (0 : Int) ≤ (m : Int) := by omega
      have hw1 : IntKind.i64.wrap (m : Int) = (m : Int) := IntWalk.i64_in _ (by omega)
      refine wp_region_noPanic ?_
      refine wp_region_G (fun _ : World => True) (fun w' : World => w'.cell? ⟨P.sb, 3, none⟩ = some (.slice (some ⟨P.gF, 0, none⟩) (m + 1) c)) 14 (by kernel_rfl) ?_
      refine wpG_take1 (i := 0) (v := ?_) rfl (by kernel_rfl) (by kernel_rfl) (by kernel_rfl) (by decide) (fun _ _ _ h => h) (Or.inl ⟨by rfl, ?_⟩) hSS ?_
      rotate_left 1
      · (intro w hSw; (try dsimp only at hSw); (try simp only [List.getElem_toArray, List.getElem_cons_succ, List.getElem_cons_zero]); go_simp; (try with_reducible rfl))
      (try simp only [Act.put, List.getElem_toArray, List.getElem_cons_succ, List.getElem_cons_zero, List.setIfInBounds_toArray, List.set_cons_zero, List.set_cons_succ])
      refine wpG_take1 (i := 1) (v := ?_) rfl (by kernel_rfl) (by kernel_rfl) (by kernel_rfl) (by decide) (fun _ _ _ h => h) (Or.inl ⟨by rfl, ?_⟩) hSS ?_
      rotate_left 1
      · (intro w hSw; (try dsimp only at hSw); (try simp only [List.getElem_toArray, List.getElem_cons_succ, List.getElem_cons_zero]); go_simp; (try with_reducible rfl))
      (try simp only [Act.put, List.getElem_toArray, List.getElem_cons_succ, List.getElem_cons_zero, List.setIfInBounds_toArray, List.set_cons_zero, List.set_cons_succ])
      refine wpG_take1 (i := 2) (v := ?_) rfl (by kernel_rfl) (by kernel_rfl) (by kernel_rfl) (by decide) (fun _ _ _ h => h) (Or.inl ⟨by rfl, ?_⟩) hSS ?_
      rotate_left 1
      · (intro w hSw; (try dsimp only at hSw); (try simp only [List.getElem_toArray, List.getElem_cons_succ, List.getElem_cons_zero]); go_simp; (try with_reducible rfl))
      (try simp only [Act.put, List.getElem_toArray, List.getElem_cons_succ, List.getElem_cons_zero, List.setIfInBounds_toArray, List.set_cons_zero, List.set_cons_succ])
      refine wpG_take1 (i := 3) (v := ?_) rfl (by kernel_rfl) (by kernel_rfl) (by kernel_rfl) (by decide) (fun _ _ _ h => h) (Or.inl ⟨by rfl, ?_⟩) hSS ?_
      rotate_left 1
      · (intro w hSw; (try dsimp only at hSw); (try simp only [List.getElem_toArray, List.getElem_cons_succ, List.getElem_cons_zero]); go_simp; (try with_reducible rfl))
      (try simp only [Act.put, List.getElem_toArray, List.getElem_cons_succ, List.getElem_cons_zero, List.setIfInBounds_toArray, List.set_cons_zero, List.set_cons_succ])
      refine wpG_take2 (i := 4) (v := ?_) rfl (by kernel_rfl) (by kernel_rfl) (by kernel_rfl) (by decide) rfl (by kernel_rfl) (by kernel_rfl) (fun _ _ _ h => h) (Or.inl ⟨by rfl, ?_⟩) hSS ?_
      rotate_left 1
      · (intro w hSw; (try dsimp only at hSw); (try simp only [List.getElem_toArray, List.getElem_cons_succ, List.getElem_cons_zero]); go_simp; (try with_reducible rfl))
      (try simp only [Act.put, List.getElem_toArray, List.getElem_cons_succ, List.getElem_cons_zero, List.setIfInBounds_toArray, List.set_cons_zero, List.set_cons_succ])
      refine wpG_take1 (i := 5) (v := ?_) rfl (by kernel_rfl) (by kernel_rfl) (by kernel_rfl) (by decide) (fun _ _ _ h => h) (Or.inl ⟨by rfl, ?_⟩) hSS ?_
      rotate_left 1
      · (intro w hSw; (try dsimp only at hSw); (try simp only [List.getElem_toArray, List.getElem_cons_succ, List.getElem_cons_zero]); go_simp; (try with_reducible rfl))
      (try simp only [Act.put, List.getElem_toArray, List.getElem_cons_succ, List.getElem_cons_zero, List.setIfInBounds_toArray, List.set_cons_zero, List.set_cons_succ])
      refine wpG_take1 (i := 6) (v := ?_) rfl (by kernel_rfl) (by kernel_rfl) (by kernel_rfl) (by decide) (fun _ _ _ h => h) (Or.inl ⟨by rfl, ?_⟩) hSS ?_
      rotate_left 1
      · (intro w hSw; (try dsimp only at hSw); (try simp only [List.getElem_toArray, List.getElem_cons_succ, List.getElem_cons_zero]); go_simp; (try with_reducible rfl))
      (try simp only [Act.put, List.getElem_toArray, List.getElem_cons_succ, List.getElem_cons_zero, List.setIfInBounds_toArray, List.set_cons_zero, List.set_cons_succ])
      refine wpG_take1 (i := 7) (v := ?_) rfl (by kernel_rfl) (by kernel_rfl) (by kernel_rfl) (by decide) (fun _ _ _ h => h) (Or.inl ⟨by rfl, ?_⟩) hSS ?_
      rotate_left 1
      · (intro w hSw; (try dsimp only at hSw); (try simp only [List.getElem_toArray, List.getElem_cons_succ, List.getElem_cons_zero]); go_simp; (try with_reducible rfl))
      (try simp only [Act.put, List.getElem_toArray, List.getElem_cons_succ, List.getElem_cons_zero, List.setIfInBounds_toArray, List.set_cons_zero, List.set_cons_succ])
      refine wpG_take2 (i := 8) (v := ?_) rfl (by kernel_rfl) (by kernel_rfl) (by kernel_rfl) (by decide) rfl (by kernel_rfl) (by kernel_rfl) (fun _ _ _ h => h) (Or.inl ⟨by rfl, ?_⟩) hSS ?_
      rotate_left 1
      · (intro w hSw; (try dsimp only at hSw); (try simp only [List.getElem_toArray, List.getElem_cons_succ, List.getElem_cons_zero]); go_simp; (try with_reducible rfl))
      (try simp only [Act.put, List.getElem_toArray, List.getElem_cons_succ, List.getElem_cons_zero, List.setIfInBounds_toArray, List.set_cons_zero, List.set_cons_succ])
      refine wpG_take1 (i := 9) (v := ?_) rfl (by kernel_rfl) (by kernel_rfl) (by kernel_rfl) (by decide) (fun _ _ _ h => h) (Or.inl ⟨by rfl, ?_⟩) hSS ?_
      rotate_left 1
      · (intro w hSw; (try dsimp only at hSw); (try simp only [List.getElem_toArray, List.getElem_cons_succ, List.getElem_cons_zero]); go_simp; (try with_reducible rfl))
      (try simp only [Act.put, List.getElem_toArray, List.getElem_cons_succ, List.getElem_cons_zero, List.setIfInBounds_toArray, List.set_cons_zero, List.set_cons_succ])
      refine wpG_take1 (i := 10) (v := ?_) rfl (by kernel_rfl) (by kernel_rfl) (by kernel_rfl) (by decide) (fun _ _ _ h => h) (Or.inl ⟨by rfl, ?_⟩) hSS ?_
      rotate_left 1
      · (intro w hSw; (try dsimp only at hSw); (try simp only [List.getElem_toArray, List.getElem_cons_succ, List.getElem_cons_zero]); go_simp; (try with_reducible rfl))
      (try simp only [Act.put, List.getElem_toArray, List.getElem_cons_succ, List.getElem_cons_zero, List.setIfInBounds_toArray, List.set_cons_zero, List.set_cons_succ])
      refine wpG_take1 (i := 11) (v := ?_) rfl (by kernel_rfl) (by kernel_rfl) (by kernel_rfl) (by decide) (fun _ _ _ h => h) (Or.inl ⟨by rfl, ?_⟩) hSS ?_
      rotate_left 1
      · (intro w hSw; (try dsimp only at hSw); (try simp only [List.getElem_toArray, List.getElem_cons_succ, List.getElem_cons_zero]); go_simp; (try with_reducible rfl))
      (try simp only [Act.put, List.getElem_toArray, List.getElem_cons_succ, List.getElem_cons_zero, List.setIfInBounds_toArray, List.set_cons_zero, List.set_cons_succ])
      refine wpG_take1 (i := 12) (v := ?_) rfl (by kernel_rfl) (by kernel_rfl) (by kernel_rfl) (by decide) (fun _ _ _ h => h) (Or.inl ⟨by rfl, ?_⟩) hSS ?_
      rotate_left 1
      · (intro w hSw; (try dsimp only at hSw); (try simp only [List.getElem_toArray, List.getElem_cons_succ, List.getElem_cons_zero]); go_simp; (try with_reducible rfl))
      (try simp only [Act.put, List.getElem_toArray, List.getElem_cons_succ, List.getElem_cons_zero, List.setIfInBounds_toArray, List.set_cons_zero, List.set_cons_succ])
      refine wpG_take1 (i := 13) (v := ?_) rfl (by kernel_rfl) (by kernel_rfl) (by kernel_rfl) (by decide) (fun _ _ _ h => h) (Or.inl ⟨by rfl, ?_⟩) hSS ?_
      rotate_left 1
      · (intro w hSw; (try dsimp only at hSw); (try simp only [List.getElem_toArray, List.getElem_cons_succ, List.getElem_cons_zero]); go_simp; (try with_reducible rfl))
      (try simp only [Act.put, List.getElem_toArray, List.getElem_cons_succ, List.getElem_cons_zero, List.setIfInBounds_toArray, List.set_cons_zero, List.set_cons_succ])
      refine wpG_past (i := 14) (by kernel_rfl) rfl (by kernel_rfl) (fun K hK => ?_)
      (try simp only [List.getElem_toArray, List.getElem_cons_succ, List.getElem_cons_zero])
      have hx1 : w1.drew.cell? ⟨P.sb, 3, none⟩ = some (.slice (some ⟨P.gF, 0, none⟩) (m + 1) c) := hx
      have hfz1 : w1.drew.frozen? ⟨P.sb, 3, none⟩ = false := hfz
      go_simp
      refine hK.out _ _ trivial ?_
      clear hK K hSS hx1 hfz1
      (try simp only [Act.put, List.getElem_toArray, List.getElem_cons_succ, List.getElem_cons_zero, List.setIfInBounds_toArray, List.set_cons_zero, List.set_cons_succ])
      refine wpG_done (by kernel_rfl) ?_
      refine NoPanic.normal ?_
      clear hx hfz
      go_wp2_with fail
      go_ret
      refine ⟨by rw [HX.out]; rfl, { P with vF := .slice (some ⟨P.gF, 0, none⟩) m c }, ?_, rfl⟩
      rw [HX.out]
      exact ⟨HFN.out.st.after (Below.refl _ _).drew HS.out.rws, HFN.out.wf⟩

end Go.Proofs.Ytekjfbnggfbfhaa

/-
  The store in memory: the current frame is put anew. No program stands here but the types' numbers.
-/
namespace Go.Proofs.Ytekjfbnggfbfhaa
open Go Go.RowKit

/-- The store with another current frame. -/
def ST.setCur (S : ST) (f : FR) : ST := if S.calls.length = 0 then { S with base := f } else { S with calls := S.calls.set (S.calls.length - 1) f }
/-- The rows of the current frame: who holds it, at which offset, its variables, its cells. -/
def hI (S : ST) : Res := if S.calls.length = 0 then .sb else .calls
def oI (S : ST) : Nat := if S.calls.length = 0 then 0 else (S.calls.length - 1) * 3
def vI (S : ST) : Res := if S.calls.length = 0 then .bv else .fv (S.calls.length - 1)
def cI (S : ST) : Res := if S.calls.length = 0 then .bc else .fc (S.calls.length - 1)
def Ph.setCur (P : Ph) (S : ST) (vv vc : Value) : Ph := if S.calls.length = 0 then { P with vV := vv, vC := vc } else { P with fV := fun i => if i = S.calls.length - 1 then vv else P.fV i, fC := fun i => if i = S.calls.length - 1 then vc else P.fC i }

theorem flatF_set {P P' : Ph} {vv vc : Value} {f : FR} : ∀ (fs : List FR) (i j : Nat), j < fs.length → (∀ q, q ≠ i + j → P'.fV q = P.fV q ∧ P'.fC q = P.fC q) → P'.fV (i + j) = vv → P'.fC (i + j) = vc →
    flatF P' i (fs.set j f) = (((flatF P i fs).set (j * 3) vv).set (j * 3 + 1) vc).set (j * 3 + 2) (.int .i64 f.loc)
  | g :: fs, i, 0, _, h, h1, h2 => by
    have hr : flatF P' (i + 1) fs = flatF P (i + 1) fs := by
      have key : ∀ (l : List FR) (q : Nat), i < q → flatF P' q l = flatF P q l := by
        intro l
        induction l with
        | nil => intro q _; rfl
        | cons a l ih => intro q hq; simp [flatF, (h q (by omega)).1, (h q (by omega)).2, ih (q + 1) (by omega)]
      exact key fs (i + 1) (by omega)
    simp only [Nat.add_zero] at h1 h2
    simp [flatF, h1, h2, hr]
  | g :: fs, i, j + 1, hj, h, h1, h2 => by
    have ih := flatF_set (P := P) (P' := P') (vv := vv) (vc := vc) (f := f) fs (i + 1) j (by simpa using hj) (fun q hq => h q (by omega)) (by rw [show i + 1 + j = i + (j + 1) by omega]; exact h1) (by rw [show i + 1 + j = i + (j + 1) by omega]; exact h2)
    rw [show (j + 1) * 3 = j * 3 + 1 + 1 + 1 by omega]
    simp only [List.set_cons_succ, flatF, (h i (by omega)).1, (h i (by omega)).2, ih]

theorem rows_setCur (P : Ph) (S : ST) (f : FR) (vv vc : Value) : rows (P.setCur S vv vc) (S.setCur f) =
    updR (updR (updR (rows P S) (vI S) ⟨vv, 24, 3, f.vs.length, flatV f.vs⟩) (cI S) ⟨vc, 79, 1, f.cs.length, ptrs P.cb f.cs⟩) (hI S)
      { rows P S (hI S) with xs := (((rows P S (hI S)).xs.set (oI S) vv).set (oI S + 1) vc).set (oI S + 2) (.int .i64 f.loc) } := by
  by_cases h0 : S.calls.length = 0
  · simp only [Ph.setCur, ST.setCur, hI, vI, cI, oI, h0, if_true]
    have hc : S.calls = [] := List.length_eq_zero_iff.1 h0
    funext r
    cases r <;> simp [updR, rows, hc, flatF]
  · obtain ⟨m, hm⟩ : ∃ m, S.calls.length = m + 1 := ⟨S.calls.length - 1, by omega⟩
    have hm1 : S.calls.length - 1 = m := by omega
    simp only [Ph.setCur, ST.setCur, hI, vI, cI, oI, h0, if_false, hm1]
    funext r
    cases r with
    | calls =>
      have hq : ∀ q, q ≠ 0 + m → ({ P with fV := fun i => if i = m then vv else P.fV i, fC := fun i => if i = m then vc else P.fC i } : Ph).fV q = P.fV q ∧ ({ P with fV := fun i => if i = m then vv else P.fV i, fC := fun i => if i = m then vc else P.fC i } : Ph).fC q = P.fC q := fun q h => by
        have h' : q ≠ m := by omega
        simp [h']
      have := flatF_set (P := P) (P' := { P with fV := fun i => if i = m then vv else P.fV i, fC := fun i => if i = m then vc else P.fC i }) (vv := vv) (vc := vc) (f := f) S.calls 0 m (by omega) hq (by simp) (by simp)
      simp only [updR, if_true, rows, List.length_set, this]
    | fv i =>
      by_cases e : i = m
      · subst e
        simp [updR, rows, hm]
      · have e' : m ≠ i := Ne.symm e
        simp [updR, rows, e, e']
    | fc i =>
      by_cases e : i = m
      · subst e
        simp [updR, rows, hm]
      · have e' : m ≠ i := Ne.symm e
        simp [updR, rows, e, e']
    | sb => simp [updR, rows]
    | tb => simp [updR, rows]
    | tin => simp [updR, rows]
    | tout => simp [updR, rows]
    | bv => simp [updR, rows]
    | bc => simp [updR, rows]
    | cb i => simp [updR, rows]
    | ci i => simp [updR, rows]
    | x i => simp [updR, rows]

end Go.Proofs.Ytekjfbnggfbfhaa

/-
  store: the contract of Close.
-/
set_option linter.unusedSimpArgs false
set_option linter.unusedVariables false
namespace Go.Proofs.Ytekjfbnggfbfhaa
open Go Go.RowKit

/-- The last variable of a frame, the number of its cell. -/
def lastV (f : FR) : VD := f.vs.getD (f.vs.length - 1) ⟨⟨#[]⟩, 0, 0⟩
def lastC (f : FR) : Nat := f.cs.getD (f.vs.length - 1) 0
/-- The frame without its last variable, which is a local. -/
def FR.pop (f : FR) : FR := ⟨f.vs.take (f.vs.length - 1), f.cs.take (f.vs.length - 1), f.loc - 1⟩
/-- Store.Close. -/
def closeE (S : ST) (name : ByteArray) (x : Int) : Int × ST :=
  if S.cur.loc = 0 ∨ ((lastV S.cur).s.toList == name.toList) = false then (6, S)
  else if ((lastV S.cur).k = 1 ∧ (S.cell (lastC S.cur)).getD 0 0 ≠ x) ∨ ((lastV S.cur).k = 3 ∧ 0 < (S.cell (lastC S.cur)).length) then (16, S)
  else (0, S.setCur S.cur.pop)

theorem ST.WF.cur2 {S : ST} (h : S.WF) : ∃ kd : Nat → Int × Int, S.cur.WF kd S.nc ∧ ∀ i, i < S.nc → ((kd i).1 = 1 → (S.cell i).length = 1) ∧ ((kd i).1 = 2 → ((S.cell i).length : Int) = (kd i).2) ∧ ((kd i).1 = 1 ∨ (kd i).1 = 2 ∨ (kd i).1 = 3) := by
  obtain ⟨kd, h1, h2, h3⟩ := h.ex
  refine ⟨kd, ?_, h3⟩
  rcases Nat.eq_zero_or_pos S.calls.length with h0 | h0
  · rw [cur_0 h0]; exact h1
  · rw [cur_1 h0]; exact h2 _ (List.getElem_mem _)
/-- The last variable's cell has the elements that its kind asks for. -/
theorem last_kind {S : ST} (h : S.WF) {m : Nat} (hm : m < S.cur.vs.length) (hc : m < S.cur.cs.length) (hk : S.cur.vs[m].k = 1) : (S.cell S.cur.cs[m]).length = 1 := by
  obtain ⟨kd, h1, h2⟩ := h.cur2
  refine (h2 _ (h1.num _ (List.getElem_mem hc))).1 ?_
  rw [h1.kind m hm hc]
  exact hk
theorem cur_holder {W : World} {n0 : Nat} {P : Ph} {S : ST} (h : SR W n0 P S) : curP P S = ⟨(curP P S).block, oI S, none⟩ ∧ (rows P S (hI S)).v.ownBlock = some (curP P S).block ∧ oI S + 2 < (rows P S (hI S)).xs.length := by
  by_cases h0 : S.calls.length = 0
  · simp [curP, oI, hI, h0, rows, Value.ownBlock]
  · obtain ⟨A, c, hv, _, h2⟩ := h.calls
    obtain ⟨rfl, -⟩ := h2 (by omega)
    simp only [curP, oI, hI, h0, if_false, rows]
    refine ⟨by first | rfl | trivial, by rw [hv]; rfl, ?_⟩
    rw [flatF_len]
    omega
theorem ptrs_take (cb : Nat → Nat) (cs : List Nat) (m : Nat) : ptrs cb (cs.take m) = (ptrs cb cs).take m := by simp [ptrs]
theorem flatV_take : ∀ (vs : List VD) (m : Nat), flatV (vs.take m) = (flatV vs).take (m * 3)
  | [], m => by simp [flatV]
  | v :: vs, 0 => by simp [flatV]
  | v :: vs, m + 1 => by
    have := flatV_take vs m
    rw [show (m + 1) * 3 = m * 3 + 1 + 1 + 1 by omega]
    simp only [flatV, List.take_succ_cons, List.flatMap_cons, List.cons_append, List.nil_append] at *
    rw [this]
theorem rows_vI (P : Ph) (S : ST) : rows P S (vI S) = ⟨curV P S, 24, 3, S.cur.vs.length, flatV S.cur.vs⟩ ∧ rows P S (cI S) = ⟨curC P S, 79, 1, S.cur.cs.length, ptrs P.cb S.cur.cs⟩ := by
  by_cases h0 : S.calls.length = 0
  · simp [vI, cI, curV, curC, h0, rows, cur_0 h0]
  · have hl : S.calls.length - 1 < S.calls.length := by omega
    simp [vI, cI, curV, curC, h0, rows, cur_1 (show 0 < S.calls.length by omega), List.getElem?_eq_getElem hl]
theorem hI_ne (S : ST) : hI S ≠ vI S ∧ hI S ≠ cI S ∧ vI S ≠ cI S := by
  unfold hI vI cI
  split <;> simp
/-- The two rows of the current frame turn, and its three cells are stored anew. -/
theorem cur_rows {W : World} {n0 : Nat} {P : Ph} {S : ST} (h : SR W n0 P S) (f : FR) (hwf : (S.setCur f).WF) (W2 : World) (vv vc : Value)
    (hst : Stp n0 (rows P S) W (updR (updR (rows P S) (vI S) ⟨vv, 24, 3, f.vs.length, flatV f.vs⟩) (cI S) ⟨vc, 79, 1, f.cs.length, ptrs P.cb f.cs⟩) W2) :
    SStp n0 P S W (P.setCur S vv vc) (S.setCur f) (((W2.setCell ⟨(curP P S).block, oI S, none⟩ vv).setCell ⟨(curP P S).block, oI S + 1, none⟩ vc).setCell ⟨(curP P S).block, oI S + 2, none⟩ (.int .i64 f.loc)) := by
  refine ⟨?_, hwf⟩
  obtain ⟨_, hb, ho⟩ := cur_holder h
  obtain ⟨n1, n2, _⟩ := hI_ne S
  have hd : updR (updR (rows P S) (vI S) ⟨vv, 24, 3, f.vs.length, flatV f.vs⟩) (cI S) ⟨vc, 79, 1, f.cs.length, ptrs P.cb f.cs⟩ (hI S) = rows P S (hI S) := by rw [updR_other n2, updR_other n1]
  have s1 := Stp.set (i := hI S) hst.rws (g := (curP P S).block) (by rw [hd]; exact hb) (o := oI S) (by rw [hd]; omega) vv
  rw [hd] at s1
  have s2 := Stp.set (i := hI S) s1.rws (g := (curP P S).block) (by rw [updR_same]; exact hb) (o := oI S + 1) (by rw [updR_same]; simp; omega) vc
  rw [updR_same] at s2
  have s3 := Stp.set (i := hI S) s2.rws (g := (curP P S).block) (by rw [updR_same]; exact hb) (o := oI S + 2) (by rw [updR_same]; simp; omega) (.int .i64 f.loc)
  rw [updR_same] at s3
  refine ((((hst.trans s1).trans s2).trans s3)).cast ?_
  rw [rows_setCur]
  funext r
  by_cases e : r = hI S
  · subst e; simp
  · simp only [updR, e, if_false]

theorem WF_setCur {S : ST} (h : S.WF) (f : FR) (hf : ∀ kd, S.cur.WF kd S.nc → f.WF kd S.nc) : (S.setCur f).WF := by
  obtain ⟨kd, h1, h2, h3⟩ := h.ex
  by_cases h0 : S.calls.length = 0
  · have hc : S.calls = [] := List.length_eq_zero_iff.1 h0
    simp only [ST.setCur, h0, if_true]
    refine ⟨⟨kd, hf kd (by rw [cur_0 h0]; exact h1), fun g hg => ?_, h3⟩, h.ncalls, h.cells, h.tin, h.tout⟩
    rw [hc] at hg
    cases hg
  · simp only [ST.setCur, h0, if_false]
    refine ⟨⟨kd, h1, fun g hg => ?_, h3⟩, by simpa using h.ncalls, h.cells, h.tin, h.tout⟩
    rcases List.mem_or_eq_of_mem_set hg with hg | rfl
    · exact h2 g hg
    · exact hf kd (by rw [cur_1 (by omega)]; exact h2 _ (List.getElem_mem _))
theorem WF_pop {f : FR} {kd : Nat → Int × Int} {nc : Nat} (h : f.WF kd nc) : f.pop.WF kd nc := by
  refine ⟨?_, ?_, ?_, fun v hv => h.fld v (List.mem_of_mem_take hv), fun c hc => h.num c (List.mem_of_mem_take hc), fun i hi hi' => ?_⟩
  · have := h.len; simp [FR.pop, this]
  · have := h.loc; simp [FR.pop]; omega
  · have := h.lim; simp [FR.pop]; omega
  · have h1 : i < f.vs.length := by simp [FR.pop] at hi; omega
    have h2 : i < f.cs.length := by rw [h.len]; exact h1
    have := h.kind i h1 h2
    simpa [FR.pop] using this
theorem pop_rows {W : World} {n0 : Nat} {P : Ph} {S : ST} (h : SR W n0 P S) (m : Nat) (hm : S.cur.vs.length = m + 1) (ga c g c2 : Nat) (hv : curV P S = .slice (some ⟨ga, 0, none⟩) (m + 1) c) (hc : curC P S = .slice (some ⟨g, 0, none⟩) (m + 1) c2) :
    Stp n0 (rows P S) W (updR (updR (rows P S) (vI S) ⟨.slice (some ⟨ga, 0, none⟩) m c, 24, 3, S.cur.pop.vs.length, flatV S.cur.pop.vs⟩) (cI S) ⟨.slice (some ⟨g, 0, none⟩) m c2, 79, 1, S.cur.pop.cs.length, ptrs P.cb S.cur.pop.cs⟩) W := by
  obtain ⟨kd, hw⟩ := h.curWF
  have hcl : S.cur.cs.length = m + 1 := by rw [hw.len]; exact hm
  obtain ⟨r1, r2⟩ := rows_vI P S
  obtain ⟨n1, n2, n3⟩ := hI_ne S
  have e1 : S.cur.pop.vs.length = m := by simp [FR.pop, hm]
  have e2 : S.cur.pop.cs.length = m := by simp [FR.pop, hm, hcl]
  have o1 : W.ownsRow n0 24 3 (.slice (some ⟨ga, 0, none⟩) m c) m (flatV S.cur.pop.vs) := by
    have := h.rws.row (vI S)
    rw [r1, hv, hm] at this
    have e : flatV S.cur.vs = flatV S.cur.pop.vs ++ (flatV S.cur.vs).drop (m * 3) := by
      simp only [FR.pop, hm, Nat.add_sub_cancel]
      rw [flatV_take, List.take_append_drop]
    dsimp only at this
    rw [e] at this
    exact ownsRow_pop (by rw [flatV_len, e1]) this
  have o2 : W.ownsRow n0 79 1 (.slice (some ⟨g, 0, none⟩) m c2) m (ptrs P.cb S.cur.pop.cs) := by
    have := h.rws.row (cI S)
    rw [r2, hc, hcl] at this
    have e : ptrs P.cb S.cur.cs = ptrs P.cb S.cur.pop.cs ++ (ptrs P.cb S.cur.cs).drop m := by
      simp only [FR.pop, hm, Nat.add_sub_cancel]
      rw [ptrs_take, List.take_append_drop]
    dsimp only at this
    rw [e] at this
    exact ownsRow_pop (by simp [ptrs, e2]) this
  rw [e1, e2]
  have s1 := Stp.upd (i := vI S) (r := ⟨.slice (some ⟨ga, 0, none⟩) m c, 24, 3, m, flatV S.cur.pop.vs⟩) h.rws (Chg.refl _ _) o1 (fun b hb => .inl (by rw [r1]; show (curV P S).ownBlock = some b; rw [hv]; exact hb))
  refine s1.trans (Stp.upd (i := cI S) s1.rws (Chg.refl _ _) o2 (fun b hb => .inl ?_))
  rw [updR_other (Ne.symm n3), r2]
  show (curC P S).ownBlock = some b
  rw [hc]
  exact hb

theorem close_fin {W : World} {n0 : Nat} {P : Ph} {S : ST} (h : SR W n0 P S) (m c g c2 lc B O : Nat) (a : Addr) (hm : S.cur.vs.length = m + 1) (hv : curV P S = .slice (some a) (m + 1) c) (hc : curC P S = .slice (some ⟨g, 0, none⟩) (m + 1) c2) (hB : (curP P S).block = B) (hO : oI S = O) (hlc : S.cur.loc = lc) (h0 : lc ≠ 0) :
    ∃ P', SStp n0 P S W P' (S.setCur S.cur.pop) (((W.setCell ⟨B, O, none⟩ (.slice (some a) m c)).setCell ⟨B, O + 1, none⟩ (.slice (some ⟨g, 0, none⟩) m c2)).setCell ⟨B, O + 2, none⟩ (.int .i64 ((lc : Int) - 1))).drew ∧ P'.sb = P.sb := by
  have hr := h.rws.row (vI S)
  rw [(rows_vI P S).1] at hr
  obtain ⟨ga, ca, hga, _⟩ := row_some hr (by dsimp only; omega)
  dsimp only at hga
  have ha : a = ⟨ga, 0, none⟩ := by
    have := hv.symm.trans hga
    injection this with e1
    injection e1
  subst ha
  have key := cur_rows h S.cur.pop (WF_setCur h.wf _ fun kd hk => WF_pop hk) W _ _ (pop_rows h m hm ga c g c2 hv hc)
  have el : ((S.cur.pop.loc : Nat) : Int) = (lc : Int) - 1 := by simp only [FR.pop, hlc]; omega
  rw [hB, hO, el] at key
  exact ⟨_, ⟨key.st.below (Below.refl _ _).drew, key.wf⟩, by unfold Ph.setCur; split <;> rfl⟩

set_option maxHeartbeats 4000000 in
set_option maxRecDepth 100000 in
theorem Close_any {W : World} {n0 : Nat} {P : Ph} {S : ST} (h : SR W n0 P S) (name : ByteArray) (x : Int) : Calls Try.prog 23 #[.pointer (some ⟨P.sb, 0, none⟩), .string name, .int .i64 x] W fun e W' => e = .returned (.int .i64 (closeE S name x).1) ∧ ∃ P', SStp n0 P S W P' (closeE S name x).2 W' ∧ P'.sb = P.sb := by
  have HS := Lib.hid h
  have HCU := Lib.hid (current_any h)
  obtain ⟨kd, hw⟩ := h.curWF
  obtain ⟨A, c, hcv, hc, hrow⟩ := h.curVs
  obtain ⟨h3, h4, h5⟩ := h.cur3
  obtain ⟨A2, c2, hcc, hc2, _⟩ := row_slice h.curCs
  rw [hcv] at h3
  rw [hcc, hw.len] at h4
  obtain ⟨hh1, hh2, hh3⟩ := cur_holder h
  obtain ⟨B, hB⟩ : ∃ B, (curP P S).block = B := ⟨_, rfl⟩
  obtain ⟨O, hO⟩ : ∃ O, oI S = O := ⟨_, rfl⟩
  have hcp : curP P S = ⟨B, O, none⟩ := by rw [hh1, hB, hO]
  have HB9 := Lib.hid hB
  have HO9 := Lib.hid hO
  rw [hcp] at h3 h4 h5 HCU
  dsimp only at h3 h4 h5
  obtain ⟨R, hR⟩ : ∃ R, closeE S name x = R := ⟨_, rfl⟩
  rw [hR]
  obtain ⟨lc, hlc⟩ : ∃ lc, S.cur.loc = lc := ⟨_, rfl⟩
  obtain ⟨L, hL⟩ : ∃ L, S.cur.vs.length = L := ⟨_, rfl⟩
  have hlim := hw.lim
  have hloc := hw.loc
  rw [hlc] at h5 hloc
  rw [hL] at h3 h4 hlim hloc
  have HROW := Lib.hid hrow
  have HWF := Lib.hid hw
  have HLC := Lib.hid hlc
  have HL := Lib.hid hL
  have HRR := Lib.hid hR
  have HCC := Lib.hid hcc
  have HCV := Lib.hid hcv
  have HC2 := Lib.hid hc2
  have hfz : ∀ i, W.frozen? ⟨B, i, none⟩ = false := fun i => h.rws.frozen (hI S) (by rw [← hB]; exact hh2) i
  clear h hw hcv hrow hcp hR hlc hL hcc hc2 hh1 hh2 hh3 hB hO
  by_cases hl0 : lc = 0
  · subst hl0
    have HX := Lib.hid (show R = (6, S) by rw [← HRR.out, closeE, if_pos (.inl HLC.out)])
    go_enter Try.func23, Try.ntmps23
    go_wp2_with fail
    refine HCU.out.mono ?_
    rintro e w1 ⟨rfl, rfl⟩
    go_wp2_with fail
    go_ret
    exact ⟨by rw [HX.out]; rfl, P, by rw [HX.out]; exact SStp.refl HS.out (Below.refl _ _), rfl⟩
  · obtain ⟨m, rfl⟩ : ∃ m, L = m + 1 := ⟨L - 1, by omega⟩
    have hml : m < S.cur.vs.length := by rw [HL.out]; omega
    obtain ⟨a, rfl, -, ⟨y0, y1, y2⟩, -⟩ := HROW.out m hml
    obtain ⟨v, hv⟩ : ∃ v, S.cur.vs[m] = v := ⟨_, rfl⟩
    rw [hv] at y0 y1 y2
    have hlv : lastV S.cur = v := by rw [← hv, lastV, HL.out]; simp [hml]
    have HLV := Lib.hid hlv
    obtain ⟨b, hb⟩ : ∃ b, (v.s.toList == name.toList) = b := ⟨_, rfl⟩
    have e1 : ((lc : Int) == 0) = false := by simp; omega
    have HB := Lib.hid hb
    have hml2 : (m : Int) < ((m + 1 : Nat) : Int) := by omega
    clear hlv hb
    cases b
    · have HX := Lib.hid (show R = (6, S) by rw [← HRR.out, closeE, if_pos (.inr (by rw [HLV.out]; exact HB.out))])
      have hbn := HB.out
      clear hv
      go_enter Try.func23, Try.ntmps23
      go_wp2_with fail
      refine HCU.out.mono ?_
      rintro e w1 ⟨rfl, rfl⟩
      go_wp2_with fail
      go_ret
      exact ⟨by rw [HX.out]; rfl, P, by rw [HX.out]; exact SStp.refl HS.out (Below.refl _ _), rfl⟩
    · have hbn := HB.out
      have hmc : m < S.cur.cs.length := by rw [HWF.out.len]; exact hml
      obtain ⟨id, hid⟩ : ∃ id, S.cur.cs[m] = id := ⟨_, rfl⟩
      have hidn : id < S.nc := by rw [← hid]; exact HWF.out.num _ (List.getElem_mem hmc)
      have hlcc : lastC S.cur = id := by rw [← hid, lastC, HL.out]; simp [hmc]
      obtain ⟨g, c2', hcc', _, _, hcell⟩ := row_some HS.out.curCs (by omega)
      obtain ⟨rfl, rfl⟩ : A2 = some ⟨g, 0, none⟩ ∧ c2 = c2' := by
        have := HCC.out.symm.trans hcc'
        injection this with e1 _ e3
        exact ⟨e1, e3⟩
      have z0 : W.cell? ⟨g, m, none⟩ = some (.pointer (some ⟨P.cb id, 0, none⟩)) := by rw [hcell m (by omega)]; simp [ptrs, hmc, hid]
      obtain ⟨A3, c3, hci, hc3, hri⟩ := HS.out.items hidn
      have z1 : W.cell? ⟨P.cb id, 0, none⟩ = some (.slice A3 (S.cell id).length c3) := by rw [← hci]; exact cell_of_blk (HS.out.cbox hidn) rfl
      obtain ⟨l, hl⟩ : ∃ l, S.cell id = l := ⟨_, rfl⟩
      have hll := (HS.out.wf.cells id hidn).1
      have hk1 : v.k = 1 → l.length = 1 := fun hk => by
        have := last_kind HS.out.wf hml hmc (by rw [hv]; exact hk)
        rw [hid, hl] at this
        exact this
      rw [hl] at z1 hri hll
      have HCL := Lib.hid hl
      have HR2 := Lib.hid (show R = if (v.k = 1 ∧ l.getD 0 0 ≠ x) ∨ (v.k = 3 ∧ 0 < l.length) then (16, S) else (0, S.setCur S.cur.pop) by
        rw [← HRR.out, closeE, if_neg (by rw [HLV.out, HB.out, HLC.out]; simp; omega), HLV.out, hlcc, hl])
      have HRI := Lib.hid hri
      clear hcell hcc' hci hri hl hlcc hid HRR hv
      by_cases k1 : v.k = 1
      · have hl1 := hk1 k1
        obtain ⟨a3, rfl, hx0⟩ := HRI.out.nd (i := 0) (by omega)
        simp only [Addr.add_zero'] at hx0
        obtain ⟨x0, hx0'⟩ : ∃ x0, l.getD 0 0 = x0 := ⟨_, rfl⟩
        rw [hx0'] at hx0 HR2
        rw [k1] at y1 HR2
        rw [hl1] at z1
        by_cases hxx : x0 = x
        · subst hxx
          have HX := Lib.hid (show R = (0, S.setCur S.cur.pop) by rw [HR2.out, if_neg (by simp)])
          have HFIN := Lib.hid (close_fin HS.out m c g c2 lc B O a HL.out (by rw [HCV.out, HL.out]) (by rw [HCC.out, HWF.out.len, HL.out]) HB9.out HO9.out HLC.out hl0)
          clear HR2 hx0' hk1 k1 hl1
          go_enter Try.func23, Try.ntmps23
          go_wp2_with fail
          refine HCU.out.mono ?_
          rintro e w1 ⟨rfl, rfl⟩
          go_upto_region 10 with fail
          have hSS : (fun _ : World => True) w1.drew ∧ (fun w' : World => w'.cell? ⟨B, O, none⟩ = some (.slice (some a) (m + 1) c) ∧ w'.cell? ⟨B, O + 1, none⟩ = some (.slice (some ⟨g, 0, none⟩) (m + 1) c2)) w1.drew := ⟨trivial, h3, h4⟩
          have hm1 : (m : Int) ≤ (c : Int) := by omega
          have hm2 : (m : Int) ≤ (c2 : Int) := by omega
          have hm0 : (0 : Int) ≤ (m : Int) := by omega
          refine wp_region_noPanic ?_
          refine wp_region_G (fun _ : World => True) (fun w' : World => w'.cell? ⟨B, O, none⟩ = some (.slice (some a) (m + 1) c) ∧ w'.cell? ⟨B, O + 1, none⟩ = some (.slice (some ⟨g, 0, none⟩) (m + 1) c2)) 16 (by kernel_rfl) ?_
          refine wpG_take1 (i := 0) (v := ?_) rfl (by kernel_rfl) (by kernel_rfl) (by kernel_rfl) (by decide) (fun _ _ _ h => h) (Or.inl ⟨by rfl, ?_⟩) hSS ?_
          rotate_left 1
          · (intro w hSw; (try dsimp only at hSw); (try simp only [List.getElem_toArray, List.getElem_cons_succ, List.getElem_cons_zero]); go_simp; (try with_reducible rfl))
          (try simp only [Act.put, List.getElem_toArray, List.getElem_cons_succ, List.getElem_cons_zero, List.setIfInBounds_toArray, List.set_cons_zero, List.set_cons_succ])
          refine wpG_take1 (i := 1) (v := ?_) rfl (by kernel_rfl) (by kernel_rfl) (by kernel_rfl) (by decide) (fun _ _ _ h => h) (Or.inl ⟨by rfl, ?_⟩) hSS ?_
          rotate_left 1
          · (intro w hSw; (try dsimp only at hSw); (try simp only [List.getElem_toArray, List.getElem_cons_succ, List.getElem_cons_zero]); go_simp; (try with_reducible rfl))
          (try simp only [Act.put, List.getElem_toArray, List.getElem_cons_succ, List.getElem_cons_zero, List.setIfInBounds_toArray, List.set_cons_zero, List.set_cons_succ])
          refine wpG_take1 (i := 2) (v := ?_) rfl (by kernel_rfl) (by kernel_rfl) (by kernel_rfl) (by decide) (fun _ _ _ h => h) (Or.inl ⟨by rfl, ?_⟩) hSS ?_
          rotate_left 1
          · (intro w hSw; (try dsimp only at hSw); (try simp only [List.getElem_toArray, List.getElem_cons_succ, List.getElem_cons_zero]); go_simp; (try with_reducible rfl))
          (try simp only [Act.put, List.getElem_toArray, List.getElem_cons_succ, List.getElem_cons_zero, List.setIfInBounds_toArray, List.set_cons_zero, List.set_cons_succ])
          refine wpG_take1 (i := 3) (v := ?_) rfl (by kernel_rfl) (by kernel_rfl) (by kernel_rfl) (by decide) (fun _ _ _ h => h) (Or.inl ⟨by rfl, ?_⟩) hSS ?_
          rotate_left 1
          · (intro w hSw; (try dsimp only at hSw); (try simp only [List.getElem_toArray, List.getElem_cons_succ, List.getElem_cons_zero]); go_simp; (try with_reducible rfl))
          (try simp only [Act.put, List.getElem_toArray, List.getElem_cons_succ, List.getElem_cons_zero, List.setIfInBounds_toArray, List.set_cons_zero, List.set_cons_succ])
          refine wpG_take1 (i := 4) (v := ?_) rfl (by kernel_rfl) (by kernel_rfl) (by kernel_rfl) (by decide) (fun _ _ _ h => h) (Or.inl ⟨by rfl, ?_⟩) hSS ?_
          rotate_left 1
          · (intro w hSw; (try dsimp only at hSw); (try simp only [List.getElem_toArray, List.getElem_cons_succ, List.getElem_cons_zero]); go_simp; (try with_reducible rfl))
          (try simp only [Act.put, List.getElem_toArray, List.getElem_cons_succ, List.getElem_cons_zero, List.setIfInBounds_toArray, List.set_cons_zero, List.set_cons_succ])
          refine wpG_take2 (i := 5) (v := ?_) rfl (by kernel_rfl) (by kernel_rfl) (by kernel_rfl) (by decide) rfl (by kernel_rfl) (by kernel_rfl) (fun _ _ _ h => h) (Or.inl ⟨by rfl, ?_⟩) hSS ?_
          rotate_left 1
          · (intro w hSw; (try dsimp only at hSw); (try simp only [List.getElem_toArray, List.getElem_cons_succ, List.getElem_cons_zero]); go_simp; (try with_reducible rfl))
          (try simp only [Act.put, List.getElem_toArray, List.getElem_cons_succ, List.getElem_cons_zero, List.setIfInBounds_toArray, List.set_cons_zero, List.set_cons_succ])
          refine wpG_take1 (i := 6) (v := ?_) rfl (by kernel_rfl) (by kernel_rfl) (by kernel_rfl) (by decide) (fun _ _ _ h => h) (Or.inl ⟨by rfl, ?_⟩) hSS ?_
          rotate_left 1
          · (intro w hSw; (try dsimp only at hSw); (try simp only [List.getElem_toArray, List.getElem_cons_succ, List.getElem_cons_zero]); go_simp; (try with_reducible rfl))
          (try simp only [Act.put, List.getElem_toArray, List.getElem_cons_succ, List.getElem_cons_zero, List.setIfInBounds_toArray, List.set_cons_zero, List.set_cons_succ])
          refine wpG_take1 (i := 7) (v := ?_) rfl (by kernel_rfl) (by kernel_rfl) (by kernel_rfl) (by decide) (fun _ _ _ h => h) (Or.inl ⟨by rfl, ?_⟩) hSS ?_
          rotate_left 1
          · (intro w hSw; (try dsimp only at hSw); (try simp only [List.getElem_toArray, List.getElem_cons_succ, List.getElem_cons_zero]); go_simp; (try with_reducible rfl))
          (try simp only [Act.put, List.getElem_toArray, List.getElem_cons_succ, List.getElem_cons_zero, List.setIfInBounds_toArray, List.set_cons_zero, List.set_cons_succ])
          refine wpG_take1 (i := 8) (v := ?_) rfl (by kernel_rfl) (by kernel_rfl) (by kernel_rfl) (by decide) (fun _ _ _ h => h) (Or.inl ⟨by rfl, ?_⟩) hSS ?_
          rotate_left 1
          · (intro w hSw; (try dsimp only at hSw); (try simp only [List.getElem_toArray, List.getElem_cons_succ, List.getElem_cons_zero]); go_simp; (try with_reducible rfl))
          (try simp only [Act.put, List.getElem_toArray, List.getElem_cons_succ, List.getElem_cons_zero, List.setIfInBounds_toArray, List.set_cons_zero, List.set_cons_succ])
          refine wpG_take1 (i := 9) (v := ?_) rfl (by kernel_rfl) (by kernel_rfl) (by kernel_rfl) (by decide) (fun _ _ _ h => h) (Or.inl ⟨by rfl, ?_⟩) hSS ?_
          rotate_left 1
          · (intro w hSw; (try dsimp only at hSw); (try simp only [List.getElem_toArray, List.getElem_cons_succ, List.getElem_cons_zero]); go_simp; (try with_reducible rfl))
          (try simp only [Act.put, List.getElem_toArray, List.getElem_cons_succ, List.getElem_cons_zero, List.setIfInBounds_toArray, List.set_cons_zero, List.set_cons_succ])
          refine wpG_take1 (i := 10) (v := ?_) rfl (by kernel_rfl) (by kernel_rfl) (by kernel_rfl) (by decide) (fun _ _ _ h => h) (Or.inl ⟨by rfl, ?_⟩) hSS ?_
          rotate_left 1
          · (intro w hSw; (try dsimp only at hSw); (try simp only [List.getElem_toArray, List.getElem_cons_succ, List.getElem_cons_zero]); go_simp; (try with_reducible rfl))
          (try simp only [Act.put, List.getElem_toArray, List.getElem_cons_succ, List.getElem_cons_zero, List.setIfInBounds_toArray, List.set_cons_zero, List.set_cons_succ])
          refine wpG_take2 (i := 11) (v := ?_) rfl (by kernel_rfl) (by kernel_rfl) (by kernel_rfl) (by decide) rfl (by kernel_rfl) (by kernel_rfl) (fun _ _ _ h => h) (Or.inl ⟨by rfl, ?_⟩) hSS ?_
          rotate_left 1
          · (intro w hSw; (try dsimp only at hSw); (try simp only [List.getElem_toArray, List.getElem_cons_succ, List.getElem_cons_zero]); go_simp; (try with_reducible rfl))
          (try simp only [Act.put, List.getElem_toArray, List.getElem_cons_succ, List.getElem_cons_zero, List.setIfInBounds_toArray, List.set_cons_zero, List.set_cons_succ])
          refine wpG_take1 (i := 12) (v := ?_) rfl (by kernel_rfl) (by kernel_rfl) (by kernel_rfl) (by decide) (fun _ _ _ h => h) (Or.inl ⟨by rfl, ?_⟩) hSS ?_
          rotate_left 1
          · (intro w hSw; (try dsimp only at hSw); (try simp only [List.getElem_toArray, List.getElem_cons_succ, List.getElem_cons_zero]); go_simp; (try with_reducible rfl))
          (try simp only [Act.put, List.getElem_toArray, List.getElem_cons_succ, List.getElem_cons_zero, List.setIfInBounds_toArray, List.set_cons_zero, List.set_cons_succ])
          refine wpG_take1 (i := 13) (v := ?_) rfl (by kernel_rfl) (by kernel_rfl) (by kernel_rfl) (by decide) (fun _ _ _ h => h) (Or.inl ⟨by rfl, ?_⟩) hSS ?_
          rotate_left 1
          · (intro w hSw; (try dsimp only at hSw); (try simp only [List.getElem_toArray, List.getElem_cons_succ, List.getElem_cons_zero]); go_simp; (try with_reducible rfl))
          (try simp only [Act.put, List.getElem_toArray, List.getElem_cons_succ, List.getElem_cons_zero, List.setIfInBounds_toArray, List.set_cons_zero, List.set_cons_succ])
          refine wpG_take1 (i := 14) (v := ?_) rfl (by kernel_rfl) (by kernel_rfl) (by kernel_rfl) (by decide) (fun _ _ _ h => h) (Or.inl ⟨by rfl, ?_⟩) hSS ?_
          rotate_left 1
          · (intro w hSw; (try dsimp only at hSw); (try simp only [List.getElem_toArray, List.getElem_cons_succ, List.getElem_cons_zero]); go_simp; (try with_reducible rfl))
          (try simp only [Act.put, List.getElem_toArray, List.getElem_cons_succ, List.getElem_cons_zero, List.setIfInBounds_toArray, List.set_cons_zero, List.set_cons_succ])
          refine wpG_take1 (i := 15) (v := ?_) rfl (by kernel_rfl) (by kernel_rfl) (by kernel_rfl) (by decide) (fun _ _ _ h => h) (Or.inl ⟨by rfl, ?_⟩) hSS ?_
          rotate_left 1
          · (intro w hSw; (try dsimp only at hSw); (try simp only [List.getElem_toArray, List.getElem_cons_succ, List.getElem_cons_zero]); go_simp; (try with_reducible rfl))
          (try simp only [Act.put, List.getElem_toArray, List.getElem_cons_succ, List.getElem_cons_zero, List.setIfInBounds_toArray, List.set_cons_zero, List.set_cons_succ])
          refine wpG_past (i := 16) (by kernel_rfl) rfl (by kernel_rfl) (fun K hK => ?_)
          (try simp only [List.getElem_toArray, List.getElem_cons_succ, List.getElem_cons_zero])
          have g3 : w1.drew.cell? ⟨B, O, none⟩ = some (.slice (some a) (m + 1) c) := h3
          have gf : w1.drew.frozen? ⟨B, O, none⟩ = false := hfz O
          go_simp
          refine hK.out _ _ trivial ?_
          clear hK K hSS
          (try simp only [Act.put, List.getElem_toArray, List.getElem_cons_succ, List.getElem_cons_zero, List.setIfInBounds_toArray, List.set_cons_zero, List.set_cons_succ])
          have j4 : (w1.setCell ⟨B, O, none⟩ (.slice (some a) m c)).drew.cell? ⟨B, O + 1, none⟩ = some (.slice (some ⟨g, 0, none⟩) (m + 1) c2) := (World.cell?_setCell_other w1 ⟨B, O, none⟩ ⟨B, O + 1, none⟩ _ (by simp)).trans h4
          have j5 : ((w1.setCell ⟨B, O, none⟩ (.slice (some a) m c)).setCell ⟨B, O + 1, none⟩ (.slice (some ⟨g, 0, none⟩) m c2)).cell? ⟨B, O + 2, none⟩ = some (.int .i64 lc) := (World.cell?_setCell_other _ ⟨B, O + 1, none⟩ ⟨B, O + 2, none⟩ _ (by simp)).trans ((World.cell?_setCell_other w1 ⟨B, O, none⟩ ⟨B, O + 2, none⟩ _ (by simp)).trans h5)
          refine wpG_past (i := 17) (by kernel_rfl) rfl (by kernel_rfl) (fun K hK => ?_)
          (try simp only [List.getElem_toArray, List.getElem_cons_succ, List.getElem_cons_zero])
          go_simp
          refine hK.out _ _ trivial ?_
          clear hK K
          (try simp only [Act.put, List.getElem_toArray, List.getElem_cons_succ, List.getElem_cons_zero, List.setIfInBounds_toArray, List.set_cons_zero, List.set_cons_succ])
          refine wpG_past (i := 18) (by kernel_rfl) rfl (by kernel_rfl) (fun K hK => ?_)
          (try simp only [List.getElem_toArray, List.getElem_cons_succ, List.getElem_cons_zero])
          go_simp
          refine hK.out _ _ trivial ?_
          clear hK K
          (try simp only [Act.put, List.getElem_toArray, List.getElem_cons_succ, List.getElem_cons_zero, List.setIfInBounds_toArray, List.set_cons_zero, List.set_cons_succ])
          refine wpG_past (i := 19) (by kernel_rfl) rfl (by kernel_rfl) (fun K hK => ?_)
          (try simp only [List.getElem_toArray, List.getElem_cons_succ, List.getElem_cons_zero])
          go_simp
          refine hK.out _ _ trivial ?_
          clear hK K
          (try simp only [Act.put, List.getElem_toArray, List.getElem_cons_succ, List.getElem_cons_zero, List.setIfInBounds_toArray, List.set_cons_zero, List.set_cons_succ])
          refine wpG_done (by kernel_rfl) ?_
          refine NoPanic.normal ?_
          clear g3 gf h3 h4 h5
          go_wp2_with fail
          go_ret
          refine ⟨by rw [HX.out]; rfl, ?_⟩
          rw [HX.out]
          exact HFIN.out
        · have HX := Lib.hid (show R = (16, S) by rw [HR2.out, if_pos (.inl ⟨rfl, hxx⟩)])
          have e5 : (x0 == x) = false := by simpa using hxx
          have e6 : (x0 != x) = true := by simpa using hxx
          clear HR2 hxx hx0' hk1 k1 hl1
          go_enter Try.func23, Try.ntmps23
          go_wp2_with fail
          refine HCU.out.mono ?_
          rintro e w1 ⟨rfl, rfl⟩
          go_wp2_with fail
          go_ret
          exact ⟨by rw [HX.out]; rfl, P, by rw [HX.out]; exact SStp.refl HS.out (Below.refl _ _), rfl⟩
      · have x1 : (v.k == 1) = false := by simpa using k1
        have hk1' := k1
        by_cases k3 : v.k = 3
        · rw [k3] at y1 HR2 x1
          have hk3 : True := trivial
          by_cases hl0' : l.length = 0
          · have HX := Lib.hid (show R = (0, S.setCur S.cur.pop) by rw [HR2.out, if_neg (by simp [hl0'])])
            rw [hl0'] at z1
            have HFIN := Lib.hid (close_fin HS.out m c g c2 lc B O a HL.out (by rw [HCV.out, HL.out]) (by rw [HCC.out, HWF.out.len, HL.out]) HB9.out HO9.out HLC.out hl0)
            clear HR2 hk1 k1 hk1' k3 hl0' x1
            go_enter Try.func23, Try.ntmps23
            go_wp2_with fail
            refine HCU.out.mono ?_
            rintro e w1 ⟨rfl, rfl⟩
            go_upto_region 10 with fail
            have hSS : (fun _ : World => True) w1.drew ∧ (fun w' : World => w'.cell? ⟨B, O, none⟩ = some (.slice (some a) (m + 1) c) ∧ w'.cell? ⟨B, O + 1, none⟩ = some (.slice (some ⟨g, 0, none⟩) (m + 1) c2)) w1.drew := ⟨trivial, h3, h4⟩
            have hm1 : (m : Int) ≤ (c : Int) := by omega
            have hm2 : (m : Int) ≤ (c2 : Int) := by omega
            have hm0 : (0 : Int) ≤ (m : Int) := by omega
            refine wp_region_noPanic ?_
            refine wp_region_G (fun _ : World => True) (fun w' : World => w'.cell? ⟨B, O, none⟩ = some (.slice (some a) (m + 1) c) ∧ w'.cell? ⟨B, O + 1, none⟩ = some (.slice (some ⟨g, 0, none⟩) (m + 1) c2)) 16 (by kernel_rfl) ?_
            refine wpG_take1 (i := 0) (v := ?_) rfl (by kernel_rfl) (by kernel_rfl) (by kernel_rfl) (by decide) (fun _ _ _ h => h) (Or.inl ⟨by rfl, ?_⟩) hSS ?_
            rotate_left 1
            · (intro w hSw; (try dsimp only at hSw); (try simp only [List.getElem_toArray, List.getElem_cons_succ, List.getElem_cons_zero]); go_simp; (try with_reducible rfl))
            (try simp only [Act.put, List.getElem_toArray, List.getElem_cons_succ, List.getElem_cons_zero, List.setIfInBounds_toArray, List.set_cons_zero, List.set_cons_succ])
            refine wpG_take1 (i := 1) (v := ?_) rfl (by kernel_rfl) (by kernel_rfl) (by kernel_rfl) (by decide) (fun _ _ _ h => h) (Or.inl ⟨by rfl, ?_⟩) hSS ?_
            rotate_left 1
            · (intro w hSw; (try dsimp only at hSw); (try simp only [List.getElem_toArray, List.getElem_cons_succ, List.getElem_cons_zero]); go_simp; (try with_reducible rfl))
            (try simp only [Act.put, List.getElem_toArray, List.getElem_cons_succ, List.getElem_cons_zero, List.setIfInBounds_toArray, List.set_cons_zero, List.set_cons_succ])
            refine wpG_take1 (i := 2) (v := ?_) rfl (by kernel_rfl) (by kernel_rfl) (by kernel_rfl) (by decide) (fun _ _ _ h => h) (Or.inl ⟨by rfl, ?_⟩) hSS ?_
            rotate_left 1
            · (intro w hSw; (try dsimp only at hSw); (try simp only [List.getElem_toArray, List.getElem_cons_succ, List.getElem_cons_zero]); go_simp; (try with_reducible rfl))
            (try simp only [Act.put, List.getElem_toArray, List.getElem_cons_succ, List.getElem_cons_zero, List.setIfInBounds_toArray, List.set_cons_zero, List.set_cons_succ])
            refine wpG_take1 (i := 3) (v := ?_) rfl (by kernel_rfl) (by kernel_rfl) (by kernel_rfl) (by decide) (fun _ _ _ h => h) (Or.inl ⟨by rfl, ?_⟩) hSS ?_
            rotate_left 1
            · (intro w hSw; (try dsimp only at hSw); (try simp only [List.getElem_toArray, List.getElem_cons_succ, List.getElem_cons_zero]); go_simp; (try with_reducible rfl))
            (try simp only [Act.put, List.getElem_toArray, List.getElem_cons_succ, List.getElem_cons_zero, List.setIfInBounds_toArray, List.set_cons_zero, List.set_cons_succ])
            refine wpG_take1 (i := 4) (v := ?_) rfl (by kernel_rfl) (by kernel_rfl) (by kernel_rfl) (by decide) (fun _ _ _ h => h) (Or.inl ⟨by rfl, ?_⟩) hSS ?_
            rotate_left 1
            · (intro w hSw; (try dsimp only at hSw); (try simp only [List.getElem_toArray, List.getElem_cons_succ, List.getElem_cons_zero]); go_simp; (try with_reducible rfl))
            (try simp only [Act.put, List.getElem_toArray, List.getElem_cons_succ, List.getElem_cons_zero, List.setIfInBounds_toArray, List.set_cons_zero, List.set_cons_succ])
            refine wpG_take2 (i := 5) (v := ?_) rfl (by kernel_rfl) (by kernel_rfl) (by kernel_rfl) (by decide) rfl (by kernel_rfl) (by kernel_rfl) (fun _ _ _ h => h) (Or.inl ⟨by rfl, ?_⟩) hSS ?_
            rotate_left 1
            · (intro w hSw; (try dsimp only at hSw); (try simp only [List.getElem_toArray, List.getElem_cons_succ, List.getElem_cons_zero]); go_simp; (try with_reducible rfl))
            (try simp only [Act.put, List.getElem_toArray, List.getElem_cons_succ, List.getElem_cons_zero, List.setIfInBounds_toArray, List.set_cons_zero, List.set_cons_succ])
            refine wpG_take1 (i := 6) (v := ?_) rfl (by kernel_rfl) (by kernel_rfl) (by kernel_rfl) (by decide) (fun _ _ _ h => h) (Or.inl ⟨by rfl, ?_⟩) hSS ?_
            rotate_left 1
            · (intro w hSw; (try dsimp only at hSw); (try simp only [List.getElem_toArray, List.getElem_cons_succ, List.getElem_cons_zero]); go_simp; (try with_reducible rfl))
            (try simp only [Act.put, List.getElem_toArray, List.getElem_cons_succ, List.getElem_cons_zero, List.setIfInBounds_toArray, List.set_cons_zero, List.set_cons_succ])
            refine wpG_take1 (i := 7) (v := ?_) rfl (by kernel_rfl) (by kernel_rfl) (by kernel_rfl) (by decide) (fun _ _ _ h => h) (Or.inl ⟨by rfl, ?_⟩) hSS ?_
            rotate_left 1
            · (intro w hSw; (try dsimp only at hSw); (try simp only [List.getElem_toArray, List.getElem_cons_succ, List.getElem_cons_zero]); go_simp; (try with_reducible rfl))
            (try simp only [Act.put, List.getElem_toArray, List.getElem_cons_succ, List.getElem_cons_zero, List.setIfInBounds_toArray, List.set_cons_zero, List.set_cons_succ])
            refine wpG_take1 (i := 8) (v := ?_) rfl (by kernel_rfl) (by kernel_rfl) (by kernel_rfl) (by decide) (fun _ _ _ h => h) (Or.inl ⟨by rfl, ?_⟩) hSS ?_
            rotate_left 1
            · (intro w hSw; (try dsimp only at hSw); (try simp only [List.getElem_toArray, List.getElem_cons_succ, List.getElem_cons_zero]); go_simp; (try with_reducible rfl))
            (try simp only [Act.put, List.getElem_toArray, List.getElem_cons_succ, List.getElem_cons_zero, List.setIfInBounds_toArray, List.set_cons_zero, List.set_cons_succ])
            refine wpG_take1 (i := 9) (v := ?_) rfl (by kernel_rfl) (by kernel_rfl) (by kernel_rfl) (by decide) (fun _ _ _ h => h) (Or.inl ⟨by rfl, ?_⟩) hSS ?_
            rotate_left 1
            · (intro w hSw; (try dsimp only at hSw); (try simp only [List.getElem_toArray, List.getElem_cons_succ, List.getElem_cons_zero]); go_simp; (try with_reducible rfl))
            (try simp only [Act.put, List.getElem_toArray, List.getElem_cons_succ, List.getElem_cons_zero, List.setIfInBounds_toArray, List.set_cons_zero, List.set_cons_succ])
            refine wpG_take1 (i := 10) (v := ?_) rfl (by kernel_rfl) (by kernel_rfl) (by kernel_rfl) (by decide) (fun _ _ _ h => h) (Or.inl ⟨by rfl, ?_⟩) hSS ?_
            rotate_left 1
            · (intro w hSw; (try dsimp only at hSw); (try simp only [List.getElem_toArray, List.getElem_cons_succ, List.getElem_cons_zero]); go_simp; (try with_reducible rfl))
            (try simp only [Act.put, List.getElem_toArray, List.getElem_cons_succ, List.getElem_cons_zero, List.setIfInBounds_toArray, List.set_cons_zero, List.set_cons_succ])
            refine wpG_take2 (i := 11) (v := ?_) rfl (by kernel_rfl) (by kernel_rfl) (by kernel_rfl) (by decide) rfl (by kernel_rfl) (by kernel_rfl) (fun _ _ _ h => h) (Or.inl ⟨by rfl, ?_⟩) hSS ?_
            rotate_left 1
            · (intro w hSw; (try dsimp only at hSw); (try simp only [List.getElem_toArray, List.getElem_cons_succ, List.getElem_cons_zero]); go_simp; (try with_reducible rfl))
            (try simp only [Act.put, List.getElem_toArray, List.getElem_cons_succ, List.getElem_cons_zero, List.setIfInBounds_toArray, List.set_cons_zero, List.set_cons_succ])
            refine wpG_take1 (i := 12) (v := ?_) rfl (by kernel_rfl) (by kernel_rfl) (by kernel_rfl) (by decide) (fun _ _ _ h => h) (Or.inl ⟨by rfl, ?_⟩) hSS ?_
            rotate_left 1
            · (intro w hSw; (try dsimp only at hSw); (try simp only [List.getElem_toArray, List.getElem_cons_succ, List.getElem_cons_zero]); go_simp; (try with_reducible rfl))
            (try simp only [Act.put, List.getElem_toArray, List.getElem_cons_succ, List.getElem_cons_zero, List.setIfInBounds_toArray, List.set_cons_zero, List.set_cons_succ])
            refine wpG_take1 (i := 13) (v := ?_) rfl (by kernel_rfl) (by kernel_rfl) (by kernel_rfl) (by decide) (fun _ _ _ h => h) (Or.inl ⟨by rfl, ?_⟩) hSS ?_
            rotate_left 1
            · (intro w hSw; (try dsimp only at hSw); (try simp only [List.getElem_toArray, List.getElem_cons_succ, List.getElem_cons_zero]); go_simp; (try with_reducible rfl))
            (try simp only [Act.put, List.getElem_toArray, List.getElem_cons_succ, List.getElem_cons_zero, List.setIfInBounds_toArray, List.set_cons_zero, List.set_cons_succ])
            refine wpG_take1 (i := 14) (v := ?_) rfl (by kernel_rfl) (by kernel_rfl) (by kernel_rfl) (by decide) (fun _ _ _ h => h) (Or.inl ⟨by rfl, ?_⟩) hSS ?_
            rotate_left 1
            · (intro w hSw; (try dsimp only at hSw); (try simp only [List.getElem_toArray, List.getElem_cons_succ, List.getElem_cons_zero]); go_simp; (try with_reducible rfl))
            (try simp only [Act.put, List.getElem_toArray, List.getElem_cons_succ, List.getElem_cons_zero, List.setIfInBounds_toArray, List.set_cons_zero, List.set_cons_succ])
            refine wpG_take1 (i := 15) (v := ?_) rfl (by kernel_rfl) (by kernel_rfl) (by kernel_rfl) (by decide) (fun _ _ _ h => h) (Or.inl ⟨by rfl, ?_⟩) hSS ?_
            rotate_left 1
            · (intro w hSw; (try dsimp only at hSw); (try simp only [List.getElem_toArray, List.getElem_cons_succ, List.getElem_cons_zero]); go_simp; (try with_reducible rfl))
            (try simp only [Act.put, List.getElem_toArray, List.getElem_cons_succ, List.getElem_cons_zero, List.setIfInBounds_toArray, List.set_cons_zero, List.set_cons_succ])
            refine wpG_past (i := 16) (by kernel_rfl) rfl (by kernel_rfl) (fun K hK => ?_)
            (try simp only [List.getElem_toArray, List.getElem_cons_succ, List.getElem_cons_zero])
            have g3 : w1.drew.cell? ⟨B, O, none⟩ = some (.slice (some a) (m + 1) c) := h3
            have gf : w1.drew.frozen? ⟨B, O, none⟩ = false := hfz O
            go_simp
            refine hK.out _ _ trivial ?_
            clear hK K hSS
            (try simp only [Act.put, List.getElem_toArray, List.getElem_cons_succ, List.getElem_cons_zero, List.setIfInBounds_toArray, List.set_cons_zero, List.set_cons_succ])
            have j4 : (w1.setCell ⟨B, O, none⟩ (.slice (some a) m c)).drew.cell? ⟨B, O + 1, none⟩ = some (.slice (some ⟨g, 0, none⟩) (m + 1) c2) := (World.cell?_setCell_other w1 ⟨B, O, none⟩ ⟨B, O + 1, none⟩ _ (by simp)).trans h4
            have j5 : ((w1.setCell ⟨B, O, none⟩ (.slice (some a) m c)).setCell ⟨B, O + 1, none⟩ (.slice (some ⟨g, 0, none⟩) m c2)).cell? ⟨B, O + 2, none⟩ = some (.int .i64 lc) := (World.cell?_setCell_other _ ⟨B, O + 1, none⟩ ⟨B, O + 2, none⟩ _ (by simp)).trans ((World.cell?_setCell_other w1 ⟨B, O, none⟩ ⟨B, O + 2, none⟩ _ (by simp)).trans h5)
            refine wpG_past (i := 17) (by kernel_rfl) rfl (by kernel_rfl) (fun K hK => ?_)
            (try simp only [List.getElem_toArray, List.getElem_cons_succ, List.getElem_cons_zero])
            go_simp
            refine hK.out _ _ trivial ?_
            clear hK K
            (try simp only [Act.put, List.getElem_toArray, List.getElem_cons_succ, List.getElem_cons_zero, List.setIfInBounds_toArray, List.set_cons_zero, List.set_cons_succ])
            refine wpG_past (i := 18) (by kernel_rfl) rfl (by kernel_rfl) (fun K hK => ?_)
            (try simp only [List.getElem_toArray, List.getElem_cons_succ, List.getElem_cons_zero])
            go_simp
            refine hK.out _ _ trivial ?_
            clear hK K
            (try simp only [Act.put, List.getElem_toArray, List.getElem_cons_succ, List.getElem_cons_zero, List.setIfInBounds_toArray, List.set_cons_zero, List.set_cons_succ])
            refine wpG_past (i := 19) (by kernel_rfl) rfl (by kernel_rfl) (fun K hK => ?_)
            (try simp only [List.getElem_toArray, List.getElem_cons_succ, List.getElem_cons_zero])
            go_simp
            refine hK.out _ _ trivial ?_
            clear hK K
            (try simp only [Act.put, List.getElem_toArray, List.getElem_cons_succ, List.getElem_cons_zero, List.setIfInBounds_toArray, List.set_cons_zero, List.set_cons_succ])
            refine wpG_done (by kernel_rfl) ?_
            refine NoPanic.normal ?_
            clear g3 gf h3 h4 h5
            go_wp2_with fail
            go_ret
            refine ⟨by rw [HX.out]; rfl, ?_⟩
            rw [HX.out]
            exact HFIN.out
          · have HX := Lib.hid (show R = (16, S) by rw [HR2.out, if_pos (.inr ⟨rfl, by omega⟩)])
            have e5 : (0 : Int) < (l.length : Int) := by omega
            clear HR2 hk1 k1 hk1' k3 hl0' x1
            go_enter Try.func23, Try.ntmps23
            go_wp2_with fail
            refine HCU.out.mono ?_
            rintro e w1 ⟨rfl, rfl⟩
            go_wp2_with fail
            go_ret
            exact ⟨by rw [HX.out]; rfl, P, by rw [HX.out]; exact SStp.refl HS.out (Below.refl _ _), rfl⟩
        · have x3 : (v.k == 3) = false := by simpa using k3
          have HX := Lib.hid (show R = (0, S.setCur S.cur.pop) by rw [HR2.out, if_neg (by simp [k1, k3])])
          have HFIN := Lib.hid (close_fin HS.out m c g c2 lc B O a HL.out (by rw [HCV.out, HL.out]) (by rw [HCC.out, HWF.out.len, HL.out]) HB9.out HO9.out HLC.out hl0)
          clear HR2 hk1 k1 hk1' k3
          go_enter Try.func23, Try.ntmps23
          go_wp2_with fail
          refine HCU.out.mono ?_
          rintro e w1 ⟨rfl, rfl⟩
          go_upto_region 10 with fail
          have hSS : (fun _ : World => True) w1.drew ∧ (fun w' : World => w'.cell? ⟨B, O, none⟩ = some (.slice (some a) (m + 1) c) ∧ w'.cell? ⟨B, O + 1, none⟩ = some (.slice (some ⟨g, 0, none⟩) (m + 1) c2)) w1.drew := ⟨trivial, h3, h4⟩
          have hm1 : (m : Int) ≤ (c : Int) := by omega
          have hm2 : (m : Int) ≤ (c2 : Int) := by omega
          have hm0 : (0 : Int) ≤ (m : Int) := by omega
          refine wp_region_noPanic ?_
          refine wp_region_G (fun _ : World => True) (fun w' : World => w'.cell? ⟨B, O, none⟩ = some (.slice (some a) (m + 1) c) ∧ w'.cell? ⟨B, O + 1, none⟩ = some (.slice (some ⟨g, 0, none⟩) (m + 1) c2)) 16 (by kernel_rfl) ?_
          refine wpG_take1 (i := 0) (v := ?_) rfl (by kernel_rfl) (by kernel_rfl) (by kernel_rfl) (by decide) (fun _ _ _ h => h) (Or.inl ⟨by rfl, ?_⟩) hSS ?_
          rotate_left 1
          · (intro w hSw; (try dsimp only at hSw); (try simp only [List.getElem_toArray, List.getElem_cons_succ, List.getElem_cons_zero]); go_simp; (try with_reducible rfl))
          (try simp only [Act.put, List.getElem_toArray, List.getElem_cons_succ, List.getElem_cons_zero, List.setIfInBounds_toArray, List.set_cons_zero, List.set_cons_succ])
          refine wpG_take1 (i := 1) (v := ?_) rfl (by kernel_rfl) (by kernel_rfl) (by kernel_rfl) (by decide) (fun _ _ _ h => h) (Or.inl ⟨by rfl, ?_⟩) hSS ?_
          rotate_left 1
          · (intro w hSw; (try dsimp only at hSw); (try simp only [List.getElem_toArray, List.getElem_cons_succ, List.getElem_cons_zero]); go_simp; (try with_reducible rfl))
          (try simp only [Act.put, List.getElem_toArray, List.getElem_cons_succ, List.getElem_cons_zero, List.setIfInBounds_toArray, List.set_cons_zero, List.set_cons_succ])
          refine wpG_take1 (i := 2) (v := ?_) rfl (by kernel_rfl) (by kernel_rfl) (by kernel_rfl) (by decide) (fun _ _ _ h => h) (Or.inl ⟨by rfl, ?_⟩) hSS ?_
          rotate_left 1
          · (intro w hSw; (try dsimp only at hSw); (try simp only [List.getElem_toArray, List.getElem_cons_succ, List.getElem_cons_zero]); go_simp; (try with_reducible rfl))
          (try simp only [Act.put, List.getElem_toArray, List.getElem_cons_succ, List.getElem_cons_zero, List.setIfInBounds_toArray, List.set_cons_zero, List.set_cons_succ])
          refine wpG_take1 (i := 3) (v := ?_) rfl (by kernel_rfl) (by kernel_rfl) (by kernel_rfl) (by decide) (fun _ _ _ h => h) (Or.inl ⟨by rfl, ?_⟩) hSS ?_
          rotate_left 1
          · (intro w hSw; (try dsimp only at hSw); (try simp only [List.getElem_toArray, List.getElem_cons_succ, List.getElem_cons_zero]); go_simp; (try with_reducible rfl))
          (try simp only [Act.put, List.getElem_toArray, List.getElem_cons_succ, List.getElem_cons_zero, List.setIfInBounds_toArray, List.set_cons_zero, List.set_cons_succ])
          refine wpG_take1 (i := 4) (v := ?_) rfl (by kernel_rfl) (by kernel_rfl) (by kernel_rfl) (by decide) (fun _ _ _ h => h) (Or.inl ⟨by rfl, ?_⟩) hSS ?_
          rotate_left 1
          · (intro w hSw; (try dsimp only at hSw); (try simp only [List.getElem_toArray, List.getElem_cons_succ, List.getElem_cons_zero]); go_simp; (try with_reducible rfl))
          (try simp only [Act.put, List.getElem_toArray, List.getElem_cons_succ, List.getElem_cons_zero, List.setIfInBounds_toArray, List.set_cons_zero, List.set_cons_succ])
          refine wpG_take2 (i := 5) (v := ?_) rfl (by kernel_rfl) (by kernel_rfl) (by kernel_rfl) (by decide) rfl (by kernel_rfl) (by kernel_rfl) (fun _ _ _ h => h) (Or.inl ⟨by rfl, ?_⟩) hSS ?_
          rotate_left 1
          · (intro w hSw; (try dsimp only at hSw); (try simp only [List.getElem_toArray, List.getElem_cons_succ, List.getElem_cons_zero]); go_simp; (try with_reducible rfl))
          (try simp only [Act.put, List.getElem_toArray, List.getElem_cons_succ, List.getElem_cons_zero, List.setIfInBounds_toArray, List.set_cons_zero, List.set_cons_succ])
          refine wpG_take1 (i := 6) (v := ?_) rfl (by kernel_rfl) (by kernel_rfl) (by kernel_rfl) (by decide) (fun _ _ _ h => h) (Or.inl ⟨by rfl, ?_⟩) hSS ?_
          rotate_left 1
          · (intro w hSw; (try dsimp only at hSw); (try simp only [List.getElem_toArray, List.getElem_cons_succ, List.getElem_cons_zero]); go_simp; (try with_reducible rfl))
          (try simp only [Act.put, List.getElem_toArray, List.getElem_cons_succ, List.getElem_cons_zero, List.setIfInBounds_toArray, List.set_cons_zero, List.set_cons_succ])
          refine wpG_take1 (i := 7) (v := ?_) rfl (by kernel_rfl) (by kernel_rfl) (by kernel_rfl) (by decide) (fun _ _ _ h => h) (Or.inl ⟨by rfl, ?_⟩) hSS ?_
          rotate_left 1
          · (intro w hSw; (try dsimp only at hSw); (try simp only [List.getElem_toArray, List.getElem_cons_succ, List.getElem_cons_zero]); go_simp; (try with_reducible rfl))
          (try simp only [Act.put, List.getElem_toArray, List.getElem_cons_succ, List.getElem_cons_zero, List.setIfInBounds_toArray, List.set_cons_zero, List.set_cons_succ])
          refine wpG_take1 (i := 8) (v := ?_) rfl (by kernel_rfl) (by kernel_rfl) (by kernel_rfl) (by decide) (fun _ _ _ h => h) (Or.inl ⟨by rfl, ?_⟩) hSS ?_
          rotate_left 1
          · (intro w hSw; (try dsimp only at hSw); (try simp only [List.getElem_toArray, List.getElem_cons_succ, List.getElem_cons_zero]); go_simp; (try with_reducible rfl))
          (try simp only [Act.put, List.getElem_toArray, List.getElem_cons_succ, List.getElem_cons_zero, List.setIfInBounds_toArray, List.set_cons_zero, List.set_cons_succ])
          refine wpG_take1 (i := 9) (v := ?_) rfl (by kernel_rfl) (by kernel_rfl) (by kernel_rfl) (by decide) (fun _ _ _ h => h) (Or.inl ⟨by rfl, ?_⟩) hSS ?_
          rotate_left 1
          · (intro w hSw; (try dsimp only at hSw); (try simp only [List.getElem_toArray, List.getElem_cons_succ, List.getElem_cons_zero]); go_simp; (try with_reducible rfl))
          (try simp only [Act.put, List.getElem_toArray, List.getElem_cons_succ, List.getElem_cons_zero, List.setIfInBounds_toArray, List.set_cons_zero, List.set_cons_succ])
          refine wpG_take1 (i := 10) (v := ?_) rfl (by kernel_rfl) (by kernel_rfl) (by kernel_rfl) (by decide) (fun _ _ _ h => h) (Or.inl ⟨by rfl, ?_⟩) hSS ?_
          rotate_left 1
          · (intro w hSw; (try dsimp only at hSw); (try simp only [List.getElem_toArray, List.getElem_cons_succ, List.getElem_cons_zero]); go_simp; (try with_reducible rfl))
          (try simp only [Act.put, List.getElem_toArray, List.getElem_cons_succ, List.getElem_cons_zero, List.setIfInBounds_toArray, List.set_cons_zero, List.set_cons_succ])
          refine wpG_take2 (i := 11) (v := ?_) rfl (by kernel_rfl) (by kernel_rfl) (by kernel_rfl) (by decide) rfl (by kernel_rfl) (by kernel_rfl) (fun _ _ _ h => h) (Or.inl ⟨by rfl, ?_⟩) hSS ?_
          rotate_left 1
          · (intro w hSw; (try dsimp only at hSw); (try simp only [List.getElem_toArray, List.getElem_cons_succ, List.getElem_cons_zero]); go_simp; (try with_reducible rfl))
          (try simp only [Act.put, List.getElem_toArray, List.getElem_cons_succ, List.getElem_cons_zero, List.setIfInBounds_toArray, List.set_cons_zero, List.set_cons_succ])
          refine wpG_take1 (i := 12) (v := ?_) rfl (by kernel_rfl) (by kernel_rfl) (by kernel_rfl) (by decide) (fun _ _ _ h => h) (Or.inl ⟨by rfl, ?_⟩) hSS ?_
          rotate_left 1
          · (intro w hSw; (try dsimp only at hSw); (try simp only [List.getElem_toArray, List.getElem_cons_succ, List.getElem_cons_zero]); go_simp; (try with_reducible rfl))
          (try simp only [Act.put, List.getElem_toArray, List.getElem_cons_succ, List.getElem_cons_zero, List.setIfInBounds_toArray, List.set_cons_zero, List.set_cons_succ])
          refine wpG_take1 (i := 13) (v := ?_) rfl (by kernel_rfl) (by kernel_rfl) (by kernel_rfl) (by decide) (fun _ _ _ h => h) (Or.inl ⟨by rfl, ?_⟩) hSS ?_
          rotate_left 1
          · (intro w hSw; (try dsimp only at hSw); (try simp only [List.getElem_toArray, List.getElem_cons_succ, List.getElem_cons_zero]); go_simp; (try with_reducible rfl))
          (try simp only [Act.put, List.getElem_toArray, List.getElem_cons_succ, List.getElem_cons_zero, List.setIfInBounds_toArray, List.set_cons_zero, List.set_cons_succ])
          refine wpG_take1 (i := 14) (v := ?_) rfl (by kernel_rfl) (by kernel_rfl) (by kernel_rfl) (by decide) (fun _ _ _ h => h) (Or.inl ⟨by rfl, ?_⟩) hSS ?_
          rotate_left 1
          · (intro w hSw; (try dsimp only at hSw); (try simp only [List.getElem_toArray, List.getElem_cons_succ, List.getElem_cons_zero]); go_simp; (try with_reducible rfl))
          (try simp only [Act.put, List.getElem_toArray, List.getElem_cons_succ, List.getElem_cons_zero, List.setIfInBounds_toArray, List.set_cons_zero, List.set_cons_succ])
          refine wpG_take1 (i := 15) (v := ?_) rfl (by kernel_rfl) (by kernel_rfl) (by kernel_rfl) (by decide) (fun _ _ _ h => h) (Or.inl ⟨by rfl, ?_⟩) hSS ?_
          rotate_left 1
          · (intro w hSw; (try dsimp only at hSw); (try simp only [List.getElem_toArray, List.getElem_cons_succ, List.getElem_cons_zero]); go_simp; (try with_reducible rfl))
          (try simp only [Act.put, List.getElem_toArray, List.getElem_cons_succ, List.getElem_cons_zero, List.setIfInBounds_toArray, List.set_cons_zero, List.set_cons_succ])
          refine wpG_past (i := 16) (by kernel_rfl) rfl (by kernel_rfl) (fun K hK => ?_)
          (try simp only [List.getElem_toArray, List.getElem_cons_succ, List.getElem_cons_zero])
          have g3 : w1.drew.cell? ⟨B, O, none⟩ = some (.slice (some a) (m + 1) c) := h3
          have gf : w1.drew.frozen? ⟨B, O, none⟩ = false := hfz O
          go_simp
          refine hK.out _ _ trivial ?_
          clear hK K hSS
          (try simp only [Act.put, List.getElem_toArray, List.getElem_cons_succ, List.getElem_cons_zero, List.setIfInBounds_toArray, List.set_cons_zero, List.set_cons_succ])
          have j4 : (w1.setCell ⟨B, O, none⟩ (.slice (some a) m c)).drew.cell? ⟨B, O + 1, none⟩ = some (.slice (some ⟨g, 0, none⟩) (m + 1) c2) := (World.cell?_setCell_other w1 ⟨B, O, none⟩ ⟨B, O + 1, none⟩ _ (by simp)).trans h4
          have j5 : ((w1.setCell ⟨B, O, none⟩ (.slice (some a) m c)).setCell ⟨B, O + 1, none⟩ (.slice (some ⟨g, 0, none⟩) m c2)).cell? ⟨B, O + 2, none⟩ = some (.int .i64 lc) := (World.cell?_setCell_other _ ⟨B, O + 1, none⟩ ⟨B, O + 2, none⟩ _ (by simp)).trans ((World.cell?_setCell_other w1 ⟨B, O, none⟩ ⟨B, O + 2, none⟩ _ (by simp)).trans h5)
          refine wpG_past (i := 17) (by kernel_rfl) rfl (by kernel_rfl) (fun K hK => ?_)
          (try simp only [List.getElem_toArray, List.getElem_cons_succ, List.getElem_cons_zero])
          go_simp
          refine hK.out _ _ trivial ?_
          clear hK K
          (try simp only [Act.put, List.getElem_toArray, List.getElem_cons_succ, List.getElem_cons_zero, List.setIfInBounds_toArray, List.set_cons_zero, List.set_cons_succ])
          refine wpG_past (i := 18) (by kernel_rfl) rfl (by kernel_rfl) (fun K hK => ?_)
          (try simp only [List.getElem_toArray, List.getElem_cons_succ, List.getElem_cons_zero])
          go_simp
          refine hK.out _ _ trivial ?_
          clear hK K
          (try simp only [Act.put, List.getElem_toArray, List.getElem_cons_succ, List.getElem_cons_zero, List.setIfInBounds_toArray, List.set_cons_zero, List.set_cons_succ])
          refine wpG_past (i := 19) (by kernel_rfl) rfl (by kernel_rfl) (fun K hK => ?_)
          (try simp only [List.getElem_toArray, List.getElem_cons_succ, List.getElem_cons_zero])
          go_simp
          refine hK.out _ _ trivial ?_
          clear hK K
          (try simp only [Act.put, List.getElem_toArray, List.getElem_cons_succ, List.getElem_cons_zero, List.setIfInBounds_toArray, List.set_cons_zero, List.set_cons_succ])
          refine wpG_done (by kernel_rfl) ?_
          refine NoPanic.normal ?_
          clear g3 gf h3 h4 h5
          go_wp2_with fail
          go_ret
          refine ⟨by rw [HX.out]; rfl, ?_⟩
          rw [HX.out]
          exact HFIN.out

end Go.Proofs.Ytekjfbnggfbfhaa

/-
  The store: a new cell; a local is opened. Plain part and rows.
-/
set_option linter.unusedSimpArgs false
set_option linter.unusedVariables false
namespace Go.Proofs.Ytekjfbnggfbfhaa
open Go Go.RowKit

/-- The store with one cell more. -/
def ST.newCell (S : ST) (l : List Int) : ST := { S with cell := fun i => if i = S.nc then l else S.cell i, nc := S.nc + 1 }
def Ph.newCell (P : Ph) (S : ST) (b : Nat) (v : Value) : Ph := { P with cb := fun i => if i = S.nc then b else P.cb i, ci := fun i => if i = S.nc then v else P.ci i }
theorem ptrs_new {cb : Nat → Nat} {nc b : Nat} {cs : List Nat} (h : ∀ c ∈ cs, c < nc) : ptrs (fun i => if i = nc then b else cb i) cs = ptrs cb cs := by
  unfold ptrs
  refine List.map_congr_left fun c hc => ?_
  have := h c hc
  have e : c ≠ nc := by omega
  simp [e]
theorem rows_newCell {S : ST} (hw : S.WF) (P : Ph) (b : Nat) (v : Value) (l : List Int) : rows (P.newCell S b v) (S.newCell l) =
    updR (updR (rows P S) (.cb S.nc) ⟨boxV b, 82, 1, 1, [v]⟩) (.ci S.nc) ⟨v, 3, 1, l.length, flatI l⟩ := by
  obtain ⟨kd, h1, h2, _⟩ := hw.ex
  funext r
  cases r with
  | cb i =>
    by_cases e : i = S.nc
    · subst e; simp [updR, rows, Ph.newCell, ST.newCell]
    · have : (i < S.nc + 1) = (i < S.nc) := by simp; omega
      simp [updR, rows, Ph.newCell, ST.newCell, e, this]
  | ci i =>
    by_cases e : i = S.nc
    · subst e; simp [updR, rows, Ph.newCell, ST.newCell]
    · have : (i < S.nc + 1) = (i < S.nc) := by simp; omega
      simp [updR, rows, Ph.newCell, ST.newCell, e, this]
  | bc => simp [updR, rows, Ph.newCell, ST.newCell, ptrs_new h1.num]
  | fc i =>
    simp only [updR, reduceCtorEq, if_false, rows, ST.newCell, Ph.newCell]
    cases hi : S.calls[i]? with
    | none => rfl
    | some f => simp only [ptrs_new (h2 f (List.mem_of_getElem? hi)).num]
  | calls =>
    simp only [updR, reduceCtorEq, if_false, rows, ST.newCell]
    rw [flatF_congr (P := P) (P' := P.newCell S b v) rfl rfl]
    rfl
  | fv i => simp [updR, rows, Ph.newCell, ST.newCell]
  | sb => simp [updR, rows, Ph.newCell, ST.newCell]
  | tb => simp [updR, rows, Ph.newCell, ST.newCell]
  | tin => simp [updR, rows, Ph.newCell, ST.newCell]
  | tout => simp [updR, rows, Ph.newCell, ST.newCell]
  | bv => simp [updR, rows, Ph.newCell, ST.newCell]
  | x i => simp [updR, rows]
/-- The kinds of the cells, one more. -/
theorem FR.WF.new {f : FR} {kd : Nat → Int × Int} {nc : Nat} (h : f.WF kd nc) (k : Int × Int) : f.WF (fun i => if i = nc then k else kd i) (nc + 1) := by
  refine ⟨h.len, h.loc, h.lim, h.fld, fun c hc => by have := h.num c hc; omega, fun i hi hi' => ?_⟩
  have := h.num _ (List.getElem_mem hi')
  rw [if_neg (by omega)]
  exact h.kind i hi hi'
theorem newCell_cur (S : ST) (l : List Int) : (S.newCell l).cur = S.cur := rfl
theorem WF_newCell {S : ST} (h : S.WF) (l : List Int) (k : Int × Int) (hl : l.length ≤ 1000) (hf : ∀ x ∈ l, I64 x) (hk : (k.1 = 1 → l.length = 1) ∧ (k.1 = 2 → (l.length : Int) = k.2) ∧ (k.1 = 1 ∨ k.1 = 2 ∨ k.1 = 3)) : (S.newCell l).WF := by
  obtain ⟨kd, h1, h2, h3⟩ := h.ex
  refine ⟨⟨fun i => if i = S.nc then k else kd i, h1.new k, fun f hf => (h2 f hf).new k, fun i hi => ?_⟩, h.ncalls, fun i hi => ?_, h.tin, h.tout⟩
  · simp only [ST.newCell] at hi ⊢
    by_cases e : i = S.nc
    · subst e; simpa using hk
    · simp only [e, if_false]; exact h3 i (by omega)
  · simp only [ST.newCell] at hi ⊢
    by_cases e : i = S.nc
    · subst e; simpa using ⟨hl, hf⟩
    · simp only [e, if_false]; exact h.cells i (by omega)

theorem rows_new0 (P : Ph) (S : ST) : rows P S (.cb S.nc) = nilR ∧ rows P S (.ci S.nc) = nilR := by simp [rows]
/-- A block of one element that is laid anew is a row. -/
theorem own_new {k : Nat} (w : World) (n0 : Nat) (E : TypeId) (xs : List Value) (hn : n0 ≤ w.heap.size) (hx : xs.length = k) : (w.alloc (.cells xs.toArray E)).ownsRow n0 E k (.slice (some ⟨w.heap.size, 0, none⟩) 1 1) 1 xs :=
  ⟨by omega, .inr ⟨w.heap.size, 1, xs.toArray, rfl, hn, heap_alloc_new w _, Nat.le_refl _, by decide, by simp [hx], by rw [Nat.one_mul, ← hx]; simp⟩⟩
/-- A new cell with one element. -/
theorem newCell_int {W w2 : World} {n0 : Nat} {P : Ph} {S : ST} (h : SR W n0 P S) (hb : Below W.heap.size W w2) (x : Int) (hx : I64 x) :
    SStp n0 P S W (P.newCell S w2.heap.size (.slice (some ⟨w2.heap.size + 1, 0, none⟩) 1 1)) (S.newCell [x]) ((w2.alloc (.cells #[.slice (some ⟨w2.heap.size + 1, 0, none⟩) 1 1] 82)).alloc (.cells #[.int .i64 x] 3)) := by
  have hn : n0 ≤ w2.heap.size := by
    have h1 := (h.rws.lt .sb P.sb rfl)
    have h2 := hb.size
    omega
  obtain ⟨r1, r2⟩ := rows_new0 P S
  have s0 := (Stp.refl h.rws).below hb
  have s1 := Stp.upd (i := Res.cb S.nc) (r := ⟨boxV w2.heap.size, 82, 1, 1, [.slice (some ⟨w2.heap.size + 1, 0, none⟩) 1 1]⟩) s0.rws (Chg.of_below (bl_al (Below.refl _ _) (.cells #[.slice (some ⟨w2.heap.size + 1, 0, none⟩) 1 1] 82))) (own_new w2 n0 _ [_] hn rfl) (fun b hb => .inr (by simp [Value.ownBlock] at hb; omega))
  have o2 := own_new (k := 1) (w2.alloc (.cells #[.slice (some ⟨w2.heap.size + 1, 0, none⟩) 1 1] 82)) n0 3 [.int .i64 x] (by simp; omega) rfl
  rw [World.size_alloc] at o2
  have s2 := Stp.upd (i := Res.ci S.nc) (r := ⟨.slice (some ⟨w2.heap.size + 1, 0, none⟩) 1 1, 3, 1, 1, [.int .i64 x]⟩) s1.rws (Chg.of_below (bl_al (Below.refl _ _) (.cells #[.int .i64 x] 3))) o2 (fun b hb => .inr (by simp [Value.ownBlock] at hb; simp; omega))
  refine ⟨((s0.trans s1).trans s2).cast ?_, WF_newCell h.wf [x] (1, 0) (by simp) (by simpa using hx) (by simp)⟩
  rw [rows_newCell h.wf]
  rfl

/-- A new cell without elements. -/
theorem newCell_stack {W w2 : World} {n0 : Nat} {P : Ph} {S : ST} (h : SR W n0 P S) (hb : Below W.heap.size W w2) :
    SStp n0 P S W (P.newCell S w2.heap.size (.slice none 0 0)) (S.newCell []) (w2.alloc (.cells #[.slice none 0 0] 82)) := by
  have hn : n0 ≤ w2.heap.size := by
    have h1 := (h.rws.lt .sb P.sb rfl)
    have h2 := hb.size
    omega
  have s0 := (Stp.refl h.rws).below hb
  have s1 := Stp.upd (i := Res.cb S.nc) (r := ⟨boxV w2.heap.size, 82, 1, 1, [.slice none 0 0]⟩) s0.rws (Chg.of_below (bl_al (Below.refl _ _) (.cells #[.slice none 0 0] 82))) (own_new w2 n0 _ [_] hn rfl) (fun b hb => .inr (by simp [Value.ownBlock] at hb; omega))
  have s2 := Stp.upd (i := Res.ci S.nc) (r := ⟨.slice none 0 0, 3, 1, 0, []⟩) s1.rws (Chg.refl _ _) (World.ownsRow_nil _ _ _ _) (fun b hb => by simp [Value.ownBlock] at hb)
  refine ⟨((s0.trans s1).trans s2).cast ?_, WF_newCell h.wf [] (3, 0) (by simp) (by simp) (by simp)⟩
  rw [rows_newCell h.wf]
  rfl

/-- What the holder of the current frame holds. -/
theorem hold_get (P : Ph) (S : ST) : (rows P S (hI S)).xs[oI S]? = some (curV P S) ∧ (rows P S (hI S)).xs[oI S + 1]? = some (curC P S) ∧ (rows P S (hI S)).xs[oI S + 2]? = some (.int .i64 S.cur.loc) := by
  by_cases h0 : S.calls.length = 0
  · simp [hI, oI, curV, curC, h0, rows, cur_0 h0]
  · obtain ⟨g1, g2, g3⟩ := flatF_get P S.calls 0 (S.calls.length - 1) (by omega)
    simp only [Nat.zero_add] at g1 g2
    simp only [hI, oI, curV, curC, h0, if_false, rows, cur_1 (show 0 < S.calls.length by omega)]
    exact ⟨g1, g2, g3⟩
/-- frame.add at the current frame of a store. -/
theorem add_cur {W : World} {n0 : Nat} {P : Ph} {S : ST} (h : SR W n0 P S) (v : VD) (q : Option Addr) (hlim : S.cur.vs.length ≤ 4398046511000) :
    Calls Try.prog 32 #[.pointer (some ⟨(curP P S).block, oI S, none⟩), .agg #[.string v.s, .int .u8 v.k, .int .i64 v.n], .pointer q] W fun e W' => (∃ u, e = .returned u) ∧ ∃ vv vc,
      Stp n0 (rows P S) W (updR (updR (updR (rows P S) (vI S) ⟨vv, 24, 3, S.cur.vs.length + 1, flatV S.cur.vs ++ [.string v.s, .int .u8 v.k, .int .i64 v.n]⟩) (cI S) ⟨vc, 79, 1, S.cur.vs.length + 1, ptrs P.cb S.cur.cs ++ [.pointer q]⟩) (hI S) { rows P S (hI S) with xs := ((rows P S (hI S)).xs.set (oI S) vv).set (oI S + 1) vc }) W' := by
  obtain ⟨n1, n2, n3⟩ := hI_ne S
  obtain ⟨r1, r2⟩ := rows_vI P S
  obtain ⟨g1, g2, _⟩ := hold_get P S
  obtain ⟨_, hb, _⟩ := cur_holder h
  obtain ⟨kd, hw⟩ := h.curWF
  refine add_any h.rws (hI S) (vI S) (cI S) n1 n2 n3 _ _ hb (by rw [g1, r1]) (by rw [g2, r2]) (flatV S.cur.vs) (ptrs P.cb S.cur.cs) S.cur.vs.length (by rw [r1]) (by rw [r2, hw.len]) hlim v q

/-- The frame with one local more. -/
def FR.push (f : FR) (v : VD) (id : Nat) : FR := ⟨f.vs ++ [v], f.cs ++ [id], f.loc + 1⟩
theorem flatV_snoc (vs : List VD) (v : VD) : flatV (vs ++ [v]) = flatV vs ++ [.string v.s, .int .u8 v.k, .int .i64 v.n] := by simp [flatV]
/-- What frame.add and 'locals++' leave. -/
theorem push_fin {W W' : World} {n0 : Nat} {P : Ph} {S : ST} (h : SR W n0 P S) (v : VD) (id : Nat) (vv vc : Value) (hwf : (S.setCur (S.cur.push v id)).WF)
    (hst : Stp n0 (rows P S) W (updR (updR (updR (rows P S) (vI S) ⟨vv, 24, 3, S.cur.vs.length + 1, flatV S.cur.vs ++ [.string v.s, .int .u8 v.k, .int .i64 v.n]⟩) (cI S) ⟨vc, 79, 1, S.cur.vs.length + 1, ptrs P.cb S.cur.cs ++ [.pointer (some ⟨P.cb id, 0, none⟩)]⟩) (hI S) { rows P S (hI S) with xs := ((rows P S (hI S)).xs.set (oI S) vv).set (oI S + 1) vc }) W') :
    SStp n0 P S W (P.setCur S vv vc) (S.setCur (S.cur.push v id)) (W'.setCell ⟨(curP P S).block, oI S + 2, none⟩ (.int .i64 ((S.cur.loc : Int) + 1))) := by
  refine ⟨?_, hwf⟩
  obtain ⟨_, hb, ho⟩ := cur_holder h
  obtain ⟨kd, hw⟩ := h.curWF
  have s3 := Stp.set (i := hI S) hst.rws (g := (curP P S).block) (by rw [updR_same]; exact hb) (o := oI S + 2) (by rw [updR_same]; simp; omega) (.int .i64 ((S.cur.loc : Int) + 1))
  rw [updR_same] at s3
  refine (hst.trans s3).cast ?_
  rw [rows_setCur]
  have e1 : (S.cur.push v id).vs.length = S.cur.vs.length + 1 := by simp [FR.push]
  have e2 : (S.cur.push v id).cs.length = S.cur.vs.length + 1 := by simp [FR.push, hw.len]
  have e3 : flatV (S.cur.push v id).vs = flatV S.cur.vs ++ [.string v.s, .int .u8 v.k, .int .i64 v.n] := flatV_snoc _ _
  have e4 : ptrs P.cb (S.cur.push v id).cs = ptrs P.cb S.cur.cs ++ [.pointer (some ⟨P.cb id, 0, none⟩)] := by simp [FR.push, ptrs]
  have e5 : (((S.cur.push v id).loc : Nat) : Int) = (S.cur.loc : Int) + 1 := by simp [FR.push]
  rw [e1, e2, e3, e4, e5]
  funext r
  by_cases e : r = hI S
  · subst e; simp
  · simp only [updR, e, if_false]

theorem WF_push {f : FR} {kd : Nat → Int × Int} {nc : Nat} (h : f.WF kd nc) (v : VD) (hv : FldV v) (hlim : f.vs.length + 1 ≤ 4398046511000) : (f.push v nc).WF (fun i => if i = nc then (v.k, v.n) else kd i) (nc + 1) := by
  have hl := h.len
  refine ⟨by simp [FR.push, hl], by have := h.loc; simp [FR.push]; omega, by simpa [FR.push] using hlim, fun u hu => ?_, fun c hc => ?_, fun i hi hi' => ?_⟩
  · simp only [FR.push, List.mem_append, List.mem_singleton] at hu
    rcases hu with hu | rfl
    · exact h.fld u hu
    · exact hv
  · simp only [FR.push, List.mem_append, List.mem_singleton] at hc
    rcases hc with hc | rfl
    · have := h.num c hc; omega
    · omega
  · by_cases e : i < f.vs.length
    · have e' : i < f.cs.length := by omega
      have a1 : (f.push v nc).vs[i] = f.vs[i] := List.getElem_append_left e
      have a2 : (f.push v nc).cs[i] = f.cs[i] := List.getElem_append_left e'
      rw [a1]
      generalize (f.push v nc).cs[i] = ci at a2 ⊢
      subst a2
      have := h.num _ (List.getElem_mem e')
      rw [if_neg (by omega)]
      exact h.kind i e e'
    · have hi2 : i = f.vs.length := by simp [FR.push] at hi; omega
      have a1 : (f.push v nc).vs[i] = v := by simp [FR.push, hi2]
      have a2 : (f.push v nc).cs[i] = nc := by simp [FR.push, hi2, ← hl]
      rw [a1]
      generalize (f.push v nc).cs[i] = ci at a2 ⊢
      subst a2
      simp
theorem WF_open {S : ST} (h : S.WF) (v : VD) (hv : FldV v) (l : List Int) (hl : l.length ≤ 1000) (hf : ∀ x ∈ l, I64 x) (hk : (v.k = 1 → l.length = 1) ∧ (v.k = 2 → (l.length : Int) = v.n) ∧ (v.k = 1 ∨ v.k = 2 ∨ v.k = 3)) (hlim : S.cur.vs.length + 1 ≤ 4398046511000) :
    ((S.newCell l).setCur (S.cur.push v S.nc)).WF := by
  obtain ⟨kd, h1, h2, h3⟩ := h.ex
  have hn := WF_newCell h l (v.k, v.n) hl hf hk
  have hkd : ∀ i, i < S.nc + 1 → (((fun i => if i = S.nc then (v.k, v.n) else kd i) i).1 = 1 → ((S.newCell l).cell i).length = 1) ∧ (((fun i => if i = S.nc then (v.k, v.n) else kd i) i).1 = 2 → (((S.newCell l).cell i).length : Int) = ((fun i => if i = S.nc then (v.k, v.n) else kd i) i).2) ∧ (((fun i => if i = S.nc then (v.k, v.n) else kd i) i).1 = 1 ∨ ((fun i => if i = S.nc then (v.k, v.n) else kd i) i).1 = 2 ∨ ((fun i => if i = S.nc then (v.k, v.n) else kd i) i).1 = 3) := fun i hi => by
    simp only [ST.newCell]
    by_cases e : i = S.nc
    · subst e; simpa using hk
    · simp only [e, if_false]; exact h3 i (by omega)
  by_cases h0 : S.calls.length = 0
  · have hc : S.calls = [] := List.length_eq_zero_iff.1 h0
    have h0' : (S.newCell l).calls.length = 0 := h0
    rw [cur_0 h0] at hlim ⊢
    simp only [ST.setCur, h0', if_true]
    refine ⟨⟨_, WF_push h1 v hv hlim, fun g hg => ?_, hkd⟩, hn.ncalls, hn.cells, hn.tin, hn.tout⟩
    have : g ∈ S.calls := hg
    rw [hc] at this
    cases this
  · have h0' : ¬ (S.newCell l).calls.length = 0 := h0
    have hcu : S.cur.WF kd S.nc := by rw [cur_1 (by omega)]; exact h2 _ (List.getElem_mem _)
    simp only [ST.setCur, h0', if_false]
    refine ⟨⟨_, h1.new (v.k, v.n), fun g hg => ?_, hkd⟩, by simpa using hn.ncalls, hn.cells, hn.tin, hn.tout⟩
    rcases List.mem_or_eq_of_mem_set hg with hg | rfl
    · exact (h2 g hg).new _
    · exact WF_push hcu v hv hlim

end Go.Proofs.Ytekjfbnggfbfhaa

/-
  store: the contract of Open.
-/
namespace Go.Proofs.Ytekjfbnggfbfhaa
open Go Go.RowKit

/-- Store.Open. -/
def openE (S : ST) (v : VD) (x : Int) : Int × ST :=
  if ¬ ((v.k = 1 ∨ v.k = 3) ∧ v.n = 0) then (7, S)
  else if (S.cur.at v.s).isSome = true then (22, S)
  else (0, (S.newCell (if v.k = 1 then [x] else [])).setCur (S.cur.push v S.nc))

/-- frame.add at the current frame, ahead of 'locals++'. -/
theorem add_local {W : World} {n0 : Nat} {P : Ph} {S : ST} (h : SR W n0 P S) (v : VD) (id b B O : Nat) (hb : P.cb id = b) (hcp : curP P S = ⟨B, O, none⟩) (hlim : S.cur.vs.length ≤ 4398046511000) (hwf : (S.setCur (S.cur.push v id)).WF) :
    Calls Try.prog 32 #[.pointer (some ⟨B, O, none⟩), .agg #[.string v.s, .int .u8 v.k, .int .i64 v.n], .pointer (some ⟨b, 0, none⟩)] W fun e W' => (∃ u, e = .returned u) ∧
      W'.cell? ⟨B, O + 2, none⟩ = some (.int .i64 S.cur.loc) ∧ W'.frozen? ⟨B, O + 2, none⟩ = false ∧ ∃ P', SStp n0 P S W P' (S.setCur (S.cur.push v id)) (W'.setCell ⟨B, O + 2, none⟩ (.int .i64 ((S.cur.loc : Int) + 1))) ∧ P'.sb = P.sb := by
  obtain ⟨e0, hob, ho⟩ := cur_holder h
  obtain ⟨g1, g2, g3⟩ := hold_get P S
  rw [hcp] at e0 hob
  dsimp only at e0 hob
  have eO : O = oI S := by injection e0
  subst eO
  have hadd := add_cur h v (some ⟨P.cb id, 0, none⟩) hlim
  rw [hcp, hb] at hadd
  refine hadd.mono ?_
  rintro e W' ⟨hu, vv, vc, hst⟩
  have hr := hst.rws
  refine ⟨hu, hr.cell (hI S) (by rw [updR_same]; exact hob) ?_, hr.frozen (hI S) (by rw [updR_same]; exact hob) _, P.setCur S vv vc, ?_, ?_⟩
  · rw [updR_same]
    show (((rows P S (hI S)).xs.set (oI S) vv).set (oI S + 1) vc)[oI S + 2]? = _
    rw [List.getElem?_set_ne (by omega), List.getElem?_set_ne (by omega)]
    exact g3
  · have := push_fin h v id vv vc hwf (by rw [hb]; exact hst)
    rw [hcp] at this
    exact this
  · unfold Ph.setCur; split <;> rfl

set_option maxHeartbeats 4000000 in
set_option maxRecDepth 100000 in
theorem Open_any {W : World} {n0 : Nat} {P : Ph} {S : ST} (h : SR W n0 P S) (v : VD) (hfv : FldV v) (x : Int) (hx : I64 x) (hlim : S.cur.vs.length + 1 ≤ 4398046511000) : Calls Try.prog 22 #[.pointer (some ⟨P.sb, 0, none⟩), .agg #[.string v.s, .int .u8 v.k, .int .i64 v.n], .int .i64 x] W fun e W' => e = .returned (.int .i64 (openE S v x).1) ∧ ∃ P', SStp n0 P S W P' (openE S v x).2 W' ∧ P'.sb = P.sb := by
  have HS := Lib.hid h
  obtain ⟨kd, hw⟩ := h.curWF
  obtain ⟨A, c, hcv, hc, hrow⟩ := h.curVs
  obtain ⟨h3, h4, h5⟩ := h.cur3
  rw [hcv] at h3
  have HLOC := Lib.hid (show S.cur.loc ≤ 4398046511000 by have := hw.loc; have := hw.lim; omega)
  obtain ⟨R, hR⟩ : ∃ R, openE S v x = R := ⟨_, rfl⟩
  rw [hR]
  have HRR := Lib.hid hR
  have HCU := Lib.hid (fun W' (hb : Below W.heap.size W W') => current_any (h.later hb))
  have HFI := Lib.hid (fun W' (hb : Below W.heap.size W W') => find_any S.cur.vs A c v.s (curP P S) W' (cell_bl hb h3) (hrow.later hb) hw.lim)
  obtain ⟨vm, vk, vn⟩ := v
  dsimp only at HFI ⊢
  clear h hw hcv hrow h3 h4 h5 hR
  by_cases k13 : vk = 1 ∨ vk = 3
  · by_cases hn : vn = 0
    · subst hn
      obtain ⟨r, hr⟩ : ∃ r, S.cur.at vm = r := ⟨_, rfl⟩
      have hr' : lastI S.cur.vs vm S.cur.vs.length = r := hr
      rw [hr'] at HFI
      have HR2 := Lib.hid (show R = if r.isSome = true then (22, S) else (0, (S.newCell (if vk = 1 then [x] else [])).setCur (S.cur.push ⟨vm, vk, 0⟩ S.nc)) by
        rw [← HRR.out, openE, if_neg (by simp [k13]), hr])
      obtain ⟨B, O, hcp⟩ : ∃ B O, curP P S = ⟨B, O, none⟩ := ⟨_, _, (cur_holder HS.out).1⟩
      rw [hcp] at HFI HCU
      have HCP := Lib.hid hcp
      clear HRR hr hr' hcp
      rcases r with _ | i
      · rcases k13 with rfl | rfl
        · simp only [idxZ] at HFI
          go_enter Try.func22, Try.ntmps22
          go_wp2_with fail
          refine (HCU.out _ (bl_al (Below.refl _ _) _)).mono ?_
          rintro e w1 ⟨rfl, rfl⟩
          go_wp2_with fail
          refine (HFI.out _ (bl_al (Below.refl _ _) _)).mono ?_
          rintro e w2 ⟨rfl, bw2⟩
          have hvb := blk_bl (heap_alloc_new W (.cells #[.string vm, .int .u8 1, .int .i64 0] 24)) bw2
          have hva := fun o => blk_al hvb o
          have u0 : ∀ o, (w2.alloc o).cell? ⟨W.heap.size, 0, none⟩ = some (.string vm) := fun o => cell_of_blk (hva o) rfl
          have u1 : ∀ o, (w2.alloc o).cell? ⟨W.heap.size, 1, none⟩ = some (.int .u8 1) := fun o => cell_of_blk (hva o) rfl
          have u2 : ∀ o, (w2.alloc o).cell? ⟨W.heap.size, 2, none⟩ = some (.int .i64 0) := fun o => cell_of_blk (hva o) rfl
          have hvc := fun o o' => blk_al (hva o) o'
          have t0 : ∀ o o', ((w2.alloc o).alloc o').cell? ⟨W.heap.size, 0, none⟩ = some (.string vm) := fun o o' => cell_of_blk (hvc o o') rfl
          have t1 : ∀ o o', ((w2.alloc o).alloc o').cell? ⟨W.heap.size, 1, none⟩ = some (.int .u8 1) := fun o o' => cell_of_blk (hvc o o') rfl
          have t2 : ∀ o o', ((w2.alloc o).alloc o').cell? ⟨W.heap.size, 2, none⟩ = some (.int .i64 0) := fun o o' => cell_of_blk (hvc o o') rfl
          have s1 := newCell_int HS.out (bl_tt (bl_al (Below.refl _ _) _) bw2) x hx
          have hwf := WF_open HS.out.wf ⟨vm, 1, 0⟩ hfv [x] (by simp) (by simpa using hx) (by simp) hlim
          have HX := Lib.hid (show R = (0, (S.newCell [x]).setCur (S.cur.push ⟨vm, 1, 0⟩ S.nc)) by rw [HR2.out]; simp)
          have HAD := Lib.hid (add_local s1.sr ⟨vm, 1, 0⟩ S.nc w2.heap.size B O (by simp [Ph.newCell]) HCP.out (by show S.cur.vs.length ≤ _; omega) hwf)
          have HS1 := Lib.hid s1
          dsimp only [newCell_cur] at HAD
          have hl1 := HLOC.out
          clear hva hvc s1 hwf HR2
          go_wp2_with fail
          refine HAD.out.mono ?_
          rintro e w4 ⟨⟨u, rfl⟩, y0, y1, P2, hs2, hp2⟩
          have HS2 := Lib.hid hs2
          have HP2 := Lib.hid hp2
          obtain ⟨lc, hlc⟩ : ∃ lc, S.cur.loc = lc := ⟨_, rfl⟩
          rw [hlc] at y0 HS2 hl1
          clear hs2 hp2 hlc
          go_wp2_with fail
          go_ret
          refine ⟨by rw [HX.out]; rfl, P2, ?_, HP2.out⟩
          rw [HX.out]
          exact HS1.out.trans HS2.out
        · simp only [idxZ] at HFI
          go_enter Try.func22, Try.ntmps22
          go_wp2_with fail
          refine (HCU.out _ (bl_al (Below.refl _ _) _)).mono ?_
          rintro e w1 ⟨rfl, rfl⟩
          go_wp2_with fail
          refine (HFI.out _ (bl_al (Below.refl _ _) _)).mono ?_
          rintro e w2 ⟨rfl, bw2⟩
          have hvb := blk_bl (heap_alloc_new W (.cells #[.string vm, .int .u8 3, .int .i64 0] 24)) bw2
          have hva := fun o => blk_al hvb o
          have u0 : ∀ o, (w2.alloc o).cell? ⟨W.heap.size, 0, none⟩ = some (.string vm) := fun o => cell_of_blk (hva o) rfl
          have u1 : ∀ o, (w2.alloc o).cell? ⟨W.heap.size, 1, none⟩ = some (.int .u8 3) := fun o => cell_of_blk (hva o) rfl
          have u2 : ∀ o, (w2.alloc o).cell? ⟨W.heap.size, 2, none⟩ = some (.int .i64 0) := fun o => cell_of_blk (hva o) rfl
          have hvc := fun o o' => blk_al (hva o) o'
          have t0 : ∀ o o', ((w2.alloc o).alloc o').cell? ⟨W.heap.size, 0, none⟩ = some (.string vm) := fun o o' => cell_of_blk (hvc o o') rfl
          have t1 : ∀ o o', ((w2.alloc o).alloc o').cell? ⟨W.heap.size, 1, none⟩ = some (.int .u8 3) := fun o o' => cell_of_blk (hvc o o') rfl
          have t2 : ∀ o o', ((w2.alloc o).alloc o').cell? ⟨W.heap.size, 2, none⟩ = some (.int .i64 0) := fun o o' => cell_of_blk (hvc o o') rfl
          have s1 := newCell_stack HS.out (bl_tt (bl_al (Below.refl _ _) _) bw2)
          have hwf := WF_open HS.out.wf ⟨vm, 3, 0⟩ hfv [] (by simp) (by simp) (by simp) hlim
          have HX := Lib.hid (show R = (0, (S.newCell []).setCur (S.cur.push ⟨vm, 3, 0⟩ S.nc)) by rw [HR2.out]; simp)
          have HAD := Lib.hid (add_local s1.sr ⟨vm, 3, 0⟩ S.nc w2.heap.size B O (by simp [Ph.newCell]) HCP.out (by show S.cur.vs.length ≤ _; omega) hwf)
          have HS1 := Lib.hid s1
          dsimp only [newCell_cur] at HAD
          have hl1 := HLOC.out
          clear hva hvc s1 hwf HR2
          go_wp2_with fail
          refine HAD.out.mono ?_
          rintro e w4 ⟨⟨u, rfl⟩, y0, y1, P2, hs2, hp2⟩
          have HS2 := Lib.hid hs2
          have HP2 := Lib.hid hp2
          obtain ⟨lc, hlc⟩ : ∃ lc, S.cur.loc = lc := ⟨_, rfl⟩
          rw [hlc] at y0 HS2 hl1
          clear hs2 hp2 hlc
          go_wp2_with fail
          go_ret
          refine ⟨by rw [HX.out]; rfl, P2, ?_, HP2.out⟩
          rw [HX.out]
          exact HS1.out.trans HS2.out
      · have HX := Lib.hid (show R = (22, S) by rw [HR2.out]; rfl)
        simp only [idxZ] at HFI
        have hi0 : ¬ (i : Int) < 0 := by omega
        clear HR2
        rcases k13 with rfl | rfl
        all_goals
          go_enter Try.func22, Try.ntmps22
          go_wp2_with fail
          refine (HCU.out _ (bl_al (Below.refl _ _) _)).mono ?_
          rintro e w1 ⟨rfl, rfl⟩
          go_wp2_with fail
          refine (HFI.out _ (bl_al (Below.refl _ _) _)).mono ?_
          rintro e w2 ⟨rfl, bw2⟩
          have q2 := bl_tt (bl_al (Below.refl _ _) _) bw2
          clear bw2
          go_wp2_with fail
          go_ret
          exact ⟨by rw [HX.out]; rfl, P, by rw [HX.out]; exact SStp.refl HS.out q2, rfl⟩
    · have HX := Lib.hid (show R = (7, S) by rw [← HRR.out, openE, if_pos (by simp [hn])])
      have e1 : (vn == 0) = false := by simpa using hn
      have e2 : (vn != 0) = true := by simpa using hn
      clear hn HRR
      rcases k13 with rfl | rfl
      all_goals
        go_enter Try.func22, Try.ntmps22
        go_wp2_with fail
        go_ret
        exact ⟨by rw [HX.out]; rfl, P, by rw [HX.out]; exact SStp.refl HS.out (bl_al (Below.refl _ _) _), rfl⟩
  · have HX := Lib.hid (show R = (7, S) by rw [← HRR.out, openE, if_pos (by simp [k13])])
    have x1 : (vk == 1) = false := by simp; omega
    have x3 : (vk == 3) = false := by simp; omega
    have y1 : (vk != 1) = true := by simp; omega
    have y3 : (vk != 3) = true := by simp; omega
    clear k13 HRR
    go_enter Try.func22, Try.ntmps22
    go_wp2_with fail
    go_ret
    exact ⟨by rw [HX.out]; rfl, P, by rw [HX.out]; exact SStp.refl HS.out (bl_al (Below.refl _ _) _), rfl⟩

end Go.Proofs.Ytekjfbnggfbfhaa
