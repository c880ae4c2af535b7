/-
  store: the basic statements, plainly; the contracts of move and transfer.
-/
import Derived.Test.YtekjfbnggfbfhaaTq
namespace Go.Proofs.Ytekjfbnggfbfhaa
open Go Go.RowKit

/-- The store with other elements in a cell. -/
def ST.setL (S : ST) (id : Nat) (l : List Int) : ST := { S with cell := fun j => if j = id then l else S.cell j }
/-- The element i of cell id. -/
def ST.el (S : ST) (id i : Nat) : Int := (S.cell id).getD i 0
def ST.put (S : ST) (id i : Nat) (x : Int) : ST := S.setL id ((S.cell id).set i x)
/-- arith.Update. -/
def updE (k x y : Int) : Int := if k = 40 then wrap64 (x + y) else if k = 41 then wrap64 (x - y) else bits BinOp.xor IntKind.i64 x y
/-- store.move. -/
def moveE (S : ST) (k : Int) (id i sid : Nat) : Int × ST :=
  if k = 44 then (if 1000 ≤ (S.cell sid).length then (5, S) else (0, (S.setL sid (S.cell sid ++ [S.el id i])).put id i 0))
  else if (S.cell sid).length = 0 then (13, S)
  else if S.el id i ≠ 0 then (14, S)
  else (0, (S.put id i (S.el sid ((S.cell sid).length - 1))).setL sid ((S.cell sid).take ((S.cell sid).length - 1)))
/-- Store.transfer. -/
def transE (S : ST) (k : Int) (id i : Nat) : Int × ST :=
  if k = 46 then match S.tin with
    | [] => (17, S)
    | y :: r => if S.el id i ≠ 0 then (14, S) else (0, ({ S with tin := r } : ST).put id i y)
  else if k = 49 then (if S.tout = [] then (17, S) else if S.el id i ≠ 0 then (14, S) else (0, ({ S with tout := S.tout.dropLast } : ST).put id i (S.tout.getLast?.getD 0)))
  else if k = 47 then (if 4096 ≤ S.tin.length then (5, S) else (0, ({ S with tin := S.el id i :: S.tin } : ST).put id i 0))
  else (if 4096 ≤ S.tout.length then (5, S) else (0, ({ S with tout := S.tout ++ [S.el id i] } : ST).put id i 0))

/-- The kind of a cell that the current frame sees. -/
def CurK (S : ST) (id : Nat) (k : Int) : Prop := ∃ (i : Nat) (v : VD), S.cur.vs[i]? = some v ∧ S.cur.cs[i]? = some id ∧ v.k = k
theorem CurK.kd {S : ST} {id : Nat} {k : Int} (h : CurK S id k) {kd : Nat → Int × Int} (hw : S.cur.WF kd S.nc) : (kd id).1 = k ∧ id < S.nc := by
  obtain ⟨i, v, h1, h2, h3⟩ := h
  obtain ⟨a1, a2⟩ := List.getElem?_eq_some_iff.1 h1
  obtain ⟨b1, b2⟩ := List.getElem?_eq_some_iff.1 h2
  have := hw.kind i a1 b1
  rw [b2, a2] at this
  exact ⟨by rw [this]; exact h3, b2 ▸ hw.num _ (List.getElem_mem b1)⟩
theorem CurK.lt {S : ST} {id : Nat} {k : Int} (h : CurK S id k) (hw : S.WF) : id < S.nc := by
  obtain ⟨kd, h1⟩ := hw.cur
  exact (h.kd h1).2
theorem CurK.ne {S : ST} {id id' : Nat} {k k' : Int} (h : CurK S id k) (h' : CurK S id' k') (hw : S.WF) (hk : k ≠ k') : id ≠ id' := fun e => by
  obtain ⟨kd, h1⟩ := hw.cur
  subst e
  exact hk ((h.kd h1).1.symm.trans (h'.kd h1).1)
theorem WF_setL {S : ST} (h : S.WF) (id : Nat) (l : List Int) (hl : l.length = (S.cell id).length) (hx : ∀ x ∈ l, I64 x) : (S.setL id l).WF := by
  obtain ⟨kd, h1, h2, h3⟩ := h.ex
  refine ⟨⟨kd, h1, h2, fun i hi => ?_⟩, h.ncalls, fun i hi => ?_, h.tin, h.tout⟩
  · have := h3 i hi
    simp only [ST.setL]
    by_cases e : i = id
    · subst e; rw [if_pos rfl, hl]; exact this
    · rw [if_neg e]; exact this
  · have := h.cells i hi
    simp only [ST.setL]
    by_cases e : i = id
    · subst e; rw [if_pos rfl, hl]; exact ⟨this.1, hx⟩
    · rw [if_neg e]; exact this
theorem WF_stk {S : ST} (h : S.WF) (id : Nat) (hk : CurK S id 3) (l : List Int) (hl : l.length ≤ 1000) (hx : ∀ x ∈ l, I64 x) : (S.setL id l).WF := by
  obtain ⟨kd, h1, h2, h3⟩ := h.ex
  have hc : S.cur.WF kd S.nc := by
    rcases Nat.eq_zero_or_pos S.calls.length with h0 | h0
    · rw [cur_0 h0]; exact h1
    · rw [cur_1 h0]; exact h2 _ (List.getElem_mem _)
  have hk3 := (hk.kd hc).1
  refine ⟨⟨kd, h1, h2, fun i hi => ?_⟩, h.ncalls, fun i hi => ?_, h.tin, h.tout⟩
  · have := h3 i hi
    simp only [ST.setL]
    by_cases e : i = id
    · subst e; rw [if_pos rfl]; exact ⟨fun e => by omega, fun e => by omega, .inr (.inr hk3)⟩
    · rw [if_neg e]; exact this
  · have := h.cells i hi
    simp only [ST.setL]
    by_cases e : i = id
    · subst e; rw [if_pos rfl]; exact ⟨hl, hx⟩
    · rw [if_neg e]; exact this
theorem el_I64 {S : ST} (h : S.WF) {id : Nat} (hid : id < S.nc) (i : Nat) : I64 (S.el id i) := by
  unfold ST.el
  rcases Nat.lt_or_ge i (S.cell id).length with hi | hi
  · rw [List.getD_eq_getElem?_getD, List.getElem?_eq_getElem hi]
    exact (h.cells id hid).2 _ (List.getElem_mem hi)
  · rw [List.getD_eq_getElem?_getD, List.getElem?_eq_none hi]
    exact ⟨by decide, by decide⟩
theorem WF_put {S : ST} (h : S.WF) {id : Nat} (hid : id < S.nc) (i : Nat) (x : Int) (hx : I64 x) : (S.put id i x).WF :=
  WF_setL h id _ (by simp) fun y hy => by
    rcases List.mem_or_eq_of_mem_set hy with hy | rfl
    · exact (h.cells id hid).2 y hy
    · exact hx

/-- The block of a cell's elements. -/
def Ph.gI (P : Ph) (id : Nat) : Nat := (P.ci id).ownBlock.getD 0
def Ph.setI (P : Ph) (id : Nat) (vv : Value) : Ph := { P with ci := fun j => if j = id then vv else P.ci j }
theorem flatI_set (l : List Int) (i : Nat) (x : Int) : flatI (l.set i x) = (flatI l).set i (.int .i64 x) := by simp [flatI, List.map_set]
theorem rows_put (P : Ph) (S : ST) (id i : Nat) (x : Int) (hid : id < S.nc) : rows P (S.put id i x) = updR (rows P S) (.ci id) { rows P S (.ci id) with xs := (rows P S (.ci id)).xs.set i (.int .i64 x) } := by
  funext r
  cases r with
  | ci j =>
    by_cases e : j = id
    · subst e
      simp [updR, rows, ST.put, ST.setL, hid, flatI_set]
    · simp [updR, rows, ST.put, ST.setL, e]
  | cb j => rfl
  | _ => simp [updR, rows, ST.put, ST.setL]
theorem rows_setI (P : Ph) (S : ST) (id : Nat) (vv : Value) (l : List Int) (hid : id < S.nc) : rows (P.setI id vv) (S.setL id l) = updR (updR (rows P S) (.ci id) ⟨vv, 3, 1, l.length, flatI l⟩) (.cb id) { rows P S (.cb id) with xs := (rows P S (.cb id)).xs.set 0 vv } := by
  funext r
  cases r with
  | ci j =>
    by_cases e : j = id
    · subst e
      simp [updR, rows, Ph.setI, ST.setL, hid]
    · simp [updR, rows, Ph.setI, ST.setL, e]
  | cb j =>
    by_cases e : j = id
    · subst e
      simp [updR, rows, Ph.setI, ST.setL, hid]
    · simp [updR, rows, Ph.setI, ST.setL, e]
  | calls => simp only [updR, reduceCtorEq, if_false, rows, ST.setL]; rw [flatF_congr (P := P) (P' := P.setI id vv) rfl rfl]; rfl
  | _ => simp [updR, rows, Ph.setI, ST.setL]
section
variable {W : World} {n0 : Nat} {P : Ph} {S : ST}
theorem SR.plc (h : SR W n0 P S) {id i : Nat} (hid : id < S.nc) (hi : i < (S.cell id).length) : (∃ c, P.ci id = .slice (some ⟨P.gI id, 0, none⟩) (S.cell id).length c ∧ (S.cell id).length ≤ c) ∧ W.cell? ⟨P.gI id, i, none⟩ = some (.int .i64 (S.el id i)) ∧ W.frozen? ⟨P.gI id, i, none⟩ = false := by
  have hr := h.rws.row (.ci id)
  simp only [rows, hid, if_true] at hr
  obtain ⟨g, c, hv, hc, _, hcell⟩ := row_some hr (by omega)
  have hg : P.gI id = g := by simp [Ph.gI, hv, Value.ownBlock]
  refine ⟨⟨c, by rw [hg]; exact hv, hc⟩, ?_, ?_⟩
  · rw [hg, hcell i (by omega)]
    simp [flatI, ST.el, hi]
  · exact h.rws.frozen (.ci id) (by simp only [rows, hid, if_true]; rw [hv, hg]; rfl) i
theorem SR.own (h : SR W n0 P S) {id i : Nat} (hid : id < S.nc) (hi : i < (S.cell id).length) : (rows P S (.ci id)).v.ownBlock = some (P.gI id) := by
  obtain ⟨⟨c, hv, _⟩, _⟩ := h.plc hid hi
  simp only [rows, hid, if_true]
  rw [hv]; rfl
/-- An element is stored. -/
theorem SR.put (h : SR W n0 P S) {id i : Nat} (hid : id < S.nc) (hi : i < (S.cell id).length) (x : Int) (hx : I64 x) : SStp n0 P S W P (S.put id i x) (W.setCell ⟨P.gI id, i, none⟩ (.int .i64 x)) := by
  refine ⟨?_, WF_put h.wf hid i x hx⟩
  have := Stp.set (i := Res.ci id) h.rws (g := P.gI id) (h.own hid hi) (o := i) (by simp only [rows, hid, if_true, flatI_len]; exact hi) (.int .i64 x)
  exact this.cast (rows_put P S id i x hid).symm
end

/-- A stack takes another row. -/
theorem SR.stk {W W2 : World} {n0 : Nat} {P : Ph} {S : ST} (h : SR W n0 P S) (sid : Nat) (hs : CurK S sid 3) (l : List Int) (vv : Value) (hl : l.length ≤ 1000) (hx : ∀ x ∈ l, I64 x) (hc : Chg (fun b => (P.ci sid).ownBlock = some b) W W2) (ho : W2.ownsRow n0 3 1 vv l.length (flatI l)) (hob : ∀ b, vv.ownBlock = some b → (P.ci sid).ownBlock = some b ∨ W.heap.size ≤ b) :
    W2.cell? ⟨P.cb sid, 0, none⟩ = some (P.ci sid) ∧ W2.frozen? ⟨P.cb sid, 0, none⟩ = false ∧ SStp n0 P S W (P.setI sid vv) (S.setL sid l) (W2.setCell ⟨P.cb sid, 0, none⟩ vv) := by
  have hid := hs.lt h.wf
  have ev : (rows P S (.ci sid)).v = P.ci sid := by simp only [rows, hid, if_true]
  have s1 := Stp.upd (i := Res.ci sid) (r := ⟨vv, 3, 1, l.length, flatI l⟩) h.rws (hc.mono fun b _ hb => by rw [ev]; exact hb) ho (fun b hb => by rw [ev]; exact hob b hb)
  have eb : updR (rows P S) (.ci sid) ⟨vv, 3, 1, l.length, flatI l⟩ (.cb sid) = rows P S (.cb sid) := updR_other (by simp)
  have eb2 : rows P S (.cb sid) = ⟨boxV (P.cb sid), 82, 1, 1, [P.ci sid]⟩ := by simp only [rows, hid, if_true]
  have s2 := Stp.set (i := Res.cb sid) s1.rws (g := P.cb sid) (by rw [eb, eb2]; rfl) (o := 0) (by rw [eb, eb2]; exact Nat.one_pos) vv
  rw [eb] at s2
  refine ⟨s1.rws.cell (.cb sid) (g := P.cb sid) (o := 0) (by rw [eb, eb2]; rfl) (by rw [eb, eb2]; rfl), s1.rws.frozen (.cb sid) (g := P.cb sid) (by rw [eb, eb2]; rfl) 0, ⟨(s1.trans s2).cast (rows_setI P S sid vv l hid).symm, WF_stk h.wf sid hs l hl hx⟩⟩

theorem intInf : (Try.prog.info? 3).map (fun i => (i.zero, i.size, i.bytes)) = some (some (.int .i64 0), 1, 8) := intInfo

set_option maxHeartbeats 4000000 in
set_option maxRecDepth 100000 in
theorem move_any {W : World} {n0 : Nat} {P : Ph} {S : ST} (h : SR W n0 P S) (k : Int) (hk : k = 44 ∨ k = 45) (id i sid : Nat) (hid : id < S.nc) (hi : i < (S.cell id).length) (hs : CurK S sid 3) (hne : id ≠ sid) :
    Calls Try.prog 62 #[.int .u8 k, .pointer (some ⟨P.gI id, i, none⟩), .pointer (some ⟨P.cb sid, 0, none⟩)] W fun e W' => e = .returned (.int .i64 (moveE S k id i sid).1) ∧ ∃ P', SStp n0 P S W P' (moveE S k id i sid).2 W' ∧ P'.sb = P.sb := by
  have hsid := hs.lt h.wf
  obtain ⟨R, hR⟩ : ∃ R, moveE S k id i sid = R := ⟨_, rfl⟩
  rw [hR]
  have HRR := Lib.hid hR
  have HS := Lib.hid h
  have HK := Lib.hid hs
  obtain ⟨A, c, hci, hc, hri⟩ := h.items hsid
  have hcs := h.wf.cells sid hsid
  have x0 : W.cell? ⟨P.cb sid, 0, none⟩ = some (.slice A (S.cell sid).length c) := by rw [← hci]; exact cell_of_blk (h.cbox hsid) rfl
  obtain ⟨-, p0, p1⟩ := h.plc hid hi
  obtain ⟨x, hx⟩ : ∃ x, S.el id i = x := ⟨_, rfl⟩
  rw [hx] at p0
  have HX := Lib.hid hx
  obtain ⟨L, hL⟩ : ∃ L, (S.cell sid).length = L := ⟨_, rfl⟩
  rw [hL] at x0
  have HL := Lib.hid hL
  have hL1 : L ≤ 1000 := by rw [← hL]; exact hcs.1
  have HCI := Lib.hid hci
  have HRI := Lib.hid hri
  clear h hs hci hri hx hL hR hc
  rcases hk with rfl | rfl
  · by_cases hf : 1000 ≤ L
    · have HN := Lib.hid (show R = (5, S) by rw [← HRR.out, moveE, if_pos rfl, if_pos (by rw [HL.out]; exact hf)])
      obtain rfl : L = 1000 := by omega
      go_enter Try.func62, Try.ntmps62
      go_wp2_with fail
      go_ret
      exact ⟨by rw [HN.out]; rfl, P, by rw [HN.out]; exact SStp.refl HS.out (Below.refl _ _), rfl⟩
    · have HN := Lib.hid (show R = (0, (S.setL sid (S.cell sid ++ [x])).put id i 0) by rw [← HRR.out, moveE, if_pos rfl, if_neg (by rw [HL.out]; exact hf), HX.out])
      have hf1 : ¬ (1000 : Int) ≤ (L : Int) := by omega
      obtain ⟨i1, hi1, hz0, hz1, hz2⟩ := info_parts intInf
      have hbi := buildI1
      have hxI : I64 x := by rw [← HX.out]; exact el_I64 HS.out.wf hid i
      clear HRR
      go_enter Try.func62, Try.ntmps62
      go_upto_region 7 with fail
      have hSS : (fun w' : World => w'.cell? ⟨P.gI id, i, none⟩ = some (.int .i64 x)) W.drew ∧ (fun w' : World => w'.cell? ⟨P.cb sid, 0, none⟩ = some (.slice A L c)) W.drew := ⟨p0, x0⟩
      refine wp_region_noPanic ?_
      refine wp_region_G (fun w' : World => w'.cell? ⟨P.gI id, i, none⟩ = some (.int .i64 x)) (fun w' : World => w'.cell? ⟨P.cb sid, 0, none⟩ = some (.slice A L c)) 9 (by kernel_rfl) ?_
      refine wpG_take1 (i := 0) (v := ?_) rfl (by kernel_rfl) (by kernel_rfl) (by kernel_rfl) (by decide) (fun _ _ _ h => h) (Or.inl ⟨by rfl, ?_⟩) hSS ?_
      rotate_left 1
      · (intro w hSw; (try dsimp only at hSw); (try simp only [List.getElem_toArray, List.getElem_cons_zero]); go_simp; (try with_reducible rfl))
      (try simp only [Act.put, List.getElem_toArray, List.getElem_cons_zero, List.setIfInBounds_toArray, List.set_cons_zero, List.set_cons_succ])
      refine wpG_take1 (i := 1) (v := ?_) rfl (by kernel_rfl) (by kernel_rfl) (by kernel_rfl) (by decide) (fun _ _ _ h => h) (Or.inl ⟨by rfl, ?_⟩) hSS ?_
      rotate_left 1
      · (intro w hSw; (try dsimp only at hSw); (try simp only [List.getElem_toArray, List.getElem_cons_succ, List.getElem_cons_zero]); go_simp; (try with_reducible rfl))
      (try simp only [Act.put, List.getElem_toArray, List.getElem_cons_succ, List.getElem_cons_zero, List.setIfInBounds_toArray, List.set_cons_zero, List.set_cons_succ])
      refine wpG_take1 (i := 2) (v := ?_) rfl (by kernel_rfl) (by kernel_rfl) (by kernel_rfl) (by decide) (fun _ _ _ h => h) (Or.inl ⟨by rfl, ?_⟩) hSS ?_
      rotate_left 1
      · (intro w hSw; (try dsimp only at hSw); (try simp only [List.getElem_toArray, List.getElem_cons_succ, List.getElem_cons_zero]); go_simp; (try with_reducible rfl))
      (try simp only [Act.put, List.getElem_toArray, List.getElem_cons_succ, List.getElem_cons_zero, List.setIfInBounds_toArray, List.set_cons_zero, List.set_cons_succ])
      refine wpG_take1 (i := 3) (v := ?_) rfl (by kernel_rfl) (by kernel_rfl) (by kernel_rfl) (by decide) (fun _ _ _ h => h) (Or.inl ⟨by rfl, ?_⟩) hSS ?_
      rotate_left 1
      · (intro w hSw; (try dsimp only at hSw); (try simp only [List.getElem_toArray, List.getElem_cons_succ, List.getElem_cons_zero]); go_simp; (try with_reducible rfl))
      (try simp only [Act.put, List.getElem_toArray, List.getElem_cons_succ, List.getElem_cons_zero, List.setIfInBounds_toArray, List.set_cons_zero, List.set_cons_succ])
      refine wpG_take2 (i := 4) (v := ?_) rfl (by kernel_rfl) (by kernel_rfl) (by kernel_rfl) (by decide) rfl (by kernel_rfl) (by kernel_rfl) (fun _ _ _ h => h) (Or.inl ⟨by rfl, ?_⟩) hSS ?_
      rotate_left 1
      · (intro w hSw; (try dsimp only at hSw); (try simp only [List.getElem_toArray, List.getElem_cons_succ, List.getElem_cons_zero]); go_simp; (try with_reducible rfl))
      (try simp only [Act.put, List.getElem_toArray, List.getElem_cons_succ, List.getElem_cons_zero, List.setIfInBounds_toArray, List.set_cons_zero, List.set_cons_succ])
      refine wpG_take1 (i := 5) (v := ?_) rfl (by kernel_rfl) (by kernel_rfl) (by kernel_rfl) (by decide) (fun _ _ _ h => h) (Or.inl ⟨by rfl, ?_⟩) hSS ?_
      rotate_left 1
      · (intro w hSw; (try dsimp only at hSw); (try simp only [List.getElem_toArray, List.getElem_cons_succ, List.getElem_cons_zero]); go_simp; (try with_reducible rfl))
      (try simp only [Act.put, List.getElem_toArray, List.getElem_cons_succ, List.getElem_cons_zero, List.setIfInBounds_toArray, List.set_cons_zero, List.set_cons_succ])
      refine wpG_take1 (i := 6) (v := ?_) rfl (by kernel_rfl) (by kernel_rfl) (by kernel_rfl) (by decide) (fun _ _ _ h => h) (Or.inl ⟨by rfl, ?_⟩) hSS ?_
      rotate_left 1
      · (intro w hSw; (try dsimp only at hSw); (try simp only [List.getElem_toArray, List.getElem_cons_succ, List.getElem_cons_zero]); go_simp; (try with_reducible rfl))
      (try simp only [Act.put, List.getElem_toArray, List.getElem_cons_succ, List.getElem_cons_zero, List.setIfInBounds_toArray, List.set_cons_zero, List.set_cons_succ])
      refine wpG_take1 (i := 7) (v := ?_) rfl (by kernel_rfl) (by kernel_rfl) (by kernel_rfl) (by decide) (fun _ _ _ h => h) (Or.inl ⟨by rfl, ?_⟩) hSS ?_
      rotate_left 1
      · (intro w hSw; (try dsimp only at hSw); (try simp only [List.getElem_toArray, List.getElem_cons_succ, List.getElem_cons_zero]); go_simp; (try with_reducible rfl))
      (try simp only [Act.put, List.getElem_toArray, List.getElem_cons_succ, List.getElem_cons_zero, List.setIfInBounds_toArray, List.set_cons_zero, List.set_cons_succ])
      refine wpG_one (i := 8) (by kernel_rfl) rfl (fun K hK => ?_)
      (try simp only [List.getElem_toArray, List.getElem_cons_succ, List.getElem_cons_zero])
      go_simp
      refine hK.out _ _ ⟨cell_al p0 _, cell_al x0 _⟩ ?_
      clear hK K hSS
      (try simp only [Act.put, List.getElem_toArray, List.getElem_cons_succ, List.getElem_cons_zero, List.setIfInBounds_toArray, List.set_cons_zero, List.set_cons_succ])
      obtain ⟨W2, hW2⟩ : ∃ W2, (W.alloc (.cells #[.int .i64 x] 3)).drew = W2 := ⟨_, rfl⟩
      have hb2 : Below W.heap.size W W2 := hW2 ▸ (bl_al (Below.refl _ _) _).drew
      have HN2 := Lib.hid (show ∀ j u, [Value.int .i64 x][j]? = some u → W2.cell? ((⟨W.heap.size, 0, none⟩ : Addr).add j) = some u from hW2 ▸ news_newN W 3 [.int .i64 x])
      have hrF : W2.ownsRow n0 3 1 (.slice A L c) L (flatI (S.cell sid)) := by
        have := own_later (HS.out.rws.row (.ci sid)) hb2
        simp only [rows, hsid, if_true] at this
        rw [HCI.out, HL.out] at this
        exact this
      have hs2 := hb2.size
      have d0 := cell_bl hb2 p0
      have hn0 := (HS.out.rws.lt .sb P.sb rfl)
      have HST := Lib.hid (fun w3 vv => SR.stk (W2 := w3) (HS.out.later hb2) sid HK.out (S.cell sid ++ [x]) vv (by rw [List.length_append, HL.out]; simp; omega) (fun y hy => by
        simp only [List.mem_append, List.mem_singleton] at hy
        rcases hy with hy | rfl
        · exact (hcs.2 y hy)
        · exact hxI))
      rw [hW2]
      have hnb : ∀ b, (P.ci sid).ownBlock = some b → b ≠ P.gI id := fun b hb e => by
        have h1 := HS.out.own hid hi
        rw [← e] at h1
        exact HS.out.rws.sep (.ci id) (.ci sid) b (by simpa using hne) h1 (by simp only [rows, hsid, if_true]; exact hb)
      rw [HCI.out] at HST hnb
      rw [HL.out] at HST hnb
      have HNB := Lib.hid hnb
      have HBB := Lib.hid hb2
      clear hW2 hnb hb2
      refine wpG_past (i := 9) (by kernel_rfl) rfl (by kernel_rfl) (fun K hK => ?_)
      refine step_append_own (by rfl) (.tmp 47) (.tmp 51) 26 (by rfl) n0 3 i1 _ 1 8 Try.underlying26 hi1 hz0 hz1 hz2 rfl (by decide) (.slice A L c) L (flatI (S.cell sid)) (by rfl) hrF ⟨W.heap.size, 0, none⟩ 1 1 [.int .i64 x] (by rfl) rfl HN2.out (by intro u hu; simp at hu; subst hu; rfl) (by unfold maxLen; omega) (by omega) (by omega) ?_
      intro v' w3 h2 h3 h5
      obtain ⟨g8, cap8, rfl⟩ := ownsRow_succ h2
      have hll : (S.cell sid ++ [x]).length = L + 1 := by rw [List.length_append, HL.out]; rfl
      obtain ⟨z0, zf, hfin⟩ := HST.out w3 _ (Chg.row h3) (by rw [hll, flatI_app]; exact h2) (fun b hb => by
        rcases h5 with h5 | h5
        · exact .inl (h5 ▸ hb)
        · exact .inr (by rw [h5] at hb; injection hb with hb; omega))
      have y0 : w3.cell? ⟨P.gI id, i, none⟩ = some (.int .i64 x) := chg_cell (Chg.row h3) d0 (fun e => HNB.out _ e rfl)
      have hput := SR.put (hfin.sr) (id := id) (i := i) hid (by show i < ((S.setL sid _).cell id).length; simp only [ST.setL, if_neg hne]; exact hi) 0 ⟨by decide, by decide⟩
      have hgi : (P.setI sid (.slice (some ⟨g8, 0, none⟩) (L + 1) cap8)).gI id = P.gI id := by simp [Ph.gI, Ph.setI, hne]
      rw [hgi] at hput
      have hcbne : P.cb sid ≠ P.gI id := fun e => by
        have h1 := HS.out.own hid hi
        exact HS.out.rws.sep (.ci id) (.cb sid) (P.gI id) (by simp) h1 (by simp only [rows, hsid, if_true]; rw [e]; rfl)
      have y1 : (w3.setCell ⟨P.cb sid, 0, none⟩ (.slice (some ⟨g8, 0, none⟩) (L + 1) cap8)).cell? ⟨P.gI id, i, none⟩ = some (.int .i64 x) := (World.cell?_setCell_far _ _ _ _ hcbne).trans y0
      have HFIN := Lib.hid (hfin.trans hput)
      have hfr := hfin.sr.plc (id := id) (i := i) hid (by show i < ((S.setL sid _).cell id).length; simp only [ST.setL, if_neg hne]; exact hi)
      rw [hgi] at hfr
      have yf := hfr.2.2
      refine hK.out _ _ y0 ?_
      clear hK K h2 h3 h5 hfin hput hrF HN2 d0 hfr
      (try simp only [Act.put, List.getElem_toArray, List.getElem_cons_succ, List.getElem_cons_zero, List.setIfInBounds_toArray, List.set_cons_zero, List.set_cons_succ])
      refine wpG_past (i := 10) (by kernel_rfl) rfl (by kernel_rfl) (fun K hK => ?_)
      (try simp only [List.getElem_toArray, List.getElem_cons_succ, List.getElem_cons_zero])
      go_simp
      refine hK.out _ _ y0 ?_
      clear hK K
      (try simp only [Act.put, List.getElem_toArray, List.getElem_cons_succ, List.getElem_cons_zero, List.setIfInBounds_toArray, List.set_cons_zero, List.set_cons_succ])
      refine wpG_past (i := 11) (by kernel_rfl) rfl (by kernel_rfl) (fun K hK => ?_)
      (try simp only [List.getElem_toArray, List.getElem_cons_succ, List.getElem_cons_zero])
      go_simp
      refine hK.out _ _ y0 ?_
      clear hK K
      (try simp only [Act.put, List.getElem_toArray, List.getElem_cons_succ, List.getElem_cons_zero, List.setIfInBounds_toArray, List.set_cons_zero, List.set_cons_succ])
      refine wpG_past (i := 12) (by kernel_rfl) rfl (by kernel_rfl) (fun K hK => ?_)
      (try simp only [List.getElem_toArray, List.getElem_cons_succ, List.getElem_cons_zero])
      go_simp
      refine hK.out _ _ y1 ?_
      clear hK K
      (try simp only [Act.put, List.getElem_toArray, List.getElem_cons_succ, List.getElem_cons_zero, List.setIfInBounds_toArray, List.set_cons_zero, List.set_cons_succ])
      refine wpG_done (by kernel_rfl) ?_
      refine NoPanic.normal ?_
      obtain ⟨w4, hw4⟩ : ∃ w4, w3.setCell ⟨P.cb sid, 0, none⟩ (.slice (some ⟨g8, 0, none⟩) (L + 1) cap8) = w4 := ⟨_, rfl⟩
      rw [hw4] at y1 yf HFIN ⊢
      clear hw4 z0 zf y0
      go_wp2_with fail
      go_ret
      refine ⟨by rw [HN.out]; rfl, P.setI sid (.slice (some ⟨g8, 0, none⟩) (L + 1) cap8), ?_, rfl⟩
      rw [HN.out]
      exact ⟨HFIN.out.st.after HBB.out HS.out.rws, HFIN.out.wf⟩
  · rcases Nat.eq_zero_or_pos L with h0 | h0
    · subst h0
      have HN := Lib.hid (show R = (13, S) by rw [← HRR.out, moveE, if_neg (by decide), if_pos HL.out])
      go_enter Try.func62, Try.ntmps62
      go_wp2_with fail
      go_ret
      exact ⟨by rw [HN.out]; rfl, P, by rw [HN.out]; exact SStp.refl HS.out (Below.refl _ _), rfl⟩
    · obtain ⟨m, rfl⟩ : ∃ m, L = m + 1 := ⟨L - 1, by omega⟩
      have hm0 : ¬ ((m : Int) + 1 = 0) := by omega
      have hm1 : (((m : Int) + 1) == 0) = false := by simpa using hm0
      by_cases hx0 : x = 0
      · subst hx0
        obtain ⟨a, rfl, hz⟩ := HRI.out.nd (i := m) (by rw [HL.out]; omega)
        obtain ⟨y, hy⟩ : ∃ y, (S.cell sid).getD m 0 = y := ⟨_, rfl⟩
        rw [hy] at hz
        have HN := Lib.hid (show R = (0, (S.put id i y).setL sid ((S.cell sid).take m)) by
          rw [← HRR.out, moveE, if_neg (by decide), if_neg (by rw [HL.out]; omega), if_neg (by rw [HX.out]; simp), HL.out]
          rw [show S.el sid (m + 1 - 1) = y from hy]
          rfl)
        have hyI : I64 y := by rw [← hy]; exact el_I64 HS.out.wf hsid m
        have s1 := HS.out.put hid hi y hyI
        obtain ⟨g, c2, hv2, hc2, hm2, hcell2⟩ := row_some (HS.out.rws.row (.ci sid)) (by simp only [rows, hsid, if_true]; rw [HL.out]; omega)
        simp only [rows, hsid, if_true] at hv2 hc2
        rw [HL.out] at hc2
        rw [HCI.out] at hv2
        injection hv2 with a1 a2 a3
        injection a1 with a1
        subst a1 a3
        rw [Addr.add_lit, Nat.zero_add] at hz
        have hcbne : P.cb sid ≠ P.gI id := fun e => by
          have h1 := HS.out.own hid hi
          exact HS.out.rws.sep (.ci id) (.cb sid) (P.gI id) (by simp) h1 (by simp only [rows, hsid, if_true]; rw [e]; rfl)
        have x1 : (W.setCell ⟨P.gI id, i, none⟩ (.int .i64 y)).cell? ⟨P.cb sid, 0, none⟩ = some (.slice (some ⟨g, 0, none⟩) (m + 1) c) := (World.cell?_setCell_far _ _ _ _ (Ne.symm hcbne)).trans x0
        have hrow1 : (W.setCell ⟨P.gI id, i, none⟩ (.int .i64 y)).ownsRow n0 3 1 (.slice (some ⟨g, 0, none⟩) m c) m (flatI ((S.cell sid).take m)) := by
          have := s1.st.rws.row (.ci sid)
          have e1 : rows P (S.put id i y) (.ci sid) = ⟨.slice (some ⟨g, 0, none⟩) (m + 1) c, 3, 1, m + 1, flatI (S.cell sid)⟩ := by
            rw [rows_put P S id i y hid, updR_other (by simpa using Ne.symm hne)]
            simp only [rows, hsid, if_true]
            rw [HCI.out, HL.out]
          rw [e1] at this
          have e2 : flatI (S.cell sid) = flatI ((S.cell sid).take m) ++ (flatI (S.cell sid)).drop (m * 1) := by rw [Nat.mul_one, flatI, flatI, List.map_take, List.take_append_drop]
          dsimp only at this
          rw [e2] at this
          exact ownsRow_pop (by rw [flatI_len, List.length_take, HL.out]; omega) this
        have hltm : ((S.cell sid).take m).length = m := by rw [List.length_take, HL.out]; omega
        have hcell1 : (S.put id i y).cell sid = S.cell sid := by simp [ST.put, ST.setL, Ne.symm hne]
        obtain ⟨z0, zf, hfin⟩ := SR.stk (W2 := W.setCell ⟨P.gI id, i, none⟩ (.int .i64 y)) s1.sr sid HK.out ((S.cell sid).take m) (.slice (some ⟨g, 0, none⟩) m c) (by omega) (fun q hq => hcs.2 q (List.mem_of_mem_take hq)) (Chg.refl _ _) (by rw [hltm]; exact hrow1) (fun b hb => .inl (by rw [HCI.out]; exact hb))
        have HFIN := Lib.hid (s1.trans hfin)
        have hw1 : IntKind.i64.wrap (m : Int) = (m : Int) := IntWalk.i64_in _ (by omega)
        have hmc : (m : Int) ≤ (c : Int) := by omega
        have hmm : (m : Int) < (m : Int) + 1 := by omega
        clear s1 hfin hrow1 z0 hcell2 HRR
        go_enter Try.func62, Try.ntmps62
        go_wp2_with fail
        go_ret
        refine ⟨by rw [HN.out]; rfl, P.setI sid (.slice (some ⟨g, 0, none⟩) m c), ?_, rfl⟩
        rw [HN.out]
        exact HFIN.out
      · have HN := Lib.hid (show R = (14, S) by rw [← HRR.out, moveE, if_neg (by decide), if_neg (by rw [HL.out]; omega), if_pos (by rw [HX.out]; exact hx0)])
        have hx1 : (x != 0) = true := by simpa using hx0
        have hx2 : (x == 0) = false := by simpa using hx0
        go_enter Try.func62, Try.ntmps62
        go_wp2_with fail
        go_ret
        exact ⟨by rw [HN.out]; rfl, P, by rw [HN.out]; exact SStp.refl HS.out (Below.refl _ _), rfl⟩

end Go.Proofs.Ytekjfbnggfbfhaa
