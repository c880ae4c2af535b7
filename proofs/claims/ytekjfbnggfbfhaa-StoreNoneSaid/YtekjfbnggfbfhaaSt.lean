/-
  store: the contract of State; states that a call owns.
-/
import Derived.Test.YtekjfbnggfbfhaaNw
import Derived.Deep.OwnRows
namespace Go.Proofs.Ytekjfbnggfbfhaa
open Go Go.RowKit

/-- The rows of a state that is being built: the cells (none), and the elements of cell i (some i); j cells are done. -/
def rowsM (vc : Value) (fc : Nat → Value) (ls : List (List Int)) (j : Nat) : Option Nat → RowD
  | none => ⟨vc, 26, 1, ls.length, (List.range ls.length).map fun i => if i < j then fc i else .slice none 0 0⟩
  | some i => if i < j then ⟨fc i, 3, 1, (ls.getD i []).length, flatI (ls.getD i [])⟩ else nilR
/-- Which row of a state: the cells, the elements of a cell, the input, the output. -/
inductive SI where
  | all | el (i : Nat) | inp | out
  deriving DecidableEq
/-- The rows of a state. -/
def rowsS (vc vi vo : Value) (fc : Nat → Value) (s : SS) : SI → RowD
  | .all => ⟨vc, 26, 1, s.cells.length, (List.range s.cells.length).map fc⟩
  | .el i => if i < s.cells.length then ⟨fc i, 3, 1, (s.cells.getD i []).length, flatI (s.cells.getD i [])⟩ else nilR
  | .inp => ⟨vi, 3, 1, s.tin.length, flatI s.tin⟩
  | .out => ⟨vo, 3, 1, s.tout.length, flatI s.tout⟩
/-- The numbers of a state. -/
def SS.I (s : SS) : Prop := (∀ l ∈ s.cells, ∀ x ∈ l, I64 x) ∧ (∀ x ∈ s.tin, I64 x) ∧ ∀ x ∈ s.tout, I64 x
/-- The value v is the state s, in memory that nothing else shares, from block n0 on. -/
def OwnS (W : World) (n0 : Nat) (s : SS) (v : Value) : Prop := ∃ vc vi vo fc, v = .agg #[vc, vi, vo] ∧ Rws W n0 (rowsS vc vi vo fc s) ∧ s.I

theorem madeCells_one (z : Value) (n : Nat) : madeCells #[z] n = Array.replicate n z := by
  unfold madeCells
  refine Array.ext (by simp) fun i h1 h2 => ?_
  simp [Nat.mod_one]
theorem rowsM_new (w : World) (fc : Nat → Value) (ls : List (List Int)) (n : Nat) (hn : ls.length = n) (hm : n ≤ maxLen) : Rws (w.alloc (.cells (madeCells #[.slice none 0 0] n) 26)) w.heap.size (rowsM (.slice (some ⟨w.heap.size, 0, none⟩) n n) fc ls 0) := by
  refine ⟨fun i => ?_, fun i j b hij hi hj => ?_⟩
  · cases i with
    | none =>
      refine ⟨by simp [rowsM], .inr ⟨w.heap.size, n, madeCells #[.slice none 0 0] n, by simp [rowsM, hn], Nat.le_refl _, heap_alloc_new w _, by simp [rowsM, hn], hm, by simp [rowsM, size_madeCells], ?_⟩⟩
      rw [madeCells_one]
      simp only [rowsM, hn, Array.toList_replicate, Nat.mul_one, List.take_replicate, Nat.min_self, Nat.not_lt_zero, if_false]
      exact List.ext_getElem (by simp) fun i h1 h2 => by simp
    | some i => simp only [rowsM, Nat.not_lt_zero, if_false]; exact ownsRow_nilR _ _
  · cases i with
    | some i => simp [rowsM, nilR, Value.ownBlock] at hi
    | none =>
      cases j with
      | none => exact hij rfl
      | some j => simp [rowsM, nilR, Value.ownBlock] at hj
theorem rowsM_step {W W2 : World} {n1 g n c j : Nat} {fc : Nat → Value} {ls : List (List Int)} (h : Rws W n1 (rowsM (.slice (some ⟨g, 0, none⟩) n c) fc ls j)) (hb : Below W.heap.size W W2) (hj : j < ls.length) (l : List Int) (hl : ls[j] = l) (v : Value) (ho : W2.ownsRow W.heap.size 3 1 v l.length (flatI l)) :
    Stp n1 (rowsM (.slice (some ⟨g, 0, none⟩) n c) fc ls j) W (rowsM (.slice (some ⟨g, 0, none⟩) n c) (fun i => if i = j then v else fc i) ls (j + 1)) (W2.setCell ⟨g, j, none⟩ v) := by
  have hn : n1 ≤ W.heap.size := by have := h.lt none g rfl; omega
  have s1 := Stp.upd (i := some j) (r := ⟨v, 3, 1, l.length, flatI l⟩) h (Chg.of_below hb) (own_mono ho hn) (fun b e => .inr (ho.lt b e).1)
  have s2 := Stp.set (i := none) s1.rws (g := g) (by rw [updR_other (by simp)]; rfl) (o := j) (by rw [updR_other (by simp)]; simpa [rowsM] using hj) v
  refine (s1.trans s2).cast ?_
  funext q
  cases q with
  | none =>
    rw [updR_same, updR_other (by simp)]
    simp only [rowsM, RowD.mk.injEq, true_and]
    refine List.ext_getElem (by simp) fun i h1 h2 => ?_
    simp only [List.getElem_set, List.getElem_map, List.getElem_range]
    by_cases e : j = i
    · subst e; simp
    · rw [if_neg e]
      have e' : i ≠ j := fun h => e h.symm
      by_cases h3 : i < j
      · rw [if_pos h3, if_pos (by omega), if_neg e']
      · rw [if_neg h3, if_neg (by omega)]
  | some i =>
    rw [updR_other (by simp)]
    by_cases e : i = j
    · subst e
      rw [updR_same]
      simp [rowsM, hj, hl]
    · rw [updR_other (by simpa using e)]
      simp only [rowsM, e, if_false]
      by_cases h3 : i < j
      · rw [if_pos h3, if_pos (by omega)]
      · rw [if_neg h3, if_neg (by omega)]
theorem rowsS_of {W1 W2 W3 : World} {n1 : Nat} {vc vi vo : Value} {fc : Nat → Value} {s : SS} (h : Rws W1 n1 (rowsM vc fc s.cells s.cells.length)) (hn : n1 ≤ W1.heap.size) (b2 : Below W1.heap.size W1 W2) (o2 : W2.ownsRow W1.heap.size 3 1 vi s.tin.length (flatI s.tin)) (b3 : Below W2.heap.size W2 W3)
    (o3 : W3.ownsRow W2.heap.size 3 1 vo s.tout.length (flatI s.tout)) : Rws W3 n1 (rowsS vc vi vo fc s) := by
  have h3 := (h.later b2).later b3
  have hs2 := b2.size
  have l1 : ∀ i b, (rowsM vc fc s.cells s.cells.length i).v.ownBlock = some b → b < W1.heap.size := fun i b e => (h.lt i b e).2
  have l2 : ∀ b, vi.ownBlock = some b → W1.heap.size ≤ b ∧ b < W2.heap.size := fun b e => o2.lt b e
  have l3 : ∀ b, vo.ownBlock = some b → W2.heap.size ≤ b := fun b e => (o3.lt b e).1
  have eo : rowsS vc vi vo fc s .all = rowsM vc fc s.cells s.cells.length none := by
    simp only [rowsS, rowsM, RowD.mk.injEq, true_and]
    refine List.map_congr_left fun i hi => ?_
    rw [if_pos (by simpa using hi)]
  refine ⟨fun i => ?_, fun i j b hij h1 h2 => ?_⟩
  · cases i with
    | all => rw [eo]; exact h3.row none
    | el i => exact h3.row (some i)
    | inp => exact own_mono (own_later o2 b3) hn
    | out => exact own_mono o3 (by omega)
  · have key : ∀ i b, (rowsS vc vi vo fc s i).v.ownBlock = some b → (∃ q, i = (match q with | none => SI.all | some k => SI.el k) ∧ (rowsM vc fc s.cells s.cells.length q).v.ownBlock = some b) ∨ (i = .inp ∧ vi.ownBlock = some b) ∨ (i = .out ∧ vo.ownBlock = some b) := fun i b e => by
      cases i with
      | all => exact .inl ⟨none, rfl, by rw [eo] at e; exact e⟩
      | el i => exact .inl ⟨some i, rfl, e⟩
      | inp => exact .inr (.inl ⟨rfl, e⟩)
      | out => exact .inr (.inr ⟨rfl, e⟩)
    rcases key i b h1 with ⟨q, e1, a1⟩ | ⟨e1, a1⟩ | ⟨e1, a1⟩ <;> rcases key j b h2 with ⟨q', e2, a2⟩ | ⟨e2, a2⟩ | ⟨e2, a2⟩
    · exact h.sep q q' b (fun e => hij (by rw [e1, e2, e])) a1 a2
    · have := l1 q b a1; have := l2 b a2; omega
    · have := l1 q b a1; have := l3 b a2; omega
    · have := l2 b a1; have := l1 q' b a2; omega
    · exact hij (e1.trans e2.symm)
    · have := l2 b a1; have := l3 b a2; omega
    · have := l3 b a1; have := l1 q' b a2; omega
    · have := l3 b a1; have := l2 b a2; omega
    · exact hij (e1.trans e2.symm)
theorem OwnS.later {W W' : World} {n0 : Nat} {s : SS} {v : Value} (h : OwnS W n0 s v) (hb : Below W.heap.size W W') : OwnS W' n0 s v := by
  obtain ⟨vc, vi, vo, fc, h1, h2, h3⟩ := h
  exact ⟨vc, vi, vo, fc, h1, h2.later hb, h3⟩
theorem OwnS.mono {W : World} {n0 n1 : Nat} {s : SS} {v : Value} (h : OwnS W n1 s v) (hn : n0 ≤ n1) : OwnS W n0 s v := by
  obtain ⟨vc, vi, vo, fc, h1, h2, h3⟩ := h
  exact ⟨vc, vi, vo, fc, h1, h2.mono hn, h3⟩
/-- Such a value reads as the state. -/
theorem OwnS.sv {W : World} {n0 : Nat} {s : SS} {v : Value} (h : OwnS W n0 s v) (hl : s.Lim) : SV W Any s v := by
  obtain ⟨vc, vi, vo, fc, rfl, hr, h1, h2, h3⟩ := h
  obtain ⟨AI, cI, e2, k2, r2⟩ := row_I (hr.row .inp) h2
  obtain ⟨AO, cO, e3, k3, r3⟩ := row_I (hr.row .out) h3
  change vi = _ at e2
  change vo = _ at e3
  have key : ∃ A c, vc = .slice A s.cells.length c ∧ s.cells.length ≤ c ∧ RowII W Any A s.cells := by
    rcases Nat.eq_zero_or_pos s.cells.length with h0 | h0
    · obtain ⟨A, c, e1, hc, _⟩ := row_slice (hr.row .all)
      exact ⟨A, c, e1, hc, fun i hi => by omega⟩
    · obtain ⟨g, c, e1, hc, _, hcell⟩ := row_some (hr.row .all) h0
      refine ⟨_, c, e1, hc, fun i hi => ?_⟩
      have hri := hr.row (.el i)
      simp only [rowsS, hi, if_true, List.getD_eq_getElem?_getD, List.getElem?_eq_getElem hi, Option.getD_some] at hri
      obtain ⟨A', c', e4, k4, r4⟩ := row_I hri (h1 _ (List.getElem_mem hi))
      have ha : (⟨g, 0, none⟩ : Addr).add i = ⟨g, i, none⟩ := by unfold Addr.add; split <;> simp_all
      refine ⟨⟨g, 0, none⟩, A', c', rfl, trivial, ?_, k4, r4⟩
      rw [ha, ← e4, hcell i (by show i < s.cells.length * 1; omega)]
      simp [rowsS, hi]
  obtain ⟨A, c, e1, k1, r1⟩ := key
  exact ⟨A, c, AI, cI, AO, cO, by rw [e1, e2, e3], r1, r2, r3, k1, k2, k3, hl⟩

/-- Store.State. -/
def ST.state (S : ST) : SS := ⟨(S.base.cs.take (S.base.cs.length - S.base.loc)).map S.cell, S.tin, S.tout⟩
theorem state_I {S : ST} (h : S.WF) : S.state.I ∧ S.state.Lim ∧ ∀ l ∈ S.state.cells, l.length ≤ 1000 := by
  obtain ⟨kd, h1, _, _⟩ := h.ex
  have hc : ∀ l ∈ S.state.cells, l.length ≤ 1000 ∧ ∀ x ∈ l, I64 x := fun l hl => by
    simp only [ST.state, List.mem_map] at hl
    obtain ⟨c, hc, rfl⟩ := hl
    exact h.cells c (h1.num c (List.mem_of_mem_take hc))
  have := h1.len
  have := h1.lim
  have := h.tin.1
  have := h.tout.1
  refine ⟨⟨fun l hl => (hc l hl).2, h.tin.2, h.tout.2⟩, ⟨?_, fun l hl => ?_, ?_, ?_⟩, fun l hl => (hc l hl).1⟩
  · simp only [ST.state, List.length_map, List.length_take, LI]; omega
  · have := (hc l hl).1; simp only [LI]; omega
  · simp only [ST.state, LI]; omega
  · simp only [ST.state, LI]; omega

theorem sIInfo : (Try.prog.info? 26).map (fun i => (i.zero, i.size, i.bytes)) = some (some (.slice none 0 0), 1, 24) := by kernel_rfl
theorem fnTIn : IsFn Try.prog 44 Try.f44 := ⟨Try.func44, by kernel_rfl, by kernel_rfl⟩
theorem fnTOut : IsFn Try.prog 45 Try.f45 := ⟨Try.func45, by kernel_rfl, by kernel_rfl⟩
theorem buildSS (A B C : Option Addr) (l c m d n e : Nat) (w : World) : (Instr.build 29 #[(0, .slice A l c), (1, .slice B m d), (2, .slice C n e)]).run Try.prog w = .ok (.agg #[.slice A l c, .slice B m d, .slice C n e]) w := by kernel_rfl

set_option maxHeartbeats 4000000 in
set_option maxRecDepth 100000 in
theorem State_any {W : World} {n0 : Nat} {P : Ph} {S : ST} (h : SR W n0 P S) : Calls Try.prog 25 #[.pointer (some ⟨P.sb, 0, none⟩)] W fun e W' => ∃ v, e = .returned v ∧ OwnS W' W.heap.size S.state v ∧ Below W.heap.size W W' := by
  obtain ⟨kd, hw, _, _⟩ := h.wf.ex
  obtain ⟨m, hm⟩ : ∃ m, S.base.cs.length = m + S.base.loc := ⟨S.base.cs.length - S.base.loc, by have := hw.len; have := hw.loc; omega⟩
  have hlim := hw.lim
  have hlen := hw.len
  obtain ⟨A, c, hvC, -, -⟩ := row_slice (h.rws.row .bc)
  change P.vC = .slice A S.base.cs.length c at hvC
  obtain ⟨hI, hL, hL2⟩ := state_I h.wf
  have HI := Lib.hid hI
  have HL2 := Lib.hid hL2
  have HNUM := Lib.hid hw.num
  have hst : S.state.cells.length = m := by simp [ST.state, hm]
  have HSG := Lib.hid (show ∀ j (hj : j < m), ∃ hj' : j < S.base.cs.length, ∃ h2 : j < S.state.cells.length, S.state.cells[j] = S.cell S.base.cs[j] from fun j hj => ⟨by omega, by omega, by simp [ST.state]⟩)
  have HST := Lib.hid hst
  have HS := Lib.hid h
  obtain ⟨lc, hlc⟩ : ∃ lc, S.base.loc = lc := ⟨_, rfl⟩
  rw [hlc] at hm
  have hx : W.cell? ⟨P.sb, 1, none⟩ = some (.slice A (m + lc) c) := by rw [← hm, ← hvC]; exact cell_of_blk h.box rfl
  have hy : W.cell? ⟨P.sb, 2, none⟩ = some (.int .i64 lc) := by rw [← hlc]; exact cell_of_blk h.box rfl
  have HX := Lib.hid hx
  have HM := Lib.hid hm
  have HVC := Lib.hid hvC
  have x1 : ∀ o, (W.alloc o).cell? ⟨P.sb, 1, none⟩ = some (.slice A (m + lc) c) := fun o => cell_al hx o
  have x2 : ∀ o, (W.alloc o).cell? ⟨P.sb, 2, none⟩ = some (.int .i64 lc) := fun o => cell_al hy o
  have hmk := fun W => run_make_row' (P := Try.prog) 27 26 (.slice none 0 0) 24 Try.underlying27 sIInfo rfl .i64 .i64 m (by omega) (by omega) W
  have hml : m ≤ 4398046511000 := by omega
  clear h hw hm hvC hI hL hL2 hst hlim hlen hx hy hlc
  go_enter Try.func25, Try.ntmps25
  go_wp2_with fail
  go_quiet (fail)
  go_wp2_with fail
  obtain ⟨W0, hW0⟩ : ∃ W0, (W.alloc (.cells #[.slice none 0 0, .slice none 0 0, .slice none 0 0] 29)).drewN nq = W0 := ⟨_, rfl⟩
  have HB0 := Lib.hid (show Below W.heap.size W W0 from hW0 ▸ drewN_below (bl_al (Below.refl _ _) _) nq)
  have HR0 := Lib.hid (show W0.heap[W.heap.size]? = some (.cells #[.slice none 0 0, .slice none 0 0, .slice none 0 0] 29 (0, 0)) by
    rw [← hW0]; exact heap_alloc_new W _)
  have hz0 : W0.heap.size = W.heap.size + 1 := by rw [← hW0]; show (W.alloc _).heap.size = _; simp
  have HRW0 := Lib.hid (rowsM_new W0 (fun _ => .slice none 0 0) S.state.cells m HST.out (by unfold maxLen; omega))
  rw [hW0]
  rw [hz0] at HRW0
  have HZ0 := Lib.hid hz0
  clear hW0 x1 x2 hmk nq hz0
  go_loopw [25] (fun i wr => ∃ j : Nat, j ≤ m ∧ i = .int .i64 j ∧ Hid (Below W0.heap.size W0 wr) ∧ ∃ fc, Hid (Rws wr (W.heap.size + 1) (rowsM (.slice (some ⟨W.heap.size + 1, 0, none⟩) m m) fc S.state.cells j))) (fun i _ => m - (intOf i).toNat)
  case atStart => exact ⟨0, Nat.zero_le _, rfl, Lib.hid (bl_al (Below.refl _ _) _), _, HRW0⟩
  case round =>
    obtain ⟨j, hj, rfl, HBL, fc, HRW⟩ := hrel
    have HSr := Lib.hid ((HS.out.later HB0.out).later HBL.out)
    by_cases hlt : j < m
    · obtain ⟨hj', hj2, hjc⟩ := HSG.out j hlt
      obtain ⟨id, hid⟩ : ∃ id, S.base.cs[j] = id := ⟨_, rfl⟩
      have hidn : id < S.nc := by rw [← hid]; exact HNUM.out _ (List.getElem_mem hj')
      obtain ⟨gc, c2, hcc, -, -, hcell⟩ := row_some (HSr.out.rws.row .bc) (by show 0 < S.base.cs.length; omega)
      change P.vC = .slice _ S.base.cs.length c2 at hcc
      have y0 : wr.cell? ⟨P.sb, 1, none⟩ = some (.slice (some ⟨gc, 0, none⟩) (m + lc) c2) := by rw [← HM.out, ← hcc]; exact cell_of_blk HSr.out.box rfl
      have y1 : wr.cell? ⟨gc, j, none⟩ = some (.pointer (some ⟨P.cb id, 0, none⟩)) := by rw [hcell j (by show j < S.base.cs.length * 1; omega)]; simp [rows, ptrs, hj', hid]
      obtain ⟨A3, c3, hci, hc3, hri⟩ := HSr.out.items hidn
      have y2 : wr.cell? ⟨P.cb id, 0, none⟩ = some (.slice A3 (S.cell id).length c3) := by rw [← hci]; exact cell_of_blk (HSr.out.cbox hidn) rfl
      obtain ⟨l, hl⟩ : ∃ l, S.cell id = l := ⟨_, rfl⟩
      rw [hl] at y2 hri
      have HL := Lib.hid (show S.state.cells[j] = l by rw [hjc, hid, hl])
      have hll : l.length ≤ 1000 := by rw [← HL.out]; exact HL2.out _ (List.getElem_mem hj2)
      have HCL := Lib.hid (CloneI_own l A3 c3 Any wr hri (by unfold LI; omega))
      have hj1 : (j : Int) < (m : Int) := by omega
      have hj3 : (j : Int) < (m : Int) + (lc : Int) := by omega
      have H2 := Lib.hid hj2
      clear hcell hcc hci hri hc3 hid hl hjc hj'
      go_wp2_with fail
      refine HCL.out.mono ?_
      rintro e9 w2 ⟨v2, rfl, ho2, -, hb2⟩
      obtain ⟨A4, c4, rfl, -, -⟩ := row_slice ho2
      have hrl := HRW.out.later hb2
      have u0 : w2.cell? ⟨W.heap.size + 1, j, none⟩ = some (.slice none 0 0) := hrl.cell none rfl (by have := HST.out; simp [rowsM, this, hlt])
      have u1 : w2.frozen? ⟨W.heap.size + 1, j, none⟩ = false := hrl.frozen none rfl j
      have s1 := rowsM_step HRW.out hb2 H2.out l HL.out _ ho2
      have HR2 := Lib.hid s1.rws
      have HB2 := Lib.hid (show Below W0.heap.size W0 (w2.setCell ⟨W.heap.size + 1, j, none⟩ (.slice A4 l.length c4)) from HBL.out.trans (s1.chg.below HBL.out.size fun b ⟨q, hq⟩ => by have := (HRW.out.lt q b hq).1; have := HZ0.out; omega))
      clear ho2 hb2 s1 hrl
      go_wp2_with fail
      go_roundw
      case rel => exact ⟨j + 1, by omega, by go_num, HB2, _, HR2⟩
      case measure => simp [intOf]; omega
    · obtain rfl : j = m := by omega
      have hj1 : ¬ (j : Int) < (j : Int) := by omega
      have y4 : wr.cell? ⟨P.sb, 4, none⟩ = some (.pointer (some ⟨P.tb, 0, none⟩)) := cell_of_blk HSr.out.box rfl
      have hbss := buildSS
      go_upto_region 10 with fail
      obtain ⟨S1, hS1⟩ : ∃ S1 : World → Prop, S1 = fun w' : World => w'.cell? ⟨P.sb, 4, none⟩ = some (.pointer (some ⟨P.tb, 0, none⟩)) := ⟨_, rfl⟩
      have HSb := Lib.hid (show ∀ W W', S1 W → Below W.heap.size W W' → S1 W' by rw [hS1]; exact fun W W' h hb => cell_bl hb h)
      have hSS : S1 wr.drew ∧ (fun _ : World => True) wr.drew := ⟨by rw [hS1]; exact y4, trivial⟩
      refine wp_region_noPanic ?_
      refine wp_region_G S1 (fun _ : World => True) 12 (by kernel_rfl) ?_
      subst hS1
      refine wpG_take1 (i := 0) (v := ?_) rfl (by kernel_rfl) (by kernel_rfl) (by kernel_rfl) (by decide) (fun _ _ _ h => h) (Or.inl ⟨by rfl, ?_⟩) hSS ?_
      rotate_left 1
      · (intro w hSw; (try dsimp only at hSw); (try simp only [List.getElem_toArray, List.getElem_cons_zero]); go_simp; (try with_reducible rfl))
      (try simp only [Act.put, List.getElem_toArray, List.getElem_cons_zero, List.setIfInBounds_toArray, List.set_cons_zero, List.set_cons_succ])
      refine wpG_take1 (i := 1) (v := ?_) rfl (by kernel_rfl) (by kernel_rfl) (by kernel_rfl) (by decide) (fun _ _ _ h => h) (Or.inl ⟨by rfl, ?_⟩) hSS ?_
      rotate_left 1
      · (intro w hSw; (try dsimp only at hSw); (try simp only [List.getElem_toArray, List.getElem_cons_succ, List.getElem_cons_zero]); go_simp; (try with_reducible rfl))
      (try simp only [Act.put, List.getElem_toArray, List.getElem_cons_succ, List.getElem_cons_zero, List.setIfInBounds_toArray, List.set_cons_zero, List.set_cons_succ])
      refine wpG_take1 (i := 2) (v := ?_) rfl (by kernel_rfl) (by kernel_rfl) (by kernel_rfl) (by decide) (fun _ _ _ h => h) (Or.inl ⟨by rfl, ?_⟩) hSS ?_
      rotate_left 1
      · (intro w hSw; (try dsimp only at hSw); (try simp only [List.getElem_toArray, List.getElem_cons_succ, List.getElem_cons_zero]); go_simp; (try with_reducible rfl))
      (try simp only [Act.put, List.getElem_toArray, List.getElem_cons_succ, List.getElem_cons_zero, List.setIfInBounds_toArray, List.set_cons_zero, List.set_cons_succ])
      refine wpG_take1 (i := 3) (v := ?_) rfl (by kernel_rfl) (by kernel_rfl) (by kernel_rfl) (by decide) (fun _ _ _ h => h) (Or.inl ⟨by rfl, ?_⟩) hSS ?_
      rotate_left 1
      · (intro w hSw; (try dsimp only at hSw); (try simp only [List.getElem_toArray, List.getElem_cons_succ, List.getElem_cons_zero]); go_simp; (try with_reducible rfl))
      (try simp only [Act.put, List.getElem_toArray, List.getElem_cons_succ, List.getElem_cons_zero, List.setIfInBounds_toArray, List.set_cons_zero, List.set_cons_succ])
      refine wpG_take1 (i := 4) (v := ?_) rfl (by kernel_rfl) (by kernel_rfl) (by kernel_rfl) (by decide) (fun _ _ _ h => h) (Or.inl ⟨by rfl, ?_⟩) hSS ?_
      rotate_left 1
      · (intro w hSw; (try dsimp only at hSw); (try simp only [List.getElem_toArray, List.getElem_cons_succ, List.getElem_cons_zero]); go_simp; (try with_reducible rfl))
      (try simp only [Act.put, List.getElem_toArray, List.getElem_cons_succ, List.getElem_cons_zero, List.setIfInBounds_toArray, List.set_cons_zero, List.set_cons_succ])
      refine wpG_take1 (i := 6) (v := ?_) rfl (by kernel_rfl) (by kernel_rfl) (by kernel_rfl) (by decide) (fun _ _ _ h => h) (Or.inl ⟨by rfl, ?_⟩) hSS ?_
      rotate_left 1
      · (intro w hSw; (try dsimp only at hSw); (try simp only [List.getElem_toArray, List.getElem_cons_succ, List.getElem_cons_zero]); go_simp; (try with_reducible rfl))
      (try simp only [Act.put, List.getElem_toArray, List.getElem_cons_succ, List.getElem_cons_zero, List.setIfInBounds_toArray, List.set_cons_zero, List.set_cons_succ])
      refine wpG_take1 (i := 7) (v := ?_) rfl (by kernel_rfl) (by kernel_rfl) (by kernel_rfl) (by decide) (fun _ _ _ h => h) (Or.inl ⟨by rfl, ?_⟩) hSS ?_
      rotate_left 1
      · (intro w hSw; (try dsimp only at hSw); (try simp only [List.getElem_toArray, List.getElem_cons_succ, List.getElem_cons_zero]); go_simp; (try with_reducible rfl))
      (try simp only [Act.put, List.getElem_toArray, List.getElem_cons_succ, List.getElem_cons_zero, List.setIfInBounds_toArray, List.set_cons_zero, List.set_cons_succ])
      refine wpG_take1 (i := 8) (v := ?_) rfl (by kernel_rfl) (by kernel_rfl) (by kernel_rfl) (by decide) (fun _ _ _ h => h) (Or.inl ⟨by rfl, ?_⟩) hSS ?_
      rotate_left 1
      · (intro w hSw; (try dsimp only at hSw); (try simp only [List.getElem_toArray, List.getElem_cons_succ, List.getElem_cons_zero]); go_simp; (try with_reducible rfl))
      (try simp only [Act.put, List.getElem_toArray, List.getElem_cons_succ, List.getElem_cons_zero, List.setIfInBounds_toArray, List.set_cons_zero, List.set_cons_succ])
      refine wpG_take1 (i := 9) (v := ?_) rfl (by kernel_rfl) (by kernel_rfl) (by kernel_rfl) (by decide) (fun _ _ _ h => h) (Or.inl ⟨by rfl, ?_⟩) hSS ?_
      rotate_left 1
      · (intro w hSw; (try dsimp only at hSw); (try simp only [List.getElem_toArray, List.getElem_cons_succ, List.getElem_cons_zero]); go_simp; (try with_reducible rfl))
      (try simp only [Act.put, List.getElem_toArray, List.getElem_cons_succ, List.getElem_cons_zero, List.setIfInBounds_toArray, List.set_cons_zero, List.set_cons_succ])
      have had : Calls Try.prog 44 [.pointer (some ⟨P.tb, 0, none⟩)].toArray wr.drew fun e w' => ∃ u, e = .returned u ∧ w'.ownsRow wr.drew.heap.size 3 1 u S.tin.length (flatI S.tin) ∧ Below wr.drew.heap.size wr.drew w' :=
        (TIn_any (HSr.out.later (Below.refl _ _).drew)).mono fun e w' ⟨u, hu, h1, _, h2⟩ => ⟨u, hu, h1, h2⟩
      refine wpG_one (i := 5) (by kernel_rfl) rfl (fun K hK => ?_)
      refine step_callL (by rfl) (.func 44) [.tmp 48] _ (by rfl) 44 _ fnTIn (by rfl) _ (by rfl) _ had ?_
      rintro v4 w4 ⟨ho4, hb4⟩
      obtain ⟨A4, c4, rfl, -, -⟩ := row_slice ho4
      have HO4 := Lib.hid ho4
      have HB4 := Lib.hid hb4
      have HS4 := Lib.hid (HSb.out _ _ hSS.1 hb4)
      refine hK.out _ _ ⟨HS4.out, trivial⟩ ?_
      clear hK K hSS had ho4 hb4
      (try simp only [Act.put, List.getElem_toArray, List.getElem_cons_succ, List.getElem_cons_zero, List.setIfInBounds_toArray, List.set_cons_zero, List.set_cons_succ])
      have had : Calls Try.prog 45 [.pointer (some ⟨P.tb, 0, none⟩)].toArray w4 fun e w' => ∃ u, e = .returned u ∧ w'.ownsRow w4.heap.size 3 1 u S.tout.length (flatI S.tout) ∧ Below w4.heap.size w4 w' :=
        (TOut_any ((HSr.out.later (Below.refl _ _).drew).later HB4.out)).mono fun e w' ⟨u, hu, h1, _, h2⟩ => ⟨u, hu, h1, h2⟩
      refine wpG_one (i := 10) (by kernel_rfl) rfl (fun K hK => ?_)
      refine step_callL (by rfl) (.func 45) [.tmp 53] _ (by rfl) 45 _ fnTOut (by rfl) _ (by rfl) _ had ?_
      rintro v5 w5 ⟨ho5, hb5⟩
      obtain ⟨A5, c5, rfl, -, -⟩ := row_slice ho5
      have HO5 := Lib.hid ho5
      have HB5 := Lib.hid hb5
      have HS5 := Lib.hid (HSb.out _ _ HS4.out hb5)
      refine hK.out _ _ ⟨HS5.out, trivial⟩ ?_
      clear hK K had ho5 hb5
      (try simp only [Act.put, List.getElem_toArray, List.getElem_cons_succ, List.getElem_cons_zero, List.setIfInBounds_toArray, List.set_cons_zero, List.set_cons_succ])
      refine wpG_one (i := 11) (by kernel_rfl) rfl (fun K hK => ?_)
      (try simp only [List.getElem_toArray, List.getElem_cons_succ, List.getElem_cons_zero])
      go_simp
      refine hK.out _ _ ⟨HS5.out, trivial⟩ ?_
      clear hK K
      (try simp only [Act.put, List.getElem_toArray, List.getElem_cons_succ, List.getElem_cons_zero, List.setIfInBounds_toArray, List.set_cons_zero, List.set_cons_succ])
      have hb5 : Below W0.heap.size W0 w5 := bl_tt (bl_tt HBL.out.drew HB4.out) HB5.out
      have hr5 := blk_bl HR0.out hb5
      have r0 : w5.cell? ⟨W.heap.size, 0, none⟩ = some (.slice none 0 0) := cell_of_blk hr5 rfl
      have r1 : w5.cell? ⟨W.heap.size, 1, none⟩ = some (.slice none 0 0) := cell_of_blk hr5 rfl
      have r2 : w5.cell? ⟨W.heap.size, 2, none⟩ = some (.slice none 0 0) := cell_of_blk hr5 rfl
      have rf : ∀ o, w5.frozen? ⟨W.heap.size, o, none⟩ = false := fun o => frozen_of_blk hr5
      refine wpG_past (i := 12) (by kernel_rfl) rfl (by kernel_rfl) (fun K hK => ?_)
      (try simp only [List.getElem_toArray, List.getElem_cons_succ, List.getElem_cons_zero])
      go_simp
      have hc6 : Chg (fun b => b = W.heap.size) w5 (((w5.setCell ⟨W.heap.size, 0, none⟩ (.slice (some ⟨W.heap.size + 1, 0, none⟩) j j)).setCell ⟨W.heap.size, 1, none⟩ (.slice A4 S.tin.length c4)).setCell ⟨W.heap.size, 2, none⟩ (.slice A5 S.tout.length c5)) :=
        (((Chg.refl (fun b => b = W.heap.size) w5).setCell (p := ⟨W.heap.size, 0, none⟩) (.inl rfl) _).setCell (p := ⟨W.heap.size, 1, none⟩) (.inl rfl) _).setCell (p := ⟨W.heap.size, 2, none⟩) (.inl rfl) _
      have hh6 := heap_setCell_same _ W.heap.size 2 _ _ (.slice A5 S.tout.length c5) (heap_setCell_same _ W.heap.size 1 _ _ (.slice A4 S.tin.length c4) (heap_setCell_same w5 W.heap.size 0 _ _ (.slice (some ⟨W.heap.size + 1, 0, none⟩) j j) hr5))
      obtain ⟨w6, hw6⟩ : ∃ w6, ((w5.setCell ⟨W.heap.size, 0, none⟩ (.slice (some ⟨W.heap.size + 1, 0, none⟩) j j)).setCell ⟨W.heap.size, 1, none⟩ (.slice A4 S.tin.length c4)).setCell ⟨W.heap.size, 2, none⟩ (.slice A5 S.tout.length c5) = w6 := ⟨_, rfl⟩
      rw [hw6] at hc6 hh6 ⊢
      have hsb : P.sb < W.heap.size := (HS.out.rws.lt .sb P.sb rfl).2
      have z0 : w6.cell? ⟨W.heap.size, 0, none⟩ = some (.slice (some ⟨W.heap.size + 1, 0, none⟩) j j) := cell_of_blk hh6 rfl
      have z1 : w6.cell? ⟨W.heap.size, 1, none⟩ = some (.slice A4 S.tin.length c4) := cell_of_blk hh6 rfl
      have z2 : w6.cell? ⟨W.heap.size, 2, none⟩ = some (.slice A5 S.tout.length c5) := cell_of_blk hh6 rfl
      have hZ := HZ0.out
      have hr6 : Rws w6 (W.heap.size + 1) (rowsS (.slice (some ⟨W.heap.size + 1, 0, none⟩) j j) (.slice A4 S.tin.length c4) (.slice A5 S.tout.length c5) fc S.state) := by
        have hrw : Rws wr (W.heap.size + 1) (rowsM (.slice (some ⟨W.heap.size + 1, 0, none⟩) j j) fc S.state.cells S.state.cells.length) := by rw [HST.out]; exact HRW.out
        have h5 := rowsS_of (s := S.state) (vi := .slice A4 S.tin.length c4) (vo := .slice A5 S.tout.length c5) (hrw.later (Below.refl _ _).drew) (by have := HBL.out.size; simp; omega) HB4.out HO4.out HB5.out HO5.out
        exact h5.chg hc6 fun i b hb e => by have := (h5.lt i b hb).1; omega
      have HFIN := Lib.hid (show OwnS w6 W.heap.size S.state (.agg #[.slice (some ⟨W.heap.size + 1, 0, none⟩) j j, .slice A4 S.tin.length c4, .slice A5 S.tout.length c5]) from ⟨_, _, _, fc, rfl, hr6.mono (Nat.le_succ _), HI.out⟩)
      have HBF := Lib.hid (show Below W.heap.size W w6 by
        have b5 : Below W.heap.size W w5 := HB0.out.trans (hb5.mono (by omega))
        exact b5.trans (hc6.below b5.size fun b hb => by omega))
      refine hK.out _ _ (chg_cell hc6 HS5.out fun e => by have h9 : P.sb = W.heap.size := e; omega) ?_
      clear hK K hc6 hh6 hw6 hr6 hr5 r0 r1 r2 rf hb5
      (try simp only [Act.put, List.getElem_toArray, List.getElem_cons_succ, List.getElem_cons_zero, List.setIfInBounds_toArray, List.set_cons_zero, List.set_cons_succ])
      refine wpG_done (by kernel_rfl) ?_
      refine NoPanic.normal ?_
      go_wp2_with fail
      exact bodyPost_ret (v := .agg #[.slice (some ⟨W.heap.size + 1, 0, none⟩) j j, .slice A4 S.tin.length c4, .slice A5 S.tout.length c5]) (by simp [results, Try.results25, go_sem, z0, z1, z2]) rfl ⟨_, rfl, HFIN.out, HBF.out⟩

end Go.Proofs.Ytekjfbnggfbfhaa
