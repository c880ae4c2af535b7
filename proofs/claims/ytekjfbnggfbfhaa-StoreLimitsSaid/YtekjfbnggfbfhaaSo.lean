/-
  The store: a new cell; a local is opened. Plain part and rows.
-/
import Derived.Test.YtekjfbnggfbfhaaSb
namespace Go.Proofs.Ytekjfbnggfbfhaa
open Go Go.RowKit

/-- The store with one cell more. -/
def ST.newCell (S : ST) (l : List Int) : ST := { S with cell := fun i => if i = S.nc then l else S.cell i, nc := S.nc + 1 }
def Ph.newCell (P : Ph) (S : ST) (b : Nat) (v : Value) : Ph := { P with cb := fun i => if i = S.nc then b else P.cb i, ci := fun i => if i = S.nc then v else P.ci i }
theorem ptrs_new {cb : Nat → Nat} {nc b : Nat} {cs : List Nat} (h : ∀ c ∈ cs, c < nc) : ptrs (fun i => if i = nc then b else cb i) cs = ptrs cb cs := by
  unfold ptrs
  refine List.map_congr_left fun c hc => ?_
  have := h c hc
  have e : c ≠ nc := by omega
  simp [e]
theorem rows_newCell {S : ST} (hw : S.WF) (P : Ph) (b : Nat) (v : Value) (l : List Int) : rows (P.newCell S b v) (S.newCell l) =
    updR (updR (rows P S) (.cb S.nc) ⟨boxV b, 82, 1, 1, [v]⟩) (.ci S.nc) ⟨v, 3, 1, l.length, flatI l⟩ := by
  obtain ⟨kd, h1, h2, _⟩ := hw.ex
  funext r
  cases r with
  | cb i =>
    by_cases e : i = S.nc
    · subst e; simp [updR, rows, Ph.newCell, ST.newCell]
    · have : (i < S.nc + 1) = (i < S.nc) := by simp; omega
      simp [updR, rows, Ph.newCell, ST.newCell, e, this]
  | ci i =>
    by_cases e : i = S.nc
    · subst e; simp [updR, rows, Ph.newCell, ST.newCell]
    · have : (i < S.nc + 1) = (i < S.nc) := by simp; omega
      simp [updR, rows, Ph.newCell, ST.newCell, e, this]
  | bc => simp [updR, rows, Ph.newCell, ST.newCell, ptrs_new h1.num]
  | fc i =>
    simp only [updR, reduceCtorEq, if_false, rows, ST.newCell, Ph.newCell]
    cases hi : S.calls[i]? with
    | none => rfl
    | some f => simp only [ptrs_new (h2 f (List.mem_of_getElem? hi)).num]
  | calls =>
    simp only [updR, reduceCtorEq, if_false, rows, ST.newCell]
    rw [flatF_congr (P := P) (P' := P.newCell S b v) rfl rfl]
    rfl
  | fv i => simp [updR, rows, Ph.newCell, ST.newCell]
  | sb => simp [updR, rows, Ph.newCell, ST.newCell]
  | tb => simp [updR, rows, Ph.newCell, ST.newCell]
  | tin => simp [updR, rows, Ph.newCell, ST.newCell]
  | tout => simp [updR, rows, Ph.newCell, ST.newCell]
  | bv => simp [updR, rows, Ph.newCell, ST.newCell]
  | x i => simp [updR, rows]
/-- The kinds of the cells, one more. -/
theorem FR.WF.new {f : FR} {kd : Nat → Int × Int} {nc : Nat} (h : f.WF kd nc) (k : Int × Int) : f.WF (fun i => if i = nc then k else kd i) (nc + 1) := by
  refine ⟨h.len, h.loc, h.lim, h.fld, fun c hc => by have := h.num c hc; omega, fun i hi hi' => ?_⟩
  have := h.num _ (List.getElem_mem hi')
  rw [if_neg (by omega)]
  exact h.kind i hi hi'
theorem newCell_cur (S : ST) (l : List Int) : (S.newCell l).cur = S.cur := rfl
theorem WF_newCell {S : ST} (h : S.WF) (l : List Int) (k : Int × Int) (hl : l.length ≤ 1000) (hf : ∀ x ∈ l, I64 x) (hk : (k.1 = 1 → l.length = 1) ∧ (k.1 = 2 → (l.length : Int) = k.2) ∧ (k.1 = 1 ∨ k.1 = 2 ∨ k.1 = 3)) : (S.newCell l).WF := by
  obtain ⟨kd, h1, h2, h3⟩ := h.ex
  refine ⟨⟨fun i => if i = S.nc then k else kd i, h1.new k, fun f hf => (h2 f hf).new k, fun i hi => ?_⟩, h.ncalls, fun i hi => ?_, h.tin, h.tout⟩
  · simp only [ST.newCell] at hi ⊢
    by_cases e : i = S.nc
    · subst e; simpa using hk
    · simp only [e, if_false]; exact h3 i (by omega)
  · simp only [ST.newCell] at hi ⊢
    by_cases e : i = S.nc
    · subst e; simpa using ⟨hl, hf⟩
    · simp only [e, if_false]; exact h.cells i (by omega)

theorem rows_new0 (P : Ph) (S : ST) : rows P S (.cb S.nc) = nilR ∧ rows P S (.ci S.nc) = nilR := by simp [rows]
/-- A block of one element that is laid anew is a row. -/
theorem own_new {k : Nat} (w : World) (n0 : Nat) (E : TypeId) (xs : List Value) (hn : n0 ≤ w.heap.size) (hx : xs.length = k) : (w.alloc (.cells xs.toArray E)).ownsRow n0 E k (.slice (some ⟨w.heap.size, 0, none⟩) 1 1) 1 xs :=
  ⟨by omega, .inr ⟨w.heap.size, 1, xs.toArray, rfl, hn, heap_alloc_new w _, Nat.le_refl _, by decide, by simp [hx], by rw [Nat.one_mul, ← hx]; simp⟩⟩
/-- A new cell with one element. -/
theorem newCell_int {W w2 : World} {n0 : Nat} {P : Ph} {S : ST} (h : SR W n0 P S) (hb : Below W.heap.size W w2) (x : Int) (hx : I64 x) :
    SStp n0 P S W (P.newCell S w2.heap.size (.slice (some ⟨w2.heap.size + 1, 0, none⟩) 1 1)) (S.newCell [x]) ((w2.alloc (.cells #[.slice (some ⟨w2.heap.size + 1, 0, none⟩) 1 1] 82)).alloc (.cells #[.int .i64 x] 3)) := by
  have hn : n0 ≤ w2.heap.size := by
    have h1 := (h.rws.lt .sb P.sb rfl)
    have h2 := hb.size
    omega
  obtain ⟨r1, r2⟩ := rows_new0 P S
  have s0 := (Stp.refl h.rws).below hb
  have s1 := Stp.upd (i := Res.cb S.nc) (r := ⟨boxV w2.heap.size, 82, 1, 1, [.slice (some ⟨w2.heap.size + 1, 0, none⟩) 1 1]⟩) s0.rws (Chg.of_below (bl_al (Below.refl _ _) (.cells #[.slice (some ⟨w2.heap.size + 1, 0, none⟩) 1 1] 82))) (own_new w2 n0 _ [_] hn rfl) (fun b hb => .inr (by simp [Value.ownBlock] at hb; omega))
  have o2 := own_new (k := 1) (w2.alloc (.cells #[.slice (some ⟨w2.heap.size + 1, 0, none⟩) 1 1] 82)) n0 3 [.int .i64 x] (by simp; omega) rfl
  rw [World.size_alloc] at o2
  have s2 := Stp.upd (i := Res.ci S.nc) (r := ⟨.slice (some ⟨w2.heap.size + 1, 0, none⟩) 1 1, 3, 1, 1, [.int .i64 x]⟩) s1.rws (Chg.of_below (bl_al (Below.refl _ _) (.cells #[.int .i64 x] 3))) o2 (fun b hb => .inr (by simp [Value.ownBlock] at hb; simp; omega))
  refine ⟨((s0.trans s1).trans s2).cast ?_, WF_newCell h.wf [x] (1, 0) (by simp) (by simpa using hx) (by simp)⟩
  rw [rows_newCell h.wf]
  rfl

/-- A new cell without elements. -/
theorem newCell_stack {W w2 : World} {n0 : Nat} {P : Ph} {S : ST} (h : SR W n0 P S) (hb : Below W.heap.size W w2) :
    SStp n0 P S W (P.newCell S w2.heap.size (.slice none 0 0)) (S.newCell []) (w2.alloc (.cells #[.slice none 0 0] 82)) := by
  have hn : n0 ≤ w2.heap.size := by
    have h1 := (h.rws.lt .sb P.sb rfl)
    have h2 := hb.size
    omega
  have s0 := (Stp.refl h.rws).below hb
  have s1 := Stp.upd (i := Res.cb S.nc) (r := ⟨boxV w2.heap.size, 82, 1, 1, [.slice none 0 0]⟩) s0.rws (Chg.of_below (bl_al (Below.refl _ _) (.cells #[.slice none 0 0] 82))) (own_new w2 n0 _ [_] hn rfl) (fun b hb => .inr (by simp [Value.ownBlock] at hb; omega))
  have s2 := Stp.upd (i := Res.ci S.nc) (r := ⟨.slice none 0 0, 3, 1, 0, []⟩) s1.rws (Chg.refl _ _) (World.ownsRow_nil _ _ _ _) (fun b hb => by simp [Value.ownBlock] at hb)
  refine ⟨((s0.trans s1).trans s2).cast ?_, WF_newCell h.wf [] (3, 0) (by simp) (by simp) (by simp)⟩
  rw [rows_newCell h.wf]
  rfl

/-- What the holder of the current frame holds. -/
theorem hold_get (P : Ph) (S : ST) : (rows P S (hI S)).xs[oI S]? = some (curV P S) ∧ (rows P S (hI S)).xs[oI S + 1]? = some (curC P S) ∧ (rows P S (hI S)).xs[oI S + 2]? = some (.int .i64 S.cur.loc) := by
  by_cases h0 : S.calls.length = 0
  · simp [hI, oI, curV, curC, h0, rows, cur_0 h0]
  · obtain ⟨g1, g2, g3⟩ := flatF_get P S.calls 0 (S.calls.length - 1) (by omega)
    simp only [Nat.zero_add] at g1 g2
    simp only [hI, oI, curV, curC, h0, if_false, rows, cur_1 (show 0 < S.calls.length by omega)]
    exact ⟨g1, g2, g3⟩
/-- frame.add at the current frame of a store. -/
theorem add_cur {W : World} {n0 : Nat} {P : Ph} {S : ST} (h : SR W n0 P S) (v : VD) (q : Option Addr) (hlim : S.cur.vs.length ≤ 4398046511000) :
    Calls Try.prog 32 #[.pointer (some ⟨(curP P S).block, oI S, none⟩), .agg #[.string v.s, .int .u8 v.k, .int .i64 v.n], .pointer q] W fun e W' => (∃ u, e = .returned u) ∧ ∃ vv vc,
      Stp n0 (rows P S) W (updR (updR (updR (rows P S) (vI S) ⟨vv, 24, 3, S.cur.vs.length + 1, flatV S.cur.vs ++ [.string v.s, .int .u8 v.k, .int .i64 v.n]⟩) (cI S) ⟨vc, 79, 1, S.cur.vs.length + 1, ptrs P.cb S.cur.cs ++ [.pointer q]⟩) (hI S) { rows P S (hI S) with xs := ((rows P S (hI S)).xs.set (oI S) vv).set (oI S + 1) vc }) W' := by
  obtain ⟨n1, n2, n3⟩ := hI_ne S
  obtain ⟨r1, r2⟩ := rows_vI P S
  obtain ⟨g1, g2, _⟩ := hold_get P S
  obtain ⟨_, hb, _⟩ := cur_holder h
  obtain ⟨kd, hw⟩ := h.curWF
  refine add_any h.rws (hI S) (vI S) (cI S) n1 n2 n3 _ _ hb (by rw [g1, r1]) (by rw [g2, r2]) (flatV S.cur.vs) (ptrs P.cb S.cur.cs) S.cur.vs.length (by rw [r1]) (by rw [r2, hw.len]) hlim v q

/-- The frame with one local more. -/
def FR.push (f : FR) (v : VD) (id : Nat) : FR := ⟨f.vs ++ [v], f.cs ++ [id], f.loc + 1⟩
theorem flatV_snoc (vs : List VD) (v : VD) : flatV (vs ++ [v]) = flatV vs ++ [.string v.s, .int .u8 v.k, .int .i64 v.n] := by simp [flatV]
/-- What frame.add and 'locals++' leave. -/
theorem push_fin {W W' : World} {n0 : Nat} {P : Ph} {S : ST} (h : SR W n0 P S) (v : VD) (id : Nat) (vv vc : Value) (hwf : (S.setCur (S.cur.push v id)).WF)
    (hst : Stp n0 (rows P S) W (updR (updR (updR (rows P S) (vI S) ⟨vv, 24, 3, S.cur.vs.length + 1, flatV S.cur.vs ++ [.string v.s, .int .u8 v.k, .int .i64 v.n]⟩) (cI S) ⟨vc, 79, 1, S.cur.vs.length + 1, ptrs P.cb S.cur.cs ++ [.pointer (some ⟨P.cb id, 0, none⟩)]⟩) (hI S) { rows P S (hI S) with xs := ((rows P S (hI S)).xs.set (oI S) vv).set (oI S + 1) vc }) W') :
    SStp n0 P S W (P.setCur S vv vc) (S.setCur (S.cur.push v id)) (W'.setCell ⟨(curP P S).block, oI S + 2, none⟩ (.int .i64 ((S.cur.loc : Int) + 1))) := by
  refine ⟨?_, hwf⟩
  obtain ⟨_, hb, ho⟩ := cur_holder h
  obtain ⟨kd, hw⟩ := h.curWF
  have s3 := Stp.set (i := hI S) hst.rws (g := (curP P S).block) (by rw [updR_same]; exact hb) (o := oI S + 2) (by rw [updR_same]; simp; omega) (.int .i64 ((S.cur.loc : Int) + 1))
  rw [updR_same] at s3
  refine (hst.trans s3).cast ?_
  rw [rows_setCur]
  have e1 : (S.cur.push v id).vs.length = S.cur.vs.length + 1 := by simp [FR.push]
  have e2 : (S.cur.push v id).cs.length = S.cur.vs.length + 1 := by simp [FR.push, hw.len]
  have e3 : flatV (S.cur.push v id).vs = flatV S.cur.vs ++ [.string v.s, .int .u8 v.k, .int .i64 v.n] := flatV_snoc _ _
  have e4 : ptrs P.cb (S.cur.push v id).cs = ptrs P.cb S.cur.cs ++ [.pointer (some ⟨P.cb id, 0, none⟩)] := by simp [FR.push, ptrs]
  have e5 : (((S.cur.push v id).loc : Nat) : Int) = (S.cur.loc : Int) + 1 := by simp [FR.push]
  rw [e1, e2, e3, e4, e5]
  funext r
  by_cases e : r = hI S
  · subst e; simp
  · simp only [updR, e, if_false]

theorem WF_push {f : FR} {kd : Nat → Int × Int} {nc : Nat} (h : f.WF kd nc) (v : VD) (hv : FldV v) (hlim : f.vs.length + 1 ≤ 4398046511000) : (f.push v nc).WF (fun i => if i = nc then (v.k, v.n) else kd i) (nc + 1) := by
  have hl := h.len
  refine ⟨by simp [FR.push, hl], by have := h.loc; simp [FR.push]; omega, by simpa [FR.push] using hlim, fun u hu => ?_, fun c hc => ?_, fun i hi hi' => ?_⟩
  · simp only [FR.push, List.mem_append, List.mem_singleton] at hu
    rcases hu with hu | rfl
    · exact h.fld u hu
    · exact hv
  · simp only [FR.push, List.mem_append, List.mem_singleton] at hc
    rcases hc with hc | rfl
    · have := h.num c hc; omega
    · omega
  · by_cases e : i < f.vs.length
    · have e' : i < f.cs.length := by omega
      have a1 : (f.push v nc).vs[i] = f.vs[i] := List.getElem_append_left e
      have a2 : (f.push v nc).cs[i] = f.cs[i] := List.getElem_append_left e'
      rw [a1]
      generalize (f.push v nc).cs[i] = ci at a2 ⊢
      subst a2
      have := h.num _ (List.getElem_mem e')
      rw [if_neg (by omega)]
      exact h.kind i e e'
    · have hi2 : i = f.vs.length := by simp [FR.push] at hi; omega
      have a1 : (f.push v nc).vs[i] = v := by simp [FR.push, hi2]
      have a2 : (f.push v nc).cs[i] = nc := by simp [FR.push, hi2, ← hl]
      rw [a1]
      generalize (f.push v nc).cs[i] = ci at a2 ⊢
      subst a2
      simp
theorem WF_open {S : ST} (h : S.WF) (v : VD) (hv : FldV v) (l : List Int) (hl : l.length ≤ 1000) (hf : ∀ x ∈ l, I64 x) (hk : (v.k = 1 → l.length = 1) ∧ (v.k = 2 → (l.length : Int) = v.n) ∧ (v.k = 1 ∨ v.k = 2 ∨ v.k = 3)) (hlim : S.cur.vs.length + 1 ≤ 4398046511000) :
    ((S.newCell l).setCur (S.cur.push v S.nc)).WF := by
  obtain ⟨kd, h1, h2, h3⟩ := h.ex
  have hn := WF_newCell h l (v.k, v.n) hl hf hk
  have hkd : ∀ i, i < S.nc + 1 → (((fun i => if i = S.nc then (v.k, v.n) else kd i) i).1 = 1 → ((S.newCell l).cell i).length = 1) ∧ (((fun i => if i = S.nc then (v.k, v.n) else kd i) i).1 = 2 → (((S.newCell l).cell i).length : Int) = ((fun i => if i = S.nc then (v.k, v.n) else kd i) i).2) ∧ (((fun i => if i = S.nc then (v.k, v.n) else kd i) i).1 = 1 ∨ ((fun i => if i = S.nc then (v.k, v.n) else kd i) i).1 = 2 ∨ ((fun i => if i = S.nc then (v.k, v.n) else kd i) i).1 = 3) := fun i hi => by
    simp only [ST.newCell]
    by_cases e : i = S.nc
    · subst e; simpa using hk
    · simp only [e, if_false]; exact h3 i (by omega)
  by_cases h0 : S.calls.length = 0
  · have hc : S.calls = [] := List.length_eq_zero_iff.1 h0
    have h0' : (S.newCell l).calls.length = 0 := h0
    rw [cur_0 h0] at hlim ⊢
    simp only [ST.setCur, h0', if_true]
    refine ⟨⟨_, WF_push h1 v hv hlim, fun g hg => ?_, hkd⟩, hn.ncalls, hn.cells, hn.tin, hn.tout⟩
    have : g ∈ S.calls := hg
    rw [hc] at this
    cases this
  · have h0' : ¬ (S.newCell l).calls.length = 0 := h0
    have hcu : S.cur.WF kd S.nc := by rw [cur_1 (by omega)]; exact h2 _ (List.getElem_mem _)
    simp only [ST.setCur, h0', if_false]
    refine ⟨⟨_, h1.new (v.k, v.n), fun g hg => ?_, hkd⟩, by simpa using hn.ncalls, hn.cells, hn.tin, hn.tout⟩
    rcases List.mem_or_eq_of_mem_set hg with hg | rfl
    · exact (h2 g hg).new _
    · exact WF_push hcu v hv hlim

end Go.Proofs.Ytekjfbnggfbfhaa
