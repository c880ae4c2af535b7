/-
  What a call holds in memory that builds one node: its box (the third that the call lays) and the row of its children. No program stands here.
-/
import Derived.Test.YtekjfbnggfbfhaaInvW
namespace Go.Proofs.Ytekjfbnggfbfhaa
open Go.RowKit

/-- Blocks: the argument's box, the result's box, the box of the node that is built (its children's slice: v, the nodes L). -/
structure Bld (w wx : World) (E : TypeId) (k n : Int) (s : ByteArray) (A : Option Addr) (l c : Nat) (k' n' : Int) (s' : ByteArray) (S : Nat → Prop) (v : Value) (L : List T) : Prop where
  box : wx.heap[w.heap.size + 2]? = some (.cells #[.int .u8 k', .int .i64 n', .string s', v] E (0, 0))
  own : OwnN wx (w.heap.size + 3) E S v L
  far : ∀ b, S b → b < w.heap.size ∨ w.heap.size + 3 ≤ b
  low : Below (w.heap.size + 2) ((w.alloc (.cells #[.int .u8 k, .int .i64 n, .string s, .slice A l c] E)).alloc (.cells ZC E)) wx

/-- A slice value. -/
def IsSl (v : Value) (l : Nat) : Prop := ∃ A c, v = .slice A l c

section
variable {w wx w' : World} {E : TypeId} {k n : Int} {s : ByteArray} {A : Option Addr} {l c : Nat} {k' n' : Int} {s' : ByteArray} {S : Nat → Prop} {v v' : Value} {L L' : List T}

theorem Bld.size (h : Bld w wx E k n s A l c k' n' s' S v L) : w.heap.size + 3 ≤ wx.heap.size := blk_lt h.box
theorem Bld.later (h : Bld w wx E k n s A l c k' n' s' S v L) (hb : Below wx.heap.size wx w') : Bld w w' E k n s A l c k' n' s' S v L :=
  ⟨(hb.block _ (blk_lt h.box)).trans h.box, h.own.later hb, h.far, h.low.trans (hb.mono (by have := h.low.size; simpa using this))⟩
theorem Bld.arg (h : Bld w wx E k n s A l c k' n' s' S v L) : wx.heap[w.heap.size]? = some (.cells #[.int .u8 k, .int .i64 n, .string s, .slice A l c] E (0, 0)) := by
  rw [h.low.block _ (by omega), Below.heap_alloc _ _ _ (by simp)]; exact heap_alloc_new w _
theorem Bld.res (h : Bld w wx E k n s A l c k' n' s' S v L) : wx.heap[w.heap.size + 1]? = some (.cells ZC E (0, 0)) := by
  rw [h.low.block _ (by omega)]
  have := heap_alloc_new (w.alloc (.cells #[.int .u8 k, .int .i64 n, .string s, .slice A l c] E)) (.cells ZC E)
  simpa using this
theorem Bld.below (h : Bld w wx E k n s A l c k' n' s' S v L) : Below w.heap.size w wx := (((Below.refl _ _).alloc (Nat.le_refl _) _).alloc (by simp) _).trans (h.low.mono (by omega))
theorem Bld.sl (h : Bld w wx E k n s A l c k' n' s' S v L) : ∃ A' c', v = .slice A' L.length c' ∧ L.length ≤ c' := let ⟨A', c', e, hc, _⟩ := h.own.row; ⟨A', c', e, hc⟩

theorem Bld.start (w : World) (E : TypeId) (k n : Int) (s : ByteArray) (A : Option Addr) (l c : Nat) (k' n' : Int) (s' : ByteArray) (S : Nat → Prop) (hS : ∀ b, S b → b < w.heap.size ∨ w.heap.size + 3 ≤ b) :
    Bld w (((w.alloc (.cells #[.int .u8 k, .int .i64 n, .string s, .slice A l c] E)).alloc (.cells ZC E)).alloc (.cells #[.int .u8 k', .int .i64 n', .string s', .slice none 0 0] E)) E k n s A l c k' n' s' S (.slice none 0 0) [] := by
  refine ⟨?_, OwnN.nil _ _ _ _, hS, (Below.refl _ _).alloc (by simp) _⟩
  have := heap_alloc_new ((w.alloc (.cells #[.int .u8 k, .int .i64 n, .string s, .slice A l c] E)).alloc (.cells ZC E)) (.cells #[.int .u8 k', .int .i64 n', .string s', .slice none 0 0] E)
  simp only [World.size_alloc] at this
  exact this

/-- The row has turned, and its new slice is stored in the box. -/
theorem Bld.put (h : Bld w wx E k n s A l c k' n' s' S v L) (ho : OwnN w' (w.heap.size + 3) E S v' L') (hg : wx.grownBy w' v.ownBlock) : Bld w (w'.setCell ⟨w.heap.size + 2, 3, none⟩ v') E k n s A l c k' n' s' S v' L' := by
  have hrow : ∀ g, v.ownBlock = some g → w.heap.size + 3 ≤ g := fun g e => (h.own.block g e).1
  have hbx : w'.heap[w.heap.size + 2]? = some (.cells #[.int .u8 k', .int .i64 n', .string s', v] E (0, 0)) :=
    (hg.block _ (blk_lt h.box) (fun e => by have := hrow _ e.symm; omega)).trans h.box
  refine ⟨?_, ho.grown (row := some (w.heap.size + 2)) (only_set (only_refl _ _) rfl _) (fun g e => ?_), h.far, (h.low.grown hg (by have := h.size; omega) (fun g e => by have := hrow g e; omega)).setCell (by simp) _⟩
  · have := heap_setCell_same w' (w.heap.size + 2) 3 _ E v' hbx
    simpa using this
  · injection e with e
    subst e
    refine ⟨fun hh => ?_, fun e => ?_⟩
    · have := h.far _ hh; omega
    · have := (ho.block _ e).1; omega
/-- What is handed back. -/
theorem Bld.result (h : Bld w wx E k n s A l c k' n' s' S v L) (hf : Fld k' n' s') {A' : Option Addr} {l' c' : Nat} (hv : v = .slice A' l' c') :
    NV ((((wx.setCell ⟨w.heap.size + 1, 0, none⟩ (.int .u8 k')).setCell ⟨w.heap.size + 1, 1, none⟩ (.int .i64 n')).setCell ⟨w.heap.size + 1, 2, none⟩ (.string s')).setCell ⟨w.heap.size + 1, 3, none⟩ (.slice A' l' c')) (fun b => S b ∨ w.heap.size + 3 ≤ b) (.nd k' n' s' L) (nv k' n' s' A' l' c') ∧
    Below w.heap.size w ((((wx.setCell ⟨w.heap.size + 1, 0, none⟩ (.int .u8 k')).setCell ⟨w.heap.size + 1, 1, none⟩ (.int .i64 n')).setCell ⟨w.heap.size + 1, 2, none⟩ (.string s')).setCell ⟨w.heap.size + 1, 3, none⟩ (.slice A' l' c')) := by
  obtain ⟨A2, c2, e, hc, hr, _⟩ := h.own.row
  rw [hv] at e
  injection e with e1 e2 e3
  subst e1 e3
  refine ⟨?_, (((h.below.setCell (by simp) _).setCell (by simp) _).setCell (by simp) _).setCell (by simp) _⟩
  rw [e2]
  refine NV.shut hf h.own.lk (by omega) (hr.keep (fun b hb _ => ?_) fun b hb _ => ?_)
  · rcases hb with hb | hb
    · exact .inl hb
    · exact .inr (h.own.block b hb).1
  · have hb' : b < w.heap.size ∨ w.heap.size + 3 ≤ b := by
      rcases hb with hb | hb
      · exact h.far b hb
      · exact .inr (h.own.block b hb).1
    rw [Below.heap_setCell _ _ _ _ (by simp; omega), Below.heap_setCell _ _ _ _ (by simp; omega), Below.heap_setCell _ _ _ _ (by simp; omega), Below.heap_setCell _ _ _ _ (by simp; omega)]
end

/-- 'row = append(row, node)', as one step of a region that draws its order. -/
theorem step_append_node {P : Program} {W : World} {ops : Array Oper} {o : Oper} {a : Act} {K : Act → World → Prop} {Q : Exit → Act → World → Prop} {F : Prop} (hgd : o.guard = none) (s x : Operand) (ty : TypeId)
    (ho : o.op = .call { callee := .builtin .append, args := #[s, x], argTypes := #[ty, ty] }) (E : TypeId) (i : TypeInfo) (z : Value) (ht : P.underlying ty = some (.slice E)) (hi : P.info? E = some i) (hz : i.zero = some z)
    (hsize : i.size = 4) (hby : i.bytes = 56) (hzs : z.cells.size = 4) (base : Nat) (S : Nat → Prop) (v : Value) (ts : List T) (hs : a.eval s = v) (hown : OwnN W base E S v ts)
    (t : T) (k n : Int) (nm : ByteArray) (A : Option Addr) (l c : Nat) (hx : a.eval x = .slice (some ⟨W.heap.size, 0, none⟩) 1 1) (hn : NV W (fun b => S b ∧ some b ≠ v.ownBlock) t (nv k n nm A l c)) (hlen : ts.length + 1 ≤ LK) (hbase : base ≤ W.heap.size)
    (h : ∀ v' w', OwnN w' base E S v' (ts ++ [t]) → W.grownBy w' v.ownBlock → (v'.ownBlock = v.ownBlock ∨ ∃ g, v'.ownBlock = some g ∧ W.heap.size ≤ g) → K (a.put o.dst v') w') :
    if Region.wanted o (yielded ops a.tmps) = true then Oper.wp P o a (W.alloc (.cells #[.int .u8 k, .int .i64 n, .string nm, .slice A l c] E)) K Q else F := by
  have hw : Region.wanted o (yielded ops a.tmps) = true := by simp [Region.wanted, hgd]
  rw [if_pos hw]
  obtain ⟨xs, hrow, _, hns⟩ := hown
  obtain ⟨v', w', hr, h2, h3, _, h5⟩ := run_append_own_at (P := P) (W.alloc (.cells #[.int .u8 k, .int .i64 n, .string nm, .slice A l c] E)) base ty o.type E i z 4 56 ht hi hz hsize hby hzs (by decide) v ts.length xs (hrow.alloc _) ⟨W.heap.size, 0, none⟩ 1 1 [.int .u8 k, .int .i64 n, .string nm, .slice A l c] (by simp)
    (news_new W E _ _ _ _) (oneCell_fields k n nm A l c) (LK_len hlen) (LK_bytes hlen) (by simp; omega)
  unfold Oper.wp execOp
  simp only [ho, resolve, invoke, builtin, Sem.run_bind, Sem.run_pure, Result.andThen_ok, List.map_toArray, List.map_cons, List.map_nil, hs, hx, hr]
  refine h v' w' (own_push hrow hns hn hlen h2 h3 h5) ⟨h3.os, h3.tape, h3.output, Nat.le_trans (by simp) h3.size, fun b hb hne => ?_⟩ ?_
  · rw [h3.block b (by simp; omega) hne]; exact Below.heap_alloc W _ b hb
  · rcases h5 with h5 | h5
    · exact .inl h5
    · exact .inr ⟨_, h5, by simp⟩

/-- A call of a Go function with one argument, as one step of a region that draws its order. -/
theorem step_call1 {P : Program} {ops : Array Oper} {o : Oper} {a : Act} {w : World} {K : Act → World → Prop} {Q : Exit → Act → World → Prop} {F : Prop} (hgd : o.guard = none) (x x1 : Operand) (ats : Array TypeId)
    (ho : o.op = .call { callee := .value x, args := #[x1], argTypes := ats }) (f : FuncId) (fn : Func) (hf : IsFn P f fn) (hv : a.eval x = .func (.func f) #[] #[]) (v1 : Value) (h1 : a.eval x1 = v1) (R : Value → World → Prop)
    (hc : Calls P f #[v1] w fun e w' => ∃ v, e = .returned v ∧ R v w') (h : ∀ v w', R v w' → K (a.put o.dst v) w') :
    if Region.wanted o (yielded ops a.tmps) = true then Oper.wp P o a w K Q else F := by
  have hw : Region.wanted o (yielded ops a.tmps) = true := by simp [Region.wanted, hgd]
  rw [if_pos hw]
  subst h1
  have e : (execOp a.eval o).run P w = .ok (.enter f #[a.eval x1]) w := by
    unfold execOp
    simp only [ho, resolve, hv, Deferred.ofValue, Sem.run_bind, Sem.run_pure, Result.andThen_ok, invoke, run_callFunc hf, Array.empty_append, Array.append_empty, List.map_toArray, List.map_cons, List.map_nil]
  unfold Oper.wp
  rw [e, Oper.upon_enter]
  refine hc.mono ?_
  rintro e w' ⟨v, rfl, hR⟩
  exact h v w' hR

/-- A new node as a value. -/
def NewV (w : World) (t : T) (v : Value) (w' : World) : Prop := ∃ k n s A l c, v = nv k n s A l c ∧ NV w' (From w.heap.size) t (nv k n s A l c) ∧ Below w.heap.size w w'
theorem newV_of {P : Program} {f : FuncId} {args : Array Value} {w : World} {t : T} (h : Calls P f args w (NewNode w t)) : Calls P f args w fun e w' => ∃ v, e = .returned v ∧ NewV w t v w' :=
  h.mono fun _ _ ⟨k, n, s, A, l, c, he, hn, hb⟩ => ⟨_, he, k, n, s, A, l, c, rfl, hn, hb⟩

theorem fresh_far {wr : World} {o : Obj} {B : Nat} {E : TypeId} {v : Value} {L : List T} (ho : OwnN wr B E (From B) v L) (hB : B ≤ wr.heap.size) : ∀ b, From ((wr.alloc o).drew).heap.size b → From B b ∧ some b ≠ v.ownBlock := by
  intro b hb
  have hb' : wr.heap.size + 1 ≤ b := by simpa using hb
  refine ⟨by show B ≤ b; omega, fun e => ?_⟩
  have := (ho.block b e.symm).2
  omega
theorem own_ne {w wx : World} {E : TypeId} {S : Nat → Prop} {v : Value} {L : List T} (ho : OwnN wx (w.heap.size + 3) E S v L) : some (w.heap.size + 2) ≠ v.ownBlock := fun e => by
  have := (ho.block _ e.symm).1; omega

/-- 'row = append(row, node)', the new block's number spelt otherwise. -/
theorem wpList_append_nodeH {P : Program} {W : World} {ops : Array Oper} {rest : List Oper} {o : Oper} {a : Act} {Q : Exit → Act → World → Prop} (hgd : o.guard = none) (s x : Operand) (ty : TypeId)
    (ho : o.op = .call { callee := .builtin .append, args := #[s, x], argTypes := #[ty, ty] }) (E : TypeId) (i : TypeInfo) (z : Value) (ht : P.underlying ty = some (.slice E)) (hi : P.info? E = some i) (hz : i.zero = some z)
    (hsize : i.size = 4) (hby : i.bytes = 56) (hzs : z.cells.size = 4) (base : Nat) (S : Nat → Prop) (v : Value) (ts : List T) (hs : a.eval s = v) (hown : OwnN W base E S v ts)
    (t : T) (k n : Int) (nm : ByteArray) (A : Option Addr) (l c : Nat) (H : Nat) (hH : W.heap.size = H) (hx : a.eval x = .slice (some ⟨H, 0, none⟩) 1 1) (hn : NV W (fun b => S b ∧ some b ≠ v.ownBlock) t (nv k n nm A l c)) (hlen : ts.length + 1 ≤ LK) (hbase : base ≤ W.heap.size)
    (h : ∀ v' w', OwnN w' base E S v' (ts ++ [t]) → W.grownBy w' v.ownBlock → (v'.ownBlock = v.ownBlock ∨ ∃ g, v'.ownBlock = some g ∧ W.heap.size ≤ g) → wpList P ops Q rest (a.put o.dst v') w') :
    wpList P ops Q (o :: rest) a (W.alloc (.cells #[.int .u8 k, .int .i64 n, .string nm, .slice A l c] E)) := by
  subst hH
  exact wpList_append_node hgd s x ty ho E i z ht hi hz hsize hby hzs base S v ts hs hown t k n nm A l c hx hn hlen hbase h

theorem buildS2 (a0 a1 a2 a3 b0 b1 b2 b3 : Value) (w : World) : (Instr.buildSlice 34 2 #[(0, .agg #[a0, a1, a2, a3]), (1, .agg #[b0, b1, b2, b3])]).run Try.prog w = .ok (.slice (some ⟨w.heap.size, 0, none⟩) 2 2) (w.alloc (.cells #[a0, a1, a2, a3, b0, b1, b2, b3] 36)) := by kernel_rfl
theorem buildOp (k : Int) (A : Option Addr) (l c : Nat) (w : World) : (Instr.build 36 #[(0, .int .u8 k), (3, .slice A l c)]).run Try.prog w = .ok (nv k 0 ⟨#[]⟩ A l c) w := by kernel_rfl

/-- 'row = append(row, ..)' on a row of one's own, as one step of a region that draws its order. -/
theorem step_append_own {P : Program} {W : World} {ops : Array Oper} {o : Oper} {a : Act} {K : Act → World → Prop} {Q : Exit → Act → World → Prop} {F : Prop} (hgd : o.guard = none) (s x : Operand) (ty : TypeId)
    (ho : o.op = .call { callee := .builtin .append, args := #[s, x], argTypes := #[ty, ty] }) (base : Nat) (E : TypeId) (i : TypeInfo) (z : Value) (size bytes : Nat) (ht : P.underlying ty = some (.slice E)) (hi : P.info? E = some i) (hz : i.zero = some z)
    (hsize : i.size = size) (hby : i.bytes = bytes) (hzs : z.cells.size = size) (hsz : 0 < size) (v : Value) (n : Nat) (xs : List Value) (hs : a.eval s = v) (hrow : W.ownsRow base E size v n xs)
    (ad : Addr) (m c : Nat) (news : List Value) (hx : a.eval x = .slice (some ad) m c) (hl : news.length = m * size) (hc : ∀ j u, news[j]? = some u → W.cell? (ad.add j) = some u) (h1c : ∀ u ∈ news, u.oneCell' = true)
    (b1 : n + m ≤ maxLen) (b2 : (n + m) * bytes ≤ 140737488355328) (hb : base ≤ W.heap.size)
    (h : ∀ v' w', w'.ownsRow base E size v' (n + m) (xs ++ news) → W.grownBy w' v.ownBlock → (v'.ownBlock = v.ownBlock ∨ v'.ownBlock = some W.heap.size) → K (a.put o.dst v') w') :
    if Region.wanted o (yielded ops a.tmps) = true then Oper.wp P o a W K Q else F := by
  have hw : Region.wanted o (yielded ops a.tmps) = true := by simp [Region.wanted, hgd]
  rw [if_pos hw]
  obtain ⟨v', w', hr, h2, h3, _, h5⟩ := run_append_own_at (P := P) W base ty o.type E i z size bytes ht hi hz hsize hby hzs hsz v n xs hrow ad m c news hl hc h1c b1 b2 hb
  unfold Oper.wp execOp
  simp only [ho, resolve, invoke, builtin, Sem.run_bind, Sem.run_pure, Result.andThen_ok, List.map_toArray, List.map_cons, List.map_nil, hs, hx, hr]
  exact h v' w' h2 h3 h5
theorem own_later {w w' : World} {base : Nat} {E : TypeId} {size : Nat} {v : Value} {n : Nat} {xs : List Value} (h : w.ownsRow base E size v n xs) (hb : Below w.heap.size w w') : w'.ownsRow base E size v n xs := by
  obtain ⟨e1, h2⟩ := h
  refine ⟨e1, ?_⟩
  rcases h2 with h2 | ⟨g, cap, cur, rfl, h3, hg, h4⟩
  · exact .inl h2
  · exact .inr ⟨g, cap, cur, rfl, h3, (hb.block _ (blk_lt hg)).trans hg, h4⟩
/-- 'row = append(row, other...)': both rows are one's own. -/
theorem run_append_rows {P : Program} (W : World) (base base' : Nat) (ty rty : TypeId) (E : TypeId) (i : TypeInfo) (z : Value) (size bytes : Nat) (ht : P.underlying ty = some (.slice E)) (hi : P.info? E = some i) (hz : i.zero = some z)
    (hsize : i.size = size) (hby : i.bytes = bytes) (hzs : z.cells.size = size) (hsz : 0 < size) (v : Value) (n : Nat) (xs : List Value) (hown : W.ownsRow base E size v n xs)
    (u : Value) (m : Nat) (ys : List Value) (hother : W.ownsRow base' E size u m ys) (h1 : ∀ y ∈ ys, y.oneCell' = true) (h63 : n + m ≤ maxLen) (hbytes : (n + m) * bytes ≤ 140737488355328) (hbase : base ≤ W.heap.size) :
    ∃ v' w', (Builtin.append_ #[ty, ty] rty #[v, u]).run P W = .ok v' w' ∧ w'.ownsRow base E size v' (n + m) (xs ++ ys) ∧ W.grownBy w' v.ownBlock ∧ (v'.ownBlock = v.ownBlock ∨ v'.ownBlock = some W.heap.size) := by
  rcases hother.2 with ⟨rfl, rfl⟩ | ⟨g, cap, cur, rfl, _⟩
  · have hy : ys = [] := by have := hother.1; simp at this; exact this
    subst hy
    refine ⟨v, W, ?_, by simpa using hown, only_refl _ _, .inl rfl⟩
    rcases hown.2 with ⟨rfl, h0⟩ | ⟨g, cap, cur, rfl, _, _, hnc, _⟩
    · simp [Builtin.append_, run_underlying ht, sizeOf, typeInfo, hi, Builtin.lenOf, Builtin.firstCells]
    · simp [Builtin.append_, run_underlying ht, sizeOf, typeInfo, hi, Builtin.lenOf, Builtin.firstCells, hnc, storeCells]
  · obtain ⟨v', w', hrun, h2, h3, _, h5⟩ := run_append_own_at (P := P) W base ty rty E i z size bytes ht hi hz hsize hby hzs hsz v n xs hown ⟨g, 0, none⟩ m cap ys hother.1 (hother.cells rfl) h1 h63 hbytes hbase
    exact ⟨v', w', hrun, h2, h3, h5⟩
theorem wpList_append_rows {P : Program} {w : World} {ops : Array Oper} {rest : List Oper} {o : Oper} {a : Act} {Q : Exit → Act → World → Prop} (hgd : o.guard = none) (s x : Operand) (t : TypeId)
    (ho : o.op = .call { callee := .builtin .append, args := #[s, x], argTypes := #[t, t] }) (base base' : Nat) (E : TypeId) (i : TypeInfo) (z : Value) (size bytes : Nat) (ht : P.underlying t = some (.slice E)) (hi : P.info? E = some i) (hz : i.zero = some z)
    (hsize : i.size = size) (hby : i.bytes = bytes) (hzs : z.cells.size = size) (hsz : 0 < size) (v : Value) (n : Nat) (xs : List Value) (hs : a.eval s = v) (hown : w.ownsRow base E size v n xs)
    (u : Value) (m : Nat) (ys : List Value) (hx : a.eval x = u) (hother : w.ownsRow base' E size u m ys) (h1 : ∀ y ∈ ys, y.oneCell' = true) (h63 : n + m ≤ maxLen) (hbytes : (n + m) * bytes ≤ 140737488355328) (hbase : base ≤ w.heap.size)
    (h : ∀ v' w', w'.ownsRow base E size v' (n + m) (xs ++ ys) → w.grownBy w' v.ownBlock → (v'.ownBlock = v.ownBlock ∨ v'.ownBlock = some w.heap.size) → wpList P ops Q rest (a.put o.dst v') w') :
    wpList P ops Q (o :: rest) a w := by
  refine wpList_plain hgd fun K hK => ?_
  obtain ⟨v', w', hr, h2, h3, h5⟩ := run_append_rows (P := P) w base base' t o.type E i z size bytes ht hi hz hsize hby hzs hsz v n xs hown u m ys hother h1 h63 hbytes hbase
  unfold Oper.wp execOp
  simp only [ho, resolve, invoke, builtin, Sem.run_bind, Sem.run_pure, Result.andThen_ok, List.map_toArray, List.map_cons, List.map_nil, hs, hx, hr]
  exact hK _ _ (h v' w' h2 h3 h5)

end Go.Proofs.Ytekjfbnggfbfhaa
