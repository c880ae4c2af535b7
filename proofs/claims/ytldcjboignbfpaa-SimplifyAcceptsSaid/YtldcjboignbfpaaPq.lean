/-
  Closed facts of the given program: how a program and a procedure are built.
-/
import Derived.Test.YtldcjboignbfpaaSpec
import Derived.Test.YtldcjboignbfpaaPi
import Derived.Test.YtldcjboignbfpaaBld
namespace Go.Proofs.Ytldcjboignbfpaa
open Go.RowKit

theorem build38 (A : Option Addr) (l c : Nat) (k n : Int) (s : ByteArray) (A' : Option Addr) (l' c' : Nat) (w : World) : (Instr.build 38 #[(0, .slice A l c), (2, nv k n s A' l' c')]).run Try.prog w = .ok (pv A l c none 0 0 k n s A' l' c') w := by kernel_rfl
theorem prInfo : (Try.prog.info? 58).map (fun i => (i.zero, i.size, i.bytes)) = some (some (.agg #[.string ⟨#[]⟩, .slice none 0 0, .int .u8 0, .int .i64 0, .string ⟨#[]⟩, .slice none 0 0]), 6, 96) := by kernel_rfl
theorem buildP1 (a0 a1 a2 a3 a4 a5 : Value) (w : World) : (Instr.buildSlice 36 1 #[(0, .agg #[a0, a1, a2, a3, a4, a5])]).run Try.prog w = .ok (.slice (some ⟨w.heap.size, 0, none⟩) 1 1) (w.alloc (.cells #[a0, a1, a2, a3, a4, a5] 58)) := by kernel_rfl

theorem build58 (s0 : ByteArray) (A : Option Addr) (l c : Nat) (k n : Int) (s : ByteArray) (A' : Option Addr) (l' c' : Nat) (w : World) : (Instr.build 58 #[(0, .string s0), (1, .slice A l c), (2, nv k n s A' l' c')]).run Try.prog w = .ok (.agg #[.string s0, .slice A l c, .int .u8 k, .int .i64 n, .string s, .slice A' l' c']) w := by kernel_rfl

end Go.Proofs.Ytldcjboignbfpaa

/-
  What a statement holds that builds a program, or a procedure, out of a new row of declarations and a new node, in whatever order its parts come up. No program stands here.
-/
namespace Go.Proofs.Ytldcjboignbfpaa
open Go.RowKit

/-- From w to wx: vo: a new row of declarations; mo: a new node; b: a box that holds the zero program. -/
structure Pq (w wx : World) (E : TypeId) (vo : Option (Option Addr × List VD)) (mo : Option (Value × T)) (b : Option Nat) : Prop where
  low : Below w.heap.size w wx
  vars : ∀ A vs, vo = some (A, vs) → RowV wx (fun b' => w.heap.size ≤ b' ∧ b ≠ some b') A vs
  main : ∀ v t, mo = some (v, t) → NV wx (fun b' => w.heap.size ≤ b' ∧ b ≠ some b') t v
  box : ∀ g, b = some g → w.heap.size ≤ g ∧ wx.heap[g]? = some (.cells ZP E (0, 0))

section
variable {w wx w' : World} {E : TypeId} {vo : Option (Option Addr × List VD)} {mo : Option (Value × T)} {b : Option Nat}

theorem Pq.start (w : World) (E : TypeId) : Pq w w E none none none :=
  ⟨Below.refl _ _, (by intro _ _ h; cases h), (by intro _ _ h; cases h), (by intro _ h; cases h)⟩
theorem Pq.later (h : Pq w wx E vo mo b) (hb : Below wx.heap.size wx w') : Pq w w' E vo mo b where
  low := h.low.trans (hb.mono h.low.size)
  vars A vs e := (h.vars A vs e).later hb
  main v t e := (h.main v t e).later hb
  box g e := let ⟨h1, h2⟩ := h.box g e; ⟨h1, (hb.block _ (blk_lt h2)).trans h2⟩
theorem Pq.drew (h : Pq w wx E vo mo b) : Pq w wx.drew E vo mo b := h.later (Below.refl _ _).drew
theorem Pq.alloc (h : Pq w wx E vo mo b) (ob : Obj) : Pq w (wx.alloc ob) E vo mo b := h.later ((Below.refl _ _).alloc (Nat.le_refl _) _)
/-- The box is laid. -/
theorem Pq.lay (h : Pq w wx E vo mo none) : Pq w (wx.alloc (.cells ZP E)) E vo mo (some wx.heap.size) :=
  { h.alloc (.cells ZP E) with
    vars := fun A vs e => (h.vars A vs e).keep (fun b hb hlt => ⟨hb.1, by simp; omega⟩) fun b _ hlt => Below.heap_alloc wx _ b hlt
    main := fun v t e => (h.main v t e).keep (fun b hb hlt => ⟨hb.1, by simp; omega⟩) fun b _ hlt => Below.heap_alloc wx _ b hlt
    box := fun g e => by injection e with e; subst e; exact ⟨h.low.size, heap_alloc_new wx _⟩ }
/-- The row is made. -/
theorem Pq.putV {A : Option Addr} {vs : List VD} (h : Pq w wx E none mo b) (hr : RowV w' (From wx.heap.size) A vs) (hb : Below wx.heap.size wx w') : Pq w w' E (some (A, vs)) mo b :=
  { h.later hb with
    vars := fun A' vs' e => by
      injection e with e
      injection e with e1 e2
      subst e1 e2
      refine hr.mono fun b' hb' => ⟨Nat.le_trans h.low.size hb', fun e => ?_⟩
      have := blk_lt (h.box b' e).2
      have : wx.heap.size ≤ b' := hb'
      omega }
/-- The node is made. -/
theorem Pq.putM {v : Value} {t : T} (h : Pq w wx E vo none b) (hr : NV w' (From wx.heap.size) t v) (hb : Below wx.heap.size wx w') : Pq w w' E vo (some (v, t)) b :=
  { h.later hb with
    main := fun v' t' e => by
      injection e with e
      injection e with e1 e2
      subst e1 e2
      refine hr.mono fun b' hb' => ⟨Nat.le_trans h.low.size hb', fun e => ?_⟩
      have := blk_lt (h.box b' e).2
      have : wx.heap.size ≤ b' := hb'
      omega }
theorem Pq.set6 {g : Nat} (h : Pq w wx E vo mo (some g)) (u0 u1 u2 u3 u4 u5 : Value) : Below w.heap.size w ((((((wx.setCell ⟨g, 0, none⟩ u0).setCell ⟨g, 1, none⟩ u1).setCell ⟨g, 2, none⟩ u2).setCell ⟨g, 3, none⟩ u3).setCell ⟨g, 4, none⟩ u4).setCell ⟨g, 5, none⟩ u5) :=
  below_set6 h.low (h.box g rfl).1 _ _ _ _ _ _

/-- The program is stored in its box. -/
theorem Pq.done {w0 : World} {ob : Obj} {ER : TypeId} {g : Nat} {A1 : Option Addr} {l1 c1 : Nat} {k n : Int} {s : ByteArray} {A3 : Option Addr} {l3 c3 : Nat} {vs : List VD} {m : T}
    (h : Pq w wx E (some (A1, vs)) (some (nv k n s A3 l3 c3, m)) (some g)) (h0 : Below (w0.heap.size + 2) ((w0.alloc ob).alloc (.cells ZP E)) w) :
    PI w0 ((((((wx.setCell ⟨g, 0, none⟩ (.slice A1 l1 c1)).setCell ⟨g, 1, none⟩ (.slice none 0 0)).setCell ⟨g, 2, none⟩ (.int .u8 k)).setCell ⟨g, 3, none⟩ (.int .i64 n)).setCell ⟨g, 4, none⟩ (.string s)).setCell ⟨g, 5, none⟩ (.slice A3 l3 c3)) E ER ob (fun b => w0.heap.size + 2 ≤ b ∧ b ≠ g) g A1 l1 c1 k n s A3 l3 c3 (.slice none 0 0) vs m [] := by
  obtain ⟨hg, hbx⟩ := h.box g rfl
  have hz : w0.heap.size + 2 ≤ w.heap.size := by have := h0.size; simpa using this
  have hge : w0.heap.size + 2 ≤ g := by omega
  have hkb : ∀ b, b ≠ g → ((((((wx.setCell ⟨g, 0, none⟩ (.slice A1 l1 c1)).setCell ⟨g, 1, none⟩ (.slice none 0 0)).setCell ⟨g, 2, none⟩ (.int .u8 k)).setCell ⟨g, 3, none⟩ (.int .i64 n)).setCell ⟨g, 4, none⟩ (.string s)).setCell ⟨g, 5, none⟩ (.slice A3 l3 c3)).heap[b]? = wx.heap[b]? := fun b hb => by
    rw [Below.heap_setCell _ _ _ _ (by simpa using hb), Below.heap_setCell _ _ _ _ (by simpa using hb), Below.heap_setCell _ _ _ _ (by simpa using hb), Below.heap_setCell _ _ _ _ (by simpa using hb), Below.heap_setCell _ _ _ _ (by simpa using hb), Below.heap_setCell _ _ _ _ (by simpa using hb)]
  refine ⟨below_set6 (h0.trans (h.low.mono hz)) hge _ _ _ _ _ _, hge, ?_, OwnP.nil _ _ _ _, by simp [Value.ownBlock],
    (h.vars _ _ rfl).keep (fun b hb _ => ⟨⟨by omega, fun e => hb.2 (by rw [e])⟩, by simp [Value.ownBlock]⟩) (fun b hb _ => hkb b fun e => hb.2 (by rw [e])),
    (h.main _ _ rfl).keep (fun b hb _ => ⟨⟨by omega, fun e => hb.2 (by rw [e])⟩, by simp [Value.ownBlock]⟩) (fun b hb _ => hkb b fun e => hb.2 (by rw [e])), fun b hb => .inr hb⟩
  have h0 := heap_setCell_same wx g 0 _ E (.slice A1 l1 c1) hbx
  have h1 := heap_setCell_same _ g 1 _ E (.slice none 0 0) h0
  have h2 := heap_setCell_same _ g 2 _ E (.int .u8 k) h1
  have h3 := heap_setCell_same _ g 3 _ E (.int .i64 n) h2
  have h4 := heap_setCell_same _ g 4 _ E (.string s) h3
  have h5 := heap_setCell_same _ g 5 _ E (.slice A3 l3 c3) h4
  simpa using h5
/-- The same, the box being laid last. -/
theorem Pq.done2 {w0 : World} {ob : Obj} {ER : TypeId} {A1 : Option Addr} {l1 c1 : Nat} {k n : Int} {s : ByteArray} {A3 : Option Addr} {l3 c3 : Nat} {vs : List VD} {m : T}
    (h : Pq w wx E (some (A1, vs)) (some (nv k n s A3 l3 c3, m)) none) (h0 : Below (w0.heap.size + 2) ((w0.alloc ob).alloc (.cells ZP E)) w) :
    PI w0 (wx.alloc (.cells #[.slice A1 l1 c1, .slice none 0 0, .int .u8 k, .int .i64 n, .string s, .slice A3 l3 c3] E)) E ER ob (fun b => w0.heap.size + 2 ≤ b ∧ b ≠ wx.heap.size) wx.heap.size A1 l1 c1 k n s A3 l3 c3 (.slice none 0 0) vs m [] := by
  have hz : w0.heap.size + 2 ≤ w.heap.size := by have := h0.size; simpa using this
  have hz2 := h.low.size
  have ha := (Below.refl wx.heap.size wx).alloc (Nat.le_refl _) (.cells #[.slice A1 l1 c1, .slice none 0 0, .int .u8 k, .int .i64 n, .string s, .slice A3 l3 c3] E)
  exact ⟨h0.trans ((h.low.mono hz).trans (ha.mono (by omega))), by omega, heap_alloc_new wx _, OwnP.nil _ _ _ _, by simp [Value.ownBlock],
    (h.vars _ _ rfl).keep (fun b hb hlt => ⟨⟨by omega, by omega⟩, by simp [Value.ownBlock]⟩) (fun b _ hlt => ha.block b hlt),
    (h.main _ _ rfl).keep (fun b hb hlt => ⟨⟨by omega, by omega⟩, by simp [Value.ownBlock]⟩) (fun b _ hlt => ha.block b hlt), fun b hb => .inr hb⟩
end

/-- 'row = append(row, procedure)', as one step of a region that draws its order. -/
theorem step_append_proc {P : Program} {W : World} {ops : Array Oper} {o : Oper} {a : Act} {K : Act → World → Prop} {Q : Exit → Act → World → Prop} {F : Prop} (hgd : o.guard = none) (s x : Operand) (ty : TypeId)
    (ho : o.op = .call { callee := .builtin .append, args := #[s, x], argTypes := #[ty, ty] }) (E : TypeId) (i : TypeInfo) (z : Value) (ht : P.underlying ty = some (.slice E)) (hi : P.info? E = some i) (hz : i.zero = some z)
    (hsize : i.size = 6) (hby : i.bytes = 96) (hzs : z.cells.size = 6) (base : Nat) (S : Nat → Prop) (v : Value) (ps : List PR) (hs : a.eval s = v) (hown : OwnP W base E S v ps)
    (r : PR) (A1 : Option Addr) (c1 : Nat) (A2 : Option Addr) (c2 : Nat) (hx : a.eval x = .slice (some ⟨W.heap.size, 0, none⟩) 1 1) (hr : PrR W (fun b => S b ∧ some b ≠ v.ownBlock) r A1 c1 A2 c2) (hlen : ps.length + 1 ≤ 1000) (hbase : base ≤ W.heap.size)
    (h : ∀ v' w', OwnP w' base E S v' (ps ++ [r]) → W.grownBy w' v.ownBlock → (v'.ownBlock = v.ownBlock ∨ ∃ g, v'.ownBlock = some g ∧ W.heap.size ≤ g) → K (a.put o.dst v') w') :
    if Region.wanted o (yielded ops a.tmps) = true then Oper.wp P o a (W.alloc (.cells #[.string r.s, .slice A1 r.ps.length c1, .int .u8 r.b.k, .int .i64 r.b.n, .string r.b.s, .slice A2 r.b.ks.length c2] E)) K Q else F := by
  have hw : Region.wanted o (yielded ops a.tmps) = true := by simp [Region.wanted, hgd]
  rw [if_pos hw]
  obtain ⟨xs, hrow, _, hns⟩ := hown
  obtain ⟨v', w', hrn, h2, h3, _, h5⟩ := run_append_own_at (P := P) (W.alloc (.cells #[.string r.s, .slice A1 r.ps.length c1, .int .u8 r.b.k, .int .i64 r.b.n, .string r.b.s, .slice A2 r.b.ks.length c2] E)) base ty o.type E i z 6 96 ht hi hz hsize hby hzs (by decide) v ps.length xs (hrow.alloc _) ⟨W.heap.size, 0, none⟩ 1 1 [.string r.s, .slice A1 r.ps.length c1, .int .u8 r.b.k, .int .i64 r.b.n, .string r.b.s, .slice A2 r.b.ks.length c2] (by simp)
    (news_newN W E _) (by intro u hu; simp at hu; rcases hu with rfl | rfl | rfl | rfl | rfl | rfl <;> rfl) (by unfold maxLen; omega) (by omega) (by simp; omega)
  unfold Oper.wp execOp
  simp only [ho, resolve, invoke, builtin, Sem.run_bind, Sem.run_pure, Result.andThen_ok, List.map_toArray, List.map_cons, List.map_nil, hs, hx, hrn]
  refine h v' w' (own_pushP hrow hns hr hlen h2 h3 h5) ⟨h3.os, h3.tape, h3.output, Nat.le_trans (by simp) h3.size, fun b hb hne => ?_⟩ ?_
  · rw [h3.block b (by simp; omega) hne]; exact Below.heap_alloc W _ b hb
  · rcases h5 with h5 | h5
    · exact .inl h5
    · exact .inr ⟨_, h5, by simp⟩

/-- The same, the number of parameters spelt otherwise. -/
theorem step_append_procL {P : Program} {W : World} {ops : Array Oper} {o : Oper} {a : Act} {K : Act → World → Prop} {Q : Exit → Act → World → Prop} {F : Prop} (hgd : o.guard = none) (s x : Operand) (ty : TypeId)
    (ho : o.op = .call { callee := .builtin .append, args := #[s, x], argTypes := #[ty, ty] }) (E : TypeId) (i : TypeInfo) (z : Value) (ht : P.underlying ty = some (.slice E)) (hi : P.info? E = some i) (hz : i.zero = some z)
    (hsize : i.size = 6) (hby : i.bytes = 96) (hzs : z.cells.size = 6) (base : Nat) (S : Nat → Prop) (v : Value) (ps : List PR) (hs : a.eval s = v) (hown : OwnP W base E S v ps)
    (r : PR) (L : Nat) (hL : r.ps.length = L) (A1 : Option Addr) (c1 : Nat) (A2 : Option Addr) (c2 : Nat) (hx : a.eval x = .slice (some ⟨W.heap.size, 0, none⟩) 1 1) (hr : PrR W (fun b => S b ∧ some b ≠ v.ownBlock) r A1 c1 A2 c2) (hlen : ps.length + 1 ≤ 1000) (hbase : base ≤ W.heap.size)
    (h : ∀ v' w', OwnP w' base E S v' (ps ++ [r]) → W.grownBy w' v.ownBlock → (v'.ownBlock = v.ownBlock ∨ ∃ g, v'.ownBlock = some g ∧ W.heap.size ≤ g) → K (a.put o.dst v') w') :
    if Region.wanted o (yielded ops a.tmps) = true then Oper.wp P o a (W.alloc (.cells #[.string r.s, .slice A1 L c1, .int .u8 r.b.k, .int .i64 r.b.n, .string r.b.s, .slice A2 r.b.ks.length c2] E)) K Q else F := by
  subst hL
  exact step_append_proc hgd s x ty ho E i z ht hi hz hsize hby hzs base S v ps hs hown r A1 c1 A2 c2 hx hr hlen hbase h

end Go.Proofs.Ytldcjboignbfpaa
