/-
  What a statement holds that builds one block of nodes out of rows, in whatever order its parts come up. No program stands here.
-/
import Derived.Test.YtldcjboignbfpaaApp
namespace Go.Proofs.Ytldcjboignbfpaa
open Go.RowKit

/-- From w to wx: o: the row that grows (its slice, its nodes); x: a second row of nodes (its block); b: a box that holds the zero node. -/
structure Pot (w wx : World) (E : TypeId) (o : Option (Value × List T)) (x : Option (Nat × List T)) (b : Option Nat) : Prop where
  low : Below w.heap.size w wx
  own : ∀ v ts, o = some (v, ts) → OwnN wx w.heap.size E (fun b => b < w.heap.size) v ts
  src : ∀ g us, x = some (g, us) → w.heap.size ≤ g ∧ g < wx.heap.size ∧ Src wx (fun b => b < w.heap.size) (some ⟨g, 0, none⟩) us
  srcne : ∀ g us v ts, x = some (g, us) → o = some (v, ts) → v.ownBlock ≠ some g
  box : ∀ g, b = some g → w.heap.size ≤ g ∧ wx.heap[g]? = some (.cells ZC E (0, 0))
  boxne : ∀ g v ts, b = some g → o = some (v, ts) → v.ownBlock ≠ some g

theorem Src.keep {w w' : World} {S S' : Nat → Prop} {A : Option Addr} {us : List T} (h : Src w S A us) (hS : ∀ b, S b → b < w.heap.size → S' b) (hk : ∀ b, S b → b < w.heap.size → w'.heap[b]? = w.heap[b]?)
    (hA : ∀ a, A = some a → a.block < w.heap.size → w'.heap[a.block]? = w.heap[a.block]?) : Src w' S' A us := fun i hi => by
  obtain ⟨a, u0, u1, u2, u3, h1, h2, h3⟩ := h i hi
  refine ⟨a, u0, u1, u2, u3, h1, h2.keep ?_, h3.keep hS hk⟩
  have hlt := World.block_lt_of_cell? w _ h2.c0
  rw [block_add] at hlt ⊢
  exact hA a h1 hlt
theorem Src.later {w w' : World} {S : Nat → Prop} {A : Option Addr} {us : List T} (h : Src w S A us) (hb : Below w.heap.size w w') : Src w' S A us :=
  h.keep (fun _ hb _ => hb) (fun b _ hlt => hb.block b hlt) fun _ _ hlt => hb.block _ hlt
theorem NV.in_ {w : World} {t : T} {v : Value} (h : NV w Any t v) : NV w (fun b => b < w.heap.size) t v := h.keep (fun _ _ hlt => hlt) fun _ _ _ => rfl
theorem RowAt.in_ {w : World} {A : Option Addr} {us : List T} (h : RowAt w Any A us) : RowAt w (fun b => b < w.heap.size) A us := h.keep (fun _ _ hlt => hlt) fun _ _ _ => rfl

section
variable {w wx w' : World} {E : TypeId} {o : Option (Value × List T)} {x : Option (Nat × List T)} {b : Option Nat}

theorem Pot.start (w : World) (E : TypeId) : Pot w w E none none none :=
  ⟨Below.refl _ _, (by intro _ _ h; cases h), (by intro _ _ h; cases h), (by intro _ _ _ _ h; cases h), (by intro _ h; cases h), (by intro _ _ _ h; cases h)⟩
theorem Pot.later (h : Pot w wx E o x b) (hb : Below wx.heap.size wx w') : Pot w w' E o x b where
  low := h.low.trans (hb.mono h.low.size)
  own v ts e := (h.own v ts e).later hb
  src g us e := let ⟨h1, h2, h3⟩ := h.src g us e; ⟨h1, Nat.lt_of_lt_of_le h2 hb.size, h3.later hb⟩
  srcne := h.srcne
  box g e := let ⟨h1, h2⟩ := h.box g e; ⟨h1, (hb.block _ (blk_lt h2)).trans h2⟩
  boxne := h.boxne
theorem Pot.drew (h : Pot w wx E o x b) : Pot w wx.drew E o x b := h.later (Below.refl _ _).drew
theorem Pot.alloc (h : Pot w wx E o x b) (ob : Obj) : Pot w (wx.alloc ob) E o x b := h.later ((Below.refl _ _).alloc (Nat.le_refl _) _)
/-- A box is laid. -/
theorem Pot.lay (h : Pot w wx E o x none) : Pot w (wx.alloc (.cells ZC E)) E o x (some wx.heap.size) :=
  { h.alloc (.cells ZC E) with
    box := fun g e => by injection e with e; subst e; exact ⟨h.low.size, heap_alloc_new wx _⟩
    boxne := fun g v ts e1 e2 e3 => by injection e1 with e1; subst e1; have := ((h.own v ts e2).block _ e3).2; omega }
/-- A second row is laid. -/
theorem Pot.row (h : Pot w wx E o none b) (cs : Array Value) (us : List T)
    (hs : ∀ i (hi : i < us.length), ∃ u0 u1 u2 u3, cs[i * 4]? = some u0 ∧ cs[i * 4 + 1]? = some u1 ∧ cs[i * 4 + 2]? = some u2 ∧ cs[i * 4 + 3]? = some u3 ∧ NV w Any us[i] (.agg #[u0, u1, u2, u3])) :
    Pot w (wx.alloc (.cells cs E)) E o (some (wx.heap.size, us)) b :=
  { h.alloc (.cells cs E) with
    src := fun g us' e => by
      injection e with e
      injection e with e1 e2
      subst e1 e2
      refine ⟨h.low.size, by simp, fun i hi => ?_⟩
      obtain ⟨u0, u1, u2, u3, h0, h1, h2, h3, hn⟩ := hs i hi
      have hh : (wx.alloc (.cells cs E)).heap[wx.heap.size]? = some (.cells cs E (0, 0)) := heap_alloc_new wx _
      have ha : (⟨wx.heap.size, 0, none⟩ : Addr).add (i * 4) = ⟨wx.heap.size, i * 4, none⟩ := by unfold Addr.add; split <;> simp_all
      refine ⟨⟨wx.heap.size, 0, none⟩, u0, u1, u2, u3, rfl, ?_, hn.in_.later (h.alloc (.cells cs E)).low⟩
      rw [ha]
      exact ⟨cell_of_blk hh h0, cell_of_blk hh h1, cell_of_blk hh h2, cell_of_blk hh h3⟩
    srcne := fun g us' v ts e1 e2 e3 => by
      injection e1 with e1
      injection e1 with e1 _
      subst e1
      have := ((h.own v ts e2).block _ e3).2
      omega }
theorem Pot.row2 {t1 t2 : T} {k1 n1 k2 n2 : Int} {s1 s2 : ByteArray} {A1 A2 : Option Addr} {l1 c1 l2 c2 : Nat}
    (h1 : NV w Any t1 (nv k1 n1 s1 A1 l1 c1)) (h2 : NV w Any t2 (nv k2 n2 s2 A2 l2 c2)) (h : Pot w wx E o none b) :
    Pot w (wx.alloc (.cells #[.int .u8 k1, .int .i64 n1, .string s1, .slice A1 l1 c1, .int .u8 k2, .int .i64 n2, .string s2, .slice A2 l2 c2] E)) E o (some (wx.heap.size, [t1, t2])) b :=
  h.row _ [t1, t2] fun i hi => by
    rcases i with _ | _ | i
    · exact ⟨_, _, _, _, rfl, rfl, rfl, rfl, h1⟩
    · exact ⟨_, _, _, _, rfl, rfl, rfl, rfl, h2⟩
    · simp at hi; omega
/-- The row that grows is laid, empty. -/
theorem Pot.row0 (h : Pot w wx E none x b) : Pot w (wx.alloc (.cells #[] E)) E (some (.slice (some ⟨wx.heap.size, 0, none⟩) 0 0, [])) x b :=
  { h.alloc (.cells #[] E) with
    own := fun v ts e => by
      injection e with e
      injection e with e1 e2
      subst e1 e2
      exact ⟨[], ⟨rfl, .inr ⟨wx.heap.size, 0, #[], rfl, h.low.size, heap_alloc_new wx _, Nat.le_refl _, Nat.zero_le _, rfl, rfl⟩⟩, Nat.zero_le _, fun i hi => absurd hi (by simp)⟩
    srcne := fun g us v ts e1 e2 e3 => by
      injection e2 with e2
      injection e2 with e2 _
      subst e2
      have := (h.src g us e1).2.1
      simp [Value.ownBlock] at e3
      omega
    boxne := fun g v ts e1 e2 e3 => by
      injection e2 with e2
      injection e2 with e2 _
      subst e2
      have := blk_lt (h.box g e1).2
      simp [Value.ownBlock] at e3
      omega }
/-- The row has grown. -/
theorem Pot.grow {v v' : Value} {ts ts' : List T} (h : Pot w wx E (some (v, ts)) x b) (ho : OwnN w' w.heap.size E (fun b => b < w.heap.size) v' ts') (hg : wx.grownBy w' v.ownBlock) (h5 : v'.ownBlock = v.ownBlock ∨ v'.ownBlock = some wx.heap.size) :
    Pot w w' E (some (v', ts')) x b where
  low := h.low.grown hg (by have := h.low.size; omega) fun g e => ((h.own v ts rfl).block g e).1
  own v2 ts2 e := by
    injection e with e
    injection e with e1 e2
    subst e1 e2
    exact ho
  src g us e := by
    obtain ⟨h1, h2, h3⟩ := h.src g us e
    refine ⟨h1, Nat.lt_of_lt_of_le h2 hg.size, h3.keep (fun _ hb _ => hb) (fun b hb hlt => hg.block b hlt fun e' => ?_) fun a e' hlt => hg.block _ hlt fun e'' => ?_⟩
    · have := ((h.own v ts rfl).block b e'.symm).1; omega
    · injection e' with e'
      subst e'
      exact h.srcne g us v ts e rfl e''.symm
  srcne g us v2 ts2 e1 e2 e3 := by
    injection e2 with e2
    injection e2 with e2 _
    subst e2
    rcases h5 with h5 | h5 <;> rw [h5] at e3
    · exact h.srcne g us v ts e1 rfl e3
    · injection e3 with e3
      have := (h.src g us e1).2.1
      omega
  box g e := by
    obtain ⟨h1, h2⟩ := h.box g e
    exact ⟨h1, (hg.block _ (blk_lt h2) fun e' => h.boxne g v ts e rfl e'.symm).trans h2⟩
  boxne g v2 ts2 e1 e2 e3 := by
    injection e2 with e2
    injection e2 with e2 _
    subst e2
    rcases h5 with h5 | h5 <;> rw [h5] at e3
    · exact h.boxne g v ts e1 rfl e3
    · injection e3 with e3
      have := blk_lt (h.box g e1).2
      omega
theorem Pot.set4 {g : Nat} (h : Pot w wx E o x (some g)) (u0 u1 u2 u3 : Value) : Below w.heap.size w ((((wx.setCell ⟨g, 0, none⟩ u0).setCell ⟨g, 1, none⟩ u1).setCell ⟨g, 2, none⟩ u2).setCell ⟨g, 3, none⟩ u3) := by
  have hbg := (h.box g rfl).1
  exact (((h.low.setCell (by simpa using hbg) _).setCell (by simpa using hbg) _).setCell (by simpa using hbg) _).setCell (by simpa using hbg) _
/-- What is left once the block is stored in the box. -/
theorem Pot.done {v : Value} {ts : List T} {g : Nat} (h : Pot w wx E (some (v, ts)) x (some g)) {A : Option Addr} {l c : Nat} (hv : v = .slice A l c) :
    NV ((((wx.setCell ⟨g, 0, none⟩ (.int .u8 57)).setCell ⟨g, 1, none⟩ (.int .i64 0)).setCell ⟨g, 2, none⟩ (.string ⟨#[]⟩)).setCell ⟨g, 3, none⟩ (.slice A l c)) Any (.nd 57 0 ⟨#[]⟩ ts) (nv 57 0 ⟨#[]⟩ A l c) ∧
    Below w.heap.size w ((((wx.setCell ⟨g, 0, none⟩ (.int .u8 57)).setCell ⟨g, 1, none⟩ (.int .i64 0)).setCell ⟨g, 2, none⟩ (.string ⟨#[]⟩)).setCell ⟨g, 3, none⟩ (.slice A l c)) ∧
    ((((wx.setCell ⟨g, 0, none⟩ (.int .u8 57)).setCell ⟨g, 1, none⟩ (.int .i64 0)).setCell ⟨g, 2, none⟩ (.string ⟨#[]⟩)).setCell ⟨g, 3, none⟩ (.slice A l c)).heap[g]? = some (.cells #[.int .u8 57, .int .i64 0, .string ⟨#[]⟩, .slice A l c] E (0, 0)) := by
  have ho := h.own v ts rfl
  obtain ⟨hbg, hbx⟩ := h.box g rfl
  obtain ⟨A2, c2, e, hc, hr, _⟩ := ho.row
  rw [hv] at e
  injection e with e1 e2 e3
  subst e1 e3
  refine ⟨?_, (((h.low.setCell (by simpa using hbg) _).setCell (by simpa using hbg) _).setCell (by simpa using hbg) _).setCell (by simpa using hbg) _, ?_⟩
  · rw [e2]
    refine NV.shut ⟨⟨by omega, by omega⟩, ⟨by omega, by omega⟩, by decide⟩ ho.lk (by omega) (hr.keep (fun _ _ _ => trivial) fun b hb _ => ?_)
    have hne : b ≠ g := by
      rcases hb with hb | hb
      · omega
      · rintro rfl
        exact h.boxne b v ts rfl rfl hb
    rw [Below.heap_setCell _ _ _ _ hne, Below.heap_setCell _ _ _ _ hne, Below.heap_setCell _ _ _ _ hne, Below.heap_setCell _ _ _ _ hne]
  · have h0 := heap_setCell_same wx g 0 _ E (.int .u8 57) hbx
    have h1 := heap_setCell_same _ g 1 _ E (.int .i64 0) h0
    have h2 := heap_setCell_same _ g 2 _ E (.string ⟨#[]⟩) h1
    have h3 := heap_setCell_same _ g 3 _ E (.slice A l c) h2
    simpa using h3
/-- The same, the box being laid last. -/
theorem Pot.done2 {v : Value} {ts : List T} (h : Pot w wx E (some (v, ts)) x none) {A : Option Addr} {l c : Nat} (hv : v = .slice A l c) :
    NV (wx.alloc (.cells #[.int .u8 57, .int .i64 0, .string ⟨#[]⟩, .slice A l c] E)) Any (.nd 57 0 ⟨#[]⟩ ts) (nv 57 0 ⟨#[]⟩ A l c) ∧
    Below w.heap.size w (wx.alloc (.cells #[.int .u8 57, .int .i64 0, .string ⟨#[]⟩, .slice A l c] E)) ∧
    (wx.alloc (.cells #[.int .u8 57, .int .i64 0, .string ⟨#[]⟩, .slice A l c] E)).heap[wx.heap.size]? = some (.cells #[.int .u8 57, .int .i64 0, .string ⟨#[]⟩, .slice A l c] E (0, 0)) := by
  have h' := h.alloc (.cells #[.int .u8 57, .int .i64 0, .string ⟨#[]⟩, .slice A l c] E)
  have ho := h'.own v ts rfl
  obtain ⟨A2, c2, e, hc, hr, _⟩ := ho.row
  rw [hv] at e
  injection e with e1 e2 e3
  subst e1 e3
  refine ⟨?_, h'.low, heap_alloc_new wx _⟩
  have := NV.shut (k := 57) (n := 0) (s := ⟨#[]⟩) ⟨⟨by omega, by omega⟩, ⟨by omega, by omega⟩, by decide⟩ ho.lk hc hr.any
  rw [← e2] at this
  exact this
end

/-- 'row = append(row, nodes...)' while the block is being built. -/
theorem step_pot_append {P : Program} {w wx : World} {ops : Array Oper} {o : Oper} {a : Act} {K : Act → World → Prop} {Q : Exit → Act → World → Prop} {F : Prop} (hgd : o.guard = none) (s x : Operand) (ty : TypeId)
    (ho : o.op = .call { callee := .builtin .append, args := #[s, x], argTypes := #[ty, ty] }) (E : TypeId) (i : TypeInfo) (z : Value) (ht : P.underlying ty = some (.slice E)) (hi : P.info? E = some i) (hz : i.zero = some z)
    (hsize : i.size = 4) (hby : i.bytes = 56) (hzs : z.cells.size = 4) (v : Value) (ts : List T) (xx : Option (Nat × List T)) (b : Option Nat) (hp : Pot w wx E (some (v, ts)) xx b) (hs : a.eval s = v)
    (us : List T) (A : Option Addr) (m c : Nat) (hm : us.length = m) (hx : a.eval x = .slice A m c) (hr : Src wx (fun b => b < w.heap.size) A us) (hlen : ts.length + us.length ≤ LK)
    (h : ∀ v' w', Pot w w' E (some (v', ts ++ us)) xx b → K (a.put o.dst v') w') :
    if Region.wanted o (yielded ops a.tmps) = true then Oper.wp P o a wx K Q else F :=
  step_append_nodes hgd s x ty ho E i z ht hi hz hsize hby hzs w.heap.size (fun b => b < w.heap.size) v ts hs (hp.own v ts rfl) us A m c hm hx
    (hr.mono fun b hb => ⟨hb, fun e => by have := ((hp.own v ts rfl).block b e.symm).1; omega⟩) hlen hp.low.size
    fun v' w' h1 h2 h3 => h v' w' (hp.grow h1 h2 h3)

/-- The second row is appended. -/
theorem step_pot_append_row {P : Program} {w wx : World} {ops : Array Oper} {o : Oper} {a : Act} {K : Act → World → Prop} {Q : Exit → Act → World → Prop} {F : Prop} (hgd : o.guard = none) (s x : Operand) (ty : TypeId)
    (ho : o.op = .call { callee := .builtin .append, args := #[s, x], argTypes := #[ty, ty] }) (E : TypeId) (i : TypeInfo) (z : Value) (ht : P.underlying ty = some (.slice E)) (hi : P.info? E = some i) (hz : i.zero = some z)
    (hsize : i.size = 4) (hby : i.bytes = 56) (hzs : z.cells.size = 4) (v : Value) (ts us : List T) (g : Nat) (b : Option Nat) (hp : Pot w wx E (some (v, ts)) (some (g, us)) b) (hs : a.eval s = v)
    (m c : Nat) (hm : us.length = m) (hx : a.eval x = .slice (some ⟨g, 0, none⟩) m c) (hlen : ts.length + us.length ≤ LK)
    (h : ∀ v' w', Pot w w' E (some (v', ts ++ us)) (some (g, us)) b → K (a.put o.dst v') w') :
    if Region.wanted o (yielded ops a.tmps) = true then Oper.wp P o a wx K Q else F :=
  step_pot_append hgd s x ty ho E i z ht hi hz hsize hby hzs v ts _ b hp hs us _ m c hm hx (hp.src g us rfl).2.2 hlen h

end Go.Proofs.Ytldcjboignbfpaa
