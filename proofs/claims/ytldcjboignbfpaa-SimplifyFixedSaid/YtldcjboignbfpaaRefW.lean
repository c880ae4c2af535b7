/-
  What a call holds that builds one node out of rows in whatever order, the blocks that the nodes lead to being kept count of; and a node that lies in a box of its own. No program stands here.
-/
import Derived.Test.YtldcjboignbfpaaPot
namespace Go.Proofs.Ytldcjboignbfpaa
open Go.RowKit

theorem cell_set1 {W : World} {g o : Nat} {p : Addr} {u x : Value} (hne : p.block ≠ g) (h : W.cell? p = some u) : (W.setCell ⟨g, o, none⟩ x).cell? p = some u := by
  rw [World.cell?_of_block (a := p) (Below.heap_setCell W _ _ _ (by simpa using hne))]; exact h

/-- As Pot, S: the blocks that the nodes lead to. -/
structure PotS (w wx : World) (E : TypeId) (S : Nat → Prop) (o : Option (Value × List T)) (b : Option Nat) : Prop where
  low : Below w.heap.size w wx
  sb : ∀ b, S b → b < w.heap.size
  own : ∀ v ts, o = some (v, ts) → OwnN wx w.heap.size E S v ts
  box : ∀ g, b = some g → w.heap.size ≤ g ∧ wx.heap[g]? = some (.cells ZC E (0, 0))
  boxne : ∀ g v ts, b = some g → o = some (v, ts) → v.ownBlock ≠ some g

section
variable {w wx w' : World} {E : TypeId} {S : Nat → Prop} {o : Option (Value × List T)} {b : Option Nat}

theorem PotS.start (w : World) (E : TypeId) (S : Nat → Prop) (hS : ∀ b, S b → b < w.heap.size) : PotS w w E S none none :=
  ⟨Below.refl _ _, hS, (by intro _ _ h; cases h), (by intro _ h; cases h), (by intro _ _ _ h; cases h)⟩
theorem PotS.later (h : PotS w wx E S o b) (hb : Below wx.heap.size wx w') : PotS w w' E S o b where
  low := h.low.trans (hb.mono h.low.size)
  sb := h.sb
  own v ts e := (h.own v ts e).later hb
  box g e := let ⟨h1, h2⟩ := h.box g e; ⟨h1, (hb.block _ (blk_lt h2)).trans h2⟩
  boxne := h.boxne
theorem PotS.drew (h : PotS w wx E S o b) : PotS w wx.drew E S o b := h.later (Below.refl _ _).drew
theorem PotS.alloc (h : PotS w wx E S o b) (ob : Obj) : PotS w (wx.alloc ob) E S o b := h.later ((Below.refl _ _).alloc (Nat.le_refl _) _)
theorem PotS.lay (h : PotS w wx E S o none) : PotS w (wx.alloc (.cells ZC E)) E S o (some wx.heap.size) :=
  { h.alloc (.cells ZC E) with
    box := fun g e => by injection e with e; subst e; exact ⟨h.low.size, heap_alloc_new wx _⟩
    boxne := fun g v ts e1 e2 e3 => by injection e1 with e1; subst e1; have := ((h.own v ts e2).block _ e3).2; omega }
theorem PotS.row0 (h : PotS w wx E S none b) : PotS w (wx.alloc (.cells #[] E)) E S (some (.slice (some ⟨wx.heap.size, 0, none⟩) 0 0, [])) b :=
  { h.alloc (.cells #[] E) with
    own := fun v ts e => by
      injection e with e
      injection e with e1 e2
      subst e1 e2
      exact ⟨[], ⟨rfl, .inr ⟨wx.heap.size, 0, #[], rfl, h.low.size, heap_alloc_new wx _, Nat.le_refl _, Nat.zero_le _, rfl, rfl⟩⟩, Nat.zero_le _, fun i hi => absurd hi (by simp)⟩
    boxne := fun g v ts e1 e2 e3 => by
      injection e2 with e2
      injection e2 with e2 _
      subst e2
      have := blk_lt (h.box g e1).2
      simp [Value.ownBlock] at e3
      omega }
theorem PotS.grow {v v' : Value} {ts ts' : List T} (h : PotS w wx E S (some (v, ts)) b) (ho : OwnN w' w.heap.size E S v' ts') (hg : wx.grownBy w' v.ownBlock) (h5 : v'.ownBlock = v.ownBlock ∨ v'.ownBlock = some wx.heap.size) :
    PotS w w' E S (some (v', ts')) b where
  low := h.low.grown hg (by have := h.low.size; omega) fun g e => ((h.own v ts rfl).block g e).1
  sb := h.sb
  own v2 ts2 e := by
    injection e with e
    injection e with e1 e2
    subst e1 e2
    exact ho
  box g e := by
    obtain ⟨h1, h2⟩ := h.box g e
    exact ⟨h1, (hg.block _ (blk_lt h2) fun e' => h.boxne g v ts e rfl e'.symm).trans h2⟩
  boxne g v2 ts2 e1 e2 e3 := by
    injection e2 with e2
    injection e2 with e2 _
    subst e2
    rcases h5 with h5 | h5 <;> rw [h5] at e3
    · exact h.boxne g v ts e1 rfl e3
    · injection e3 with e3
      have := blk_lt (h.box g e1).2
      omega
theorem PotS.set4 {g : Nat} (h : PotS w wx E S o (some g)) (u0 u1 u2 u3 : Value) : Below w.heap.size w ((((wx.setCell ⟨g, 0, none⟩ u0).setCell ⟨g, 1, none⟩ u1).setCell ⟨g, 2, none⟩ u2).setCell ⟨g, 3, none⟩ u3) := by
  have hbg := (h.box g rfl).1
  exact (((h.low.setCell (by simpa using hbg) _).setCell (by simpa using hbg) _).setCell (by simpa using hbg) _).setCell (by simpa using hbg) _
end

theorem step_pots_append {P : Program} {w wx : World} {ops : Array Oper} {o : Oper} {a : Act} {K : Act → World → Prop} {Q : Exit → Act → World → Prop} {F : Prop} (hgd : o.guard = none) (s x : Operand) (ty : TypeId)
    (ho : o.op = .call { callee := .builtin .append, args := #[s, x], argTypes := #[ty, ty] }) (E : TypeId) (i : TypeInfo) (z : Value) (ht : P.underlying ty = some (.slice E)) (hi : P.info? E = some i) (hz : i.zero = some z)
    (hsize : i.size = 4) (hby : i.bytes = 56) (hzs : z.cells.size = 4) (S : Nat → Prop) (v : Value) (ts : List T) (b : Option Nat) (hp : PotS w wx E S (some (v, ts)) b) (hs : a.eval s = v)
    (us : List T) (A : Option Addr) (m c : Nat) (hm : us.length = m) (hx : a.eval x = .slice A m c) (hr : Src wx S A us) (hlen : ts.length + us.length ≤ LK)
    (h : ∀ v' w', PotS w w' E S (some (v', ts ++ us)) b → K (a.put o.dst v') w') :
    if Region.wanted o (yielded ops a.tmps) = true then Oper.wp P o a wx K Q else F :=
  step_append_nodes hgd s x ty ho E i z ht hi hz hsize hby hzs w.heap.size S v ts hs (hp.own v ts rfl) us A m c hm hx
    (hr.mono fun b hb => ⟨hb, fun e => by have h1 := ((hp.own v ts rfl).block b e.symm).1; have h2 := hp.sb b hb; omega⟩) hlen hp.low.size
    fun v' w' h1 h2 h3 => h v' w' (hp.grow h1 h2 h3)

/-- A node that is being built lies in box g (kind k', its children's slice v, the nodes L); below: as w was, with the argument's box and the result's. -/
structure RI (w wx : World) (E : TypeId) (k n : Int) (s : ByteArray) (A : Option Addr) (l c : Nat) (k' : Int) (S : Nat → Prop) (g : Nat) (v : Value) (L : List T) : Prop where
  low : Below (w.heap.size + 2) ((w.alloc (.cells #[.int .u8 k, .int .i64 n, .string s, .slice A l c] E)).alloc (.cells ZC E)) wx
  ge : w.heap.size + 2 ≤ g
  box : wx.heap[g]? = some (.cells #[.int .u8 k', .int .i64 n, .string s, v] E (0, 0))
  own : OwnN wx (w.heap.size + 2) E S v L
  ne : v.ownBlock ≠ some g
  far : ∀ b, S b → b < w.heap.size ∨ (w.heap.size + 2 ≤ b ∧ b ≠ g)

section
variable {w wx w' : World} {E : TypeId} {k n : Int} {s : ByteArray} {A : Option Addr} {l c : Nat} {k' : Int} {S : Nat → Prop} {g : Nat} {v v' : Value} {L L' : List T}

theorem RI.size (h : RI w wx E k n s A l c k' S g v L) : w.heap.size + 2 ≤ wx.heap.size := by have := h.low.size; simpa using this
theorem RI.later (h : RI w wx E k n s A l c k' S g v L) (hb : Below wx.heap.size wx w') : RI w w' E k n s A l c k' S g v L :=
  ⟨h.low.trans (hb.mono (by simpa using h.size)), h.ge, (hb.block _ (blk_lt h.box)).trans h.box, h.own.later hb, h.ne, h.far⟩
theorem RI.arg (h : RI w wx E k n s A l c k' S g v L) : wx.heap[w.heap.size]? = some (.cells #[.int .u8 k, .int .i64 n, .string s, .slice A l c] E (0, 0)) := by
  rw [h.low.block _ (by omega), Below.heap_alloc _ _ _ (by simp)]; exact heap_alloc_new w _
theorem RI.res (h : RI w wx E k n s A l c k' S g v L) : wx.heap[w.heap.size + 1]? = some (.cells ZC E (0, 0)) := by
  rw [h.low.block _ (by omega)]
  have := heap_alloc_new (w.alloc (.cells #[.int .u8 k, .int .i64 n, .string s, .slice A l c] E)) (.cells ZC E)
  simpa using this
theorem RI.below (h : RI w wx E k n s A l c k' S g v L) : Below w.heap.size w wx := (((Below.refl _ _).alloc (Nat.le_refl _) _).alloc (by simp) _).trans (h.low.mono (by omega))
theorem RI.sl (h : RI w wx E k n s A l c k' S g v L) : ∃ A' c', v = .slice A' L.length c' ∧ L.length ≤ c' := let ⟨A', c', e, hc, _⟩ := h.own.row; ⟨A', c', e, hc⟩
/-- The kind is set. -/
theorem RI.kind (h : RI w wx E k n s A l c k' S g v L) (k2 : Int) : RI w (wx.setCell ⟨g, 0, none⟩ (.int .u8 k2)) E k n s A l c k2 S g v L := by
  refine ⟨h.low.setCell (by simpa using h.ge) _, h.ge, ?_, h.own.grown (row := some g) (only_set (only_refl _ _) rfl _) (fun b e => ?_), h.ne, h.far⟩
  · have := heap_setCell_same wx g 0 _ E (.int .u8 k2) h.box
    simpa using this
  · injection e with e
    subst e
    refine ⟨fun hh => ?_, h.ne⟩
    have h1 := h.far _ hh
    have h2 := h.ge
    omega
/-- The children's slice is set. -/
theorem RI.put (h : RI w wx E k n s A l c k' S g v L) (ho : OwnN w' (w.heap.size + 2) E S v' L') (hg : wx.grownBy w' v.ownBlock) (hne : v'.ownBlock ≠ some g) : RI w (w'.setCell ⟨g, 3, none⟩ v') E k n s A l c k' S g v' L' := by
  have hrow : ∀ b, v.ownBlock = some b → w.heap.size + 2 ≤ b := fun b e => (h.own.block b e).1
  have hbx : w'.heap[g]? = some (.cells #[.int .u8 k', .int .i64 n, .string s, v] E (0, 0)) := (hg.block _ (blk_lt h.box) (fun e => h.ne e.symm)).trans h.box
  refine ⟨(h.low.grown hg (by have := h.size; omega) (fun b e => by have := hrow b e; omega)).setCell (by simpa using h.ge) _, h.ge, ?_, ho.grown (row := some g) (only_set (only_refl _ _) rfl _) (fun b e => ?_), hne, h.far⟩
  · have := heap_setCell_same w' g 3 _ E v' hbx
    simpa using this
  · injection e with e
    subst e
    refine ⟨fun hh => ?_, hne⟩
    have h1 := h.far _ hh
    have h2 := h.ge
    omega
/-- What is handed back. -/
theorem RI.result (h : RI w wx E k n s A l c k' S g v L) (hf : Fld k' n s) {A' : Option Addr} {l' c' : Nat} (hv : v = .slice A' l' c') (S' : Nat → Prop) (hS : ∀ b, S b → S' b) (hS2 : ∀ b, w.heap.size + 2 ≤ b → S' b) :
    NV ((((wx.setCell ⟨w.heap.size + 1, 0, none⟩ (.int .u8 k')).setCell ⟨w.heap.size + 1, 1, none⟩ (.int .i64 n)).setCell ⟨w.heap.size + 1, 2, none⟩ (.string s)).setCell ⟨w.heap.size + 1, 3, none⟩ (.slice A' l' c')) S' (.nd k' n s L) (nv k' n s A' l' c') ∧
    Below w.heap.size w ((((wx.setCell ⟨w.heap.size + 1, 0, none⟩ (.int .u8 k')).setCell ⟨w.heap.size + 1, 1, none⟩ (.int .i64 n)).setCell ⟨w.heap.size + 1, 2, none⟩ (.string s)).setCell ⟨w.heap.size + 1, 3, none⟩ (.slice A' l' c')) := by
  obtain ⟨A2, c2, e, hc, hr, _⟩ := h.own.row
  rw [hv] at e
  injection e with e1 e2 e3
  subst e1 e3
  refine ⟨?_, (((h.below.setCell (by simp) _).setCell (by simp) _).setCell (by simp) _).setCell (by simp) _⟩
  rw [e2]
  refine NV.shut hf h.own.lk (by omega) (hr.keep (fun b hb _ => ?_) fun b hb _ => ?_)
  · rcases hb with hb | hb
    · exact hS b hb
    · exact hS2 b (h.own.block b hb).1
  · have hb' : b < w.heap.size ∨ w.heap.size + 2 ≤ b := by
      rcases hb with hb | hb
      · have := h.far b hb; omega
      · exact .inr (h.own.block b hb).1
    rw [Below.heap_setCell _ _ _ _ (by simp; omega), Below.heap_setCell _ _ _ _ (by simp; omega), Below.heap_setCell _ _ _ _ (by simp; omega), Below.heap_setCell _ _ _ _ (by simp; omega)]

/-- The box is filled for the first time: it was laid before. -/
theorem RI.of_pot {W1 : World} (hW : (w.alloc (.cells #[.int .u8 k, .int .i64 n, .string s, .slice A l c] E)).alloc (.cells ZC E) = W1) (hp : PotS W1 wx E S (some (v, L)) (some g)) (hS : ∀ b, S b → b < w.heap.size) :
    RI w ((((wx.setCell ⟨g, 0, none⟩ (.int .u8 k)).setCell ⟨g, 1, none⟩ (.int .i64 n)).setCell ⟨g, 2, none⟩ (.string s)).setCell ⟨g, 3, none⟩ v) E k n s A l c k (fun b => S b ∨ (w.heap.size + 2 ≤ b ∧ b ≠ g)) g v L := by
  subst hW
  have ho := hp.own v L rfl
  obtain ⟨hbg, hbx⟩ := hp.box g rfl
  have hne := hp.boxne g v L rfl rfl
  have hbg' : w.heap.size + 2 ≤ g := by simpa using hbg
  have hl := hp.set4 (.int .u8 k) (.int .i64 n) (.string s) v
  simp only [World.size_alloc] at hl ho
  refine ⟨hl, hbg', ?_, ?_, hne, fun b hb => ?_⟩
  · have h0 := heap_setCell_same wx g 0 _ E (.int .u8 k) hbx
    have h1 := heap_setCell_same _ g 1 _ E (.int .i64 n) h0
    have h2 := heap_setCell_same _ g 2 _ E (.string s) h1
    have h3 := heap_setCell_same _ g 3 _ E v h2
    simpa using h3
  · have g0 := only_set (only_refl wx (some g)) (p := ⟨g, 0, none⟩) rfl (.int .u8 k)
    have g1 := only_set g0 (p := ⟨g, 1, none⟩) rfl (.int .i64 n)
    have g2 := only_set g1 (p := ⟨g, 2, none⟩) rfl (.string s)
    have g3 := only_set g2 (p := ⟨g, 3, none⟩) rfl v
    refine (ho.grown g3 (fun b e => ?_)).mono fun b hb => .inl hb
    injection e with e
    subst e
    exact ⟨fun hh => by have := hS _ hh; omega, hne⟩
  · rcases hb with hb | hb
    · exact .inl (hS b hb)
    · exact .inr hb
/-- The box is laid last, filled. -/
theorem RI.of_pot2 {W1 : World} (hW : (w.alloc (.cells #[.int .u8 k, .int .i64 n, .string s, .slice A l c] E)).alloc (.cells ZC E) = W1) (hp : PotS W1 wx E S (some (v, L)) none) (hS : ∀ b, S b → b < w.heap.size) :
    RI w (wx.alloc (.cells #[.int .u8 k, .int .i64 n, .string s, v] E)) E k n s A l c k (fun b => S b ∨ (w.heap.size + 2 ≤ b ∧ b ≠ wx.heap.size)) wx.heap.size v L := by
  subst hW
  have h' := hp.alloc (.cells #[.int .u8 k, .int .i64 n, .string s, v] E)
  have ho := h'.own v L rfl
  have hl := h'.low
  have hsz := hp.low.size
  have hb := (hp.own v L rfl).block
  simp only [World.size_alloc] at hl ho hsz
  refine ⟨hl, by omega, heap_alloc_new wx _, ho.mono fun b hb => .inl hb, fun e => ?_, fun b hb => ?_⟩
  · have := (hb _ e).2; omega
  · rcases hb with hb | hb
    · exact .inl (hS b hb)
    · exact .inr hb

/-- A row that was built at one stroke. -/
theorem own_new (W : World) (base : Nat) (E : TypeId) (S : Nat → Prop) (cs : Array Value) (ts : List T) (m : Nat) (hm : ts.length = m) (hcs : cs.size = m * 4) (hl : m ≤ LK) (hb : base ≤ W.heap.size)
    (hs : ∀ i (hi : i < ts.length), ∃ u0 u1 u2 u3, cs[i * 4]? = some u0 ∧ cs[i * 4 + 1]? = some u1 ∧ cs[i * 4 + 2]? = some u2 ∧ cs[i * 4 + 3]? = some u3 ∧ NV W S ts[i] (.agg #[u0, u1, u2, u3])) :
    OwnN (W.alloc (.cells cs E)) base E S (.slice (some ⟨W.heap.size, 0, none⟩) m m) ts := by
  subst hm
  refine ⟨cs.toList, ⟨by simpa using hcs, .inr ⟨W.heap.size, ts.length, cs, rfl, hb, heap_alloc_new W _, Nat.le_refl _, LK_len hl, hcs, by rw [List.take_of_length_le]; simp [hcs]⟩⟩, hl, fun i hi => ?_⟩
  obtain ⟨u0, u1, u2, u3, h0, h1, h2, h3, hn⟩ := hs i hi
  refine ⟨u0, u1, u2, u3, by simpa using h0, by simpa using h1, by simpa using h2, by simpa using h3, hn.keep (fun b hb hlt => ⟨hb, fun e => ?_⟩) fun b _ hlt => Below.heap_alloc W _ b hlt⟩
  simp [Value.ownBlock] at e
  omega

/-- The children's slice is set to a row that was built at one stroke. -/
theorem RI.row (h : RI w wx E k n s A l c k' S g v L) (cs : Array Value) (ts : List T) (m : Nat) (hm : ts.length = m) (hcs : cs.size = m * 4) (hl : m ≤ LK)
    (hs : ∀ i (hi : i < ts.length), ∃ u0 u1 u2 u3, cs[i * 4]? = some u0 ∧ cs[i * 4 + 1]? = some u1 ∧ cs[i * 4 + 2]? = some u2 ∧ cs[i * 4 + 3]? = some u3 ∧ NV wx S ts[i] (.agg #[u0, u1, u2, u3])) :
    RI w ((wx.alloc (.cells cs E)).setCell ⟨g, 3, none⟩ (.slice (some ⟨wx.heap.size, 0, none⟩) m m)) E k n s A l c k' S g (.slice (some ⟨wx.heap.size, 0, none⟩) m m) ts := by
  have hb : Below wx.heap.size wx (wx.alloc (.cells cs E)) := (Below.refl _ _).alloc (Nat.le_refl _) _
  refine h.put (own_new wx _ E S cs ts m hm hcs hl h.size hs) ⟨hb.os, hb.tape, hb.output, hb.size, fun b hlt _ => hb.block b hlt⟩ fun e => ?_
  have := blk_lt h.box
  simp [Value.ownBlock] at e
  omega
/-- What a call has made, or what the argument leads to, keeps clear of the box and of the row. -/
theorem RI.fresh {w1 : World} {S0 : Nat → Prop} {t : T} {x : Value} (h : RI w wx E k n s A l c k' (fun b => (S0 b ∧ b < w.heap.size) ∨ (w.heap.size + 2 ≤ b ∧ b ≠ g)) g v L) (hn : NV w1 (fun b => (S0 b ∧ b < w.heap.size) ∨ wx.heap.size ≤ b) t x) :
    NV w1 (fun b => ((S0 b ∧ b < w.heap.size) ∨ (w.heap.size + 2 ≤ b ∧ b ≠ g)) ∧ some b ≠ v.ownBlock) t x := by
  have hg := blk_lt h.box
  have hz := h.size
  refine hn.mono fun b hb => ⟨?_, fun e => ?_⟩
  · rcases hb with hb | hb
    · exact .inl hb
    · exact .inr ⟨by omega, by omega⟩
  · have := h.own.block b e.symm
    rcases hb with hb | hb <;> omega
theorem RI.ne_grown {w1 : World} (h : RI w wx E k n s A l c k' S g v L) (hsz : wx.heap.size ≤ w1.heap.size) (hob : v'.ownBlock = v.ownBlock ∨ ∃ g', v'.ownBlock = some g' ∧ w1.heap.size ≤ g') : v'.ownBlock ≠ some g := by
  have hg := blk_lt h.box
  rcases hob with e | ⟨g', e, hg'⟩
  · rw [e]; exact h.ne
  · rw [e]; intro e2; injection e2 with e2; omega
end

end Go.Proofs.Ytldcjboignbfpaa
