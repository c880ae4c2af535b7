/-
  Plain programs (declarations, procedures), and what it means that Go values read as them. No program stands here.
-/
import Derived.Test.YtekjfbnggfbfhaaOwn
import Derived.Test.YtekjfbnggfbfhaaInvW
namespace Go.Proofs.Ytekjfbnggfbfhaa
open Go.RowKit

/-- A declaration: name, kind, length. -/
structure VD where
  s : ByteArray
  k : Int
  n : Int
/-- A procedure: name, parameters, body. -/
structure PR where
  s : ByteArray
  ps : List VD
  b : T
/-- A program: variables, procedures, main block. -/
structure PG where
  vs : List VD
  prs : List PR
  m : T

/-- What a declaration's fields are bound by. -/
def FldV (v : VD) : Prop := v.s.size ≤ maxLen ∧ (0 ≤ v.k ∧ v.k < 256) ∧ (-9223372036854775808 ≤ v.n ∧ v.n ≤ 9223372036854775807)
/-- The three cells of a declaration at address p. -/
abbrev Vd3 (w : World) (p : Addr) (v : VD) : Prop := w.cell? p = some (.string v.s) ∧ w.cell? ⟨p.block, p.off + 1, none⟩ = some (.int .u8 v.k) ∧ w.cell? ⟨p.block, p.off + 2, none⟩ = some (.int .i64 v.n)
/-- The greatest number of declarations (32 bytes each) or procedures (96 bytes each): 2^47 bytes together. -/
def LV : Nat := 4398046511104
theorem LV_int {n : Nat} (h : n ≤ LV) : n ≤ 4398046511104 := h

/-- The slice address A leads to the declarations vs. -/
def RowV (w : World) (S : Nat → Prop) (A : Option Addr) (vs : List VD) : Prop :=
  ∀ i (hi : i < vs.length), ∃ a : Addr, A = some a ∧ S a.block ∧ Vd3 w (a.add (i * 3)) vs[i] ∧ FldV vs[i]

/-- The six cells of a procedure at address p. -/
abbrev Pr6 (w : World) (p : Addr) (r : PR) (A1 : Option Addr) (c1 : Nat) (A2 : Option Addr) (c2 : Nat) : Prop :=
  w.cell? p = some (.string r.s) ∧ w.cell? ⟨p.block, p.off + 1, none⟩ = some (.slice A1 r.ps.length c1) ∧ w.cell? ⟨p.block, p.off + 2, none⟩ = some (.int .u8 r.b.k) ∧ w.cell? ⟨p.block, p.off + 3, none⟩ = some (.int .i64 r.b.n) ∧
    w.cell? ⟨p.block, p.off + 4, none⟩ = some (.string r.b.s) ∧ w.cell? ⟨p.block, p.off + 5, none⟩ = some (.slice A2 r.b.ks.length c2)
/-- What the parts of a procedure lead to. -/
structure PrR (w : World) (S : Nat → Prop) (r : PR) (A1 : Option Addr) (c1 : Nat) (A2 : Option Addr) (c2 : Nat) : Prop where
  name : r.s.size ≤ maxLen
  row : RowV w S A1 r.ps
  lp : r.ps.length ≤ LV
  lc : r.ps.length ≤ c1
  body : NV w S r.b (nv r.b.k r.b.n r.b.s A2 r.b.ks.length c2)

/-- The slice address A leads to the procedures ps. -/
def RowP (w : World) (S : Nat → Prop) (A : Option Addr) (ps : List PR) : Prop :=
  ∀ i (hi : i < ps.length), ∃ (a : Addr) (A1 : Option Addr) (c1 : Nat) (A2 : Option Addr) (c2 : Nat), A = some a ∧ S a.block ∧ Pr6 w (a.add (i * 6)) ps[i] A1 c1 A2 c2 ∧ PrR w S ps[i] A1 c1 A2 c2

/-- The value of a program. -/
abbrev pv (A1 : Option Addr) (l1 c1 : Nat) (A2 : Option Addr) (l2 c2 : Nat) (k n : Int) (s : ByteArray) (A3 : Option Addr) (l3 c3 : Nat) : Value :=
  .agg #[.slice A1 l1 c1, .slice A2 l2 c2, .int .u8 k, .int .i64 n, .string s, .slice A3 l3 c3]
/-- What the parts of a program lead to. -/
structure PgR (w : World) (S : Nat → Prop) (p : PG) (A1 : Option Addr) (c1 : Nat) (A2 : Option Addr) (c2 : Nat) (A3 : Option Addr) (c3 : Nat) : Prop where
  vars : RowV w S A1 p.vs
  lv : p.vs.length ≤ LV
  lvc : p.vs.length ≤ c1
  procs : RowP w S A2 p.prs
  lp : p.prs.length ≤ LV
  lpc : p.prs.length ≤ c2
  main : NV w S p.m (nv p.m.k p.m.n p.m.s A3 p.m.ks.length c3)
/-- Value v reads as the program p. -/
def PV (w : World) (S : Nat → Prop) (p : PG) (v : Value) : Prop :=
  ∃ A1 c1 A2 c2 A3 c3, v = pv A1 p.vs.length c1 A2 p.prs.length c2 p.m.k p.m.n p.m.s A3 p.m.ks.length c3 ∧ PgR w S p A1 c1 A2 c2 A3 c3

section
variable {w w' : World} {S S' : Nat → Prop} {A : Option Addr}

theorem cell_kp {p : Addr} {u : Value} (h : w.cell? p = some u) (hk : w'.heap[p.block]? = w.heap[p.block]?) : w'.cell? p = some u := (World.cell?_of_block (a := p) hk).trans h

theorem RowV.keep {vs : List VD} (h : RowV w S A vs) (hS : ∀ b, S b → b < w.heap.size → S' b) (hk : ∀ b, S b → b < w.heap.size → w'.heap[b]? = w.heap[b]?) : RowV w' S' A vs := fun i hi => by
  obtain ⟨a, hA, hSa, ⟨h0, h1, h2⟩, hf⟩ := h i hi
  have hlt : a.block < w.heap.size := by have := World.block_lt_of_cell? w _ h0; rwa [block_add] at this
  have hb := hk _ hSa hlt
  refine ⟨a, hA, hS _ hSa hlt, ⟨cell_kp h0 ?_, cell_kp h1 ?_, cell_kp h2 ?_⟩, hf⟩ <;> simp only [block_add] <;> exact hb
theorem PrR.keep {r : PR} {A1 A2 : Option Addr} {c1 c2 : Nat} (h : PrR w S r A1 c1 A2 c2) (hS : ∀ b, S b → b < w.heap.size → S' b) (hk : ∀ b, S b → b < w.heap.size → w'.heap[b]? = w.heap[b]?) : PrR w' S' r A1 c1 A2 c2 :=
  ⟨h.name, h.row.keep hS hk, h.lp, h.lc, h.body.keep hS hk⟩
theorem RowP.keep {ps : List PR} (h : RowP w S A ps) (hS : ∀ b, S b → b < w.heap.size → S' b) (hk : ∀ b, S b → b < w.heap.size → w'.heap[b]? = w.heap[b]?) : RowP w' S' A ps := fun i hi => by
  obtain ⟨a, A1, c1, A2, c2, hA, hSa, ⟨h0, h1, h2, h3, h4, h5⟩, hr⟩ := h i hi
  have hlt : a.block < w.heap.size := by have := World.block_lt_of_cell? w _ h0; rwa [block_add] at this
  have hb := hk _ hSa hlt
  refine ⟨a, A1, c1, A2, c2, hA, hS _ hSa hlt, ⟨cell_kp h0 ?_, cell_kp h1 ?_, cell_kp h2 ?_, cell_kp h3 ?_, cell_kp h4 ?_, cell_kp h5 ?_⟩, hr.keep hS hk⟩ <;> simp only [block_add] <;> exact hb
theorem PgR.keep {p : PG} {A1 A2 A3 : Option Addr} {c1 c2 c3 : Nat} (h : PgR w S p A1 c1 A2 c2 A3 c3) (hS : ∀ b, S b → b < w.heap.size → S' b) (hk : ∀ b, S b → b < w.heap.size → w'.heap[b]? = w.heap[b]?) : PgR w' S' p A1 c1 A2 c2 A3 c3 :=
  ⟨h.vars.keep hS hk, h.lv, h.lvc, h.procs.keep hS hk, h.lp, h.lpc, h.main.keep hS hk⟩

theorem RowV.later {vs : List VD} (h : RowV w S A vs) (hb : Below w.heap.size w w') : RowV w' S A vs := h.keep (fun _ hb _ => hb) fun b _ hlt => hb.block b hlt
theorem RowV.mono {vs : List VD} (h : RowV w S A vs) (hS : ∀ b, S b → S' b) : RowV w S' A vs := h.keep (fun b hb _ => hS b hb) fun _ _ _ => rfl
theorem RowP.later {ps : List PR} (h : RowP w S A ps) (hb : Below w.heap.size w w') : RowP w' S A ps := h.keep (fun _ hb _ => hb) fun b _ hlt => hb.block b hlt
theorem RowP.mono {ps : List PR} (h : RowP w S A ps) (hS : ∀ b, S b → S' b) : RowP w S' A ps := h.keep (fun b hb _ => hS b hb) fun _ _ _ => rfl
theorem PrR.later {r : PR} {A1 A2 : Option Addr} {c1 c2 : Nat} (h : PrR w S r A1 c1 A2 c2) (hb : Below w.heap.size w w') : PrR w' S r A1 c1 A2 c2 := h.keep (fun _ hb _ => hb) fun b _ hlt => hb.block b hlt
theorem PgR.later {p : PG} {A1 A2 A3 : Option Addr} {c1 c2 c3 : Nat} (h : PgR w S p A1 c1 A2 c2 A3 c3) (hb : Below w.heap.size w w') : PgR w' S p A1 c1 A2 c2 A3 c3 := h.keep (fun _ hb _ => hb) fun b _ hlt => hb.block b hlt
theorem PgR.mono {p : PG} {A1 A2 A3 : Option Addr} {c1 c2 c3 : Nat} (h : PgR w S p A1 c1 A2 c2 A3 c3) (hS : ∀ b, S b → S' b) : PgR w S' p A1 c1 A2 c2 A3 c3 := h.keep (fun b hb _ => hS b hb) fun _ _ _ => rfl
theorem PV.later {p : PG} {v : Value} (h : PV w S p v) (hb : Below w.heap.size w w') : PV w' S p v := let ⟨A1, c1, A2, c2, A3, c3, e, h⟩ := h; ⟨A1, c1, A2, c2, A3, c3, e, h.later hb⟩
theorem PV.mono {p : PG} {v : Value} (h : PV w S p v) (hS : ∀ b, S b → S' b) : PV w S' p v := let ⟨A1, c1, A2, c2, A3, c3, e, h⟩ := h; ⟨A1, c1, A2, c2, A3, c3, e, h.mono hS⟩

/-- The i-th declaration of a row. -/
theorem RowV.nd {vs : List VD} (h : RowV w S A vs) {i : Nat} (hi : i < vs.length) : ∃ (a : Addr) (v : VD), A = some a ∧ S a.block ∧ Hid (vs[i] = v) ∧ Vd3 w (a.add (i * 3)) v ∧ FldV v :=
  let ⟨a, h1, h2, h3, h4⟩ := h i hi; ⟨a, vs[i], h1, h2, rfl, h3, h4⟩
/-- The i-th procedure of a row. -/
theorem RowP.nd {ps : List PR} (h : RowP w S A ps) {i : Nat} (hi : i < ps.length) : ∃ (a : Addr) (r : PR) (A1 : Option Addr) (c1 : Nat) (A2 : Option Addr) (c2 : Nat), A = some a ∧ S a.block ∧ Hid (ps[i] = r) ∧ Pr6 w (a.add (i * 6)) r A1 c1 A2 c2 ∧ PrR w S r A1 c1 A2 c2 :=
  let ⟨a, A1, c1, A2, c2, h1, h2, h3, h4⟩ := h i hi; ⟨a, ps[i], A1, c1, A2, c2, h1, h2, rfl, h3, h4⟩
end

end Go.Proofs.Ytekjfbnggfbfhaa

/-
  Rows of procedures that a call itself makes. No program stands here.
-/
namespace Go.Proofs.Ytekjfbnggfbfhaa
open Go.RowKit

/-- Slice value v owns a row (from block base on) of the procedures ps; what they lead to lies in blocks that meet S, and not in the row itself. -/
def OwnP (w : World) (base : Nat) (E : TypeId) (S : Nat → Prop) (v : Value) (ps : List PR) : Prop :=
  ∃ xs, w.ownsRow base E 6 v ps.length xs ∧ ps.length ≤ 1000 ∧ ∀ i (hi : i < ps.length), ∃ A1 c1 A2 c2, xs[i * 6]? = some (.string ps[i].s) ∧ xs[i * 6 + 1]? = some (.slice A1 ps[i].ps.length c1) ∧ xs[i * 6 + 2]? = some (.int .u8 ps[i].b.k) ∧
    xs[i * 6 + 3]? = some (.int .i64 ps[i].b.n) ∧ xs[i * 6 + 4]? = some (.string ps[i].b.s) ∧ xs[i * 6 + 5]? = some (.slice A2 ps[i].b.ks.length c2) ∧ PrR w (fun b => S b ∧ some b ≠ v.ownBlock) ps[i] A1 c1 A2 c2

section
variable {w w' : World} {base : Nat} {E : TypeId} {S S' : Nat → Prop} {v : Value} {ps : List PR}

theorem OwnP.nil (w : World) (base : Nat) (E : TypeId) (S : Nat → Prop) : OwnP w base E S (.slice none 0 0) [] := ⟨[], World.ownsRow_nil w base E 6, Nat.zero_le _, fun i hi => absurd hi (by simp)⟩
theorem OwnP.later (h : OwnP w base E S v ps) (hb : Below w.heap.size w w') : OwnP w' base E S v ps := by
  obtain ⟨xs, ho, hl, hn⟩ := h
  refine ⟨xs, ho.kept (row := none) ⟨hb.os, hb.tape, hb.output, hb.size, fun k hk _ => hb.block k hk⟩ (by cases v.ownBlock <;> simp), hl, fun i hi => ?_⟩
  obtain ⟨A1, c1, A2, c2, h0, h1, h2, h3, h4, h5, hr⟩ := hn i hi
  exact ⟨A1, c1, A2, c2, h0, h1, h2, h3, h4, h5, hr.later hb⟩
theorem OwnP.grown (h : OwnP w base E S v ps) {row : Option Nat} (hg : w.grownBy w' row) (hr : ∀ g, row = some g → ¬ S g ∧ v.ownBlock ≠ some g) : OwnP w' base E S v ps := by
  obtain ⟨xs, ho, hl, hn⟩ := h
  have hne : v.ownBlock = none ∨ v.ownBlock ≠ row := by
    cases row with
    | none => cases v.ownBlock <;> simp
    | some g => exact .inr (hr g rfl).2
  refine ⟨xs, ho.kept hg hne, hl, fun i hi => ?_⟩
  obtain ⟨A1, c1, A2, c2, h0, h1, h2, h3, h4, h5, hv⟩ := hn i hi
  refine ⟨A1, c1, A2, c2, h0, h1, h2, h3, h4, h5, hv.keep (fun b hb _ => hb) (fun b hb hlt => hg.block b hlt ?_)⟩
  intro e
  exact (hr b e.symm).1 hb.1
theorem OwnP.block (h : OwnP w base E S v ps) : ∀ k, v.ownBlock = some k → base ≤ k ∧ k < w.heap.size := let ⟨_, ho, _, _⟩ := h; ho.lt
theorem OwnP.len (h : OwnP w base E S v ps) : ps.length ≤ 1000 := let ⟨_, _, hl, _⟩ := h; hl
/-- The row read. -/
theorem OwnP.row (h : OwnP w base E S v ps) : ∃ A c, v = .slice A ps.length c ∧ ps.length ≤ c ∧ RowP w (fun b => S b ∨ v.ownBlock = some b) A ps := by
  obtain ⟨xs, ho, hl, hn⟩ := h
  rcases ho.2 with ⟨rfl, h0⟩ | ⟨g, cap, cur, rfl, hb, hg, hc, hm, hz, hx⟩
  · exact ⟨none, 0, by rw [h0], by omega, fun i hi => absurd hi (by omega)⟩
  · refine ⟨some ⟨g, 0, none⟩, cap, rfl, hc, fun i hi => ?_⟩
    obtain ⟨A1, c1, A2, c2, h0, h1, h2, h3, h4, h5, hv⟩ := hn i hi
    have hcell : ∀ j u, j < 6 → xs[i * 6 + j]? = some u → w.cell? ⟨g, i * 6 + j, none⟩ = some u := by
      intro j u hj hu
      rw [ho.cellAt (i * 6 + j) (by omega)]; exact hu
    have ha : (⟨g, 0, none⟩ : Addr).add (i * 6) = ⟨g, i * 6, none⟩ := by unfold Addr.add; split <;> simp_all
    refine ⟨⟨g, 0, none⟩, A1, c1, A2, c2, rfl, .inr rfl, ?_, hv.keep (fun b hb _ => .inl hb.1) fun _ _ _ => rfl⟩
    rw [ha]
    exact ⟨hcell 0 _ (by omega) h0, hcell 1 _ (by omega) h1, hcell 2 _ (by omega) h2, hcell 3 _ (by omega) h3, hcell 4 _ (by omega) h4, hcell 5 _ (by omega) h5⟩
end

/-- What one append of a procedure leaves. -/
theorem own_pushP {W w' : World} {base : Nat} {E : TypeId} {S : Nat → Prop} {v v' : Value} {ps : List PR} {r : PR} {A1 A2 : Option Addr} {c1 c2 : Nat} {o : Obj} {xs : List Value}
    (ho : W.ownsRow base E 6 v ps.length xs)
    (hn : ∀ i (hi : i < ps.length), ∃ A1 c1 A2 c2, xs[i * 6]? = some (.string ps[i].s) ∧ xs[i * 6 + 1]? = some (.slice A1 ps[i].ps.length c1) ∧ xs[i * 6 + 2]? = some (.int .u8 ps[i].b.k) ∧
      xs[i * 6 + 3]? = some (.int .i64 ps[i].b.n) ∧ xs[i * 6 + 4]? = some (.string ps[i].b.s) ∧ xs[i * 6 + 5]? = some (.slice A2 ps[i].b.ks.length c2) ∧ PrR W (fun b => S b ∧ some b ≠ v.ownBlock) ps[i] A1 c1 A2 c2)
    (hr : PrR W (fun b => S b ∧ some b ≠ v.ownBlock) r A1 c1 A2 c2) (hlen : ps.length + 1 ≤ 1000)
    (h2 : w'.ownsRow base E 6 v' (ps.length + 1) (xs ++ [.string r.s, .slice A1 r.ps.length c1, .int .u8 r.b.k, .int .i64 r.b.n, .string r.b.s, .slice A2 r.b.ks.length c2])) (h3 : (W.alloc o).grownBy w' v.ownBlock) (h5 : v'.ownBlock = v.ownBlock ∨ v'.ownBlock = some (W.alloc o).heap.size) : OwnP w' base E S v' (ps ++ [r]) := by
  have hk : ∀ {r : PR} {A1 A2 : Option Addr} {c1 c2 : Nat}, PrR W (fun b => S b ∧ some b ≠ v.ownBlock) r A1 c1 A2 c2 → PrR w' (fun b => S b ∧ some b ≠ v'.ownBlock) r A1 c1 A2 c2 := by
    intro r A1 A2 c1 c2 h
    refine h.keep (fun b hb hlt => ⟨hb.1, ?_⟩) (fun b hb hlt => ?_)
    · rcases h5 with h5 | h5 <;> rw [h5]
      · exact hb.2
      · intro e; injection e with e; simp at e; omega
    · rw [h3.block b (by simp; omega) hb.2]; exact Below.heap_alloc W o b hlt
  refine ⟨_, by simpa using h2, by simpa using hlen, fun i hi => ?_⟩
  have hxl := ho.1
  by_cases h : i < ps.length
  · obtain ⟨B1, d1, B2, d2, e0, e1, e2, e3, e4, e5, hv⟩ := hn i h
    refine ⟨B1, d1, B2, d2, ?_, ?_, ?_, ?_, ?_, ?_, ?_⟩
    · rw [List.getElem_append_left h, List.getElem?_append_left (by omega)]; exact e0
    · rw [List.getElem_append_left h, List.getElem?_append_left (by omega)]; exact e1
    · rw [List.getElem_append_left h, List.getElem?_append_left (by omega)]; exact e2
    · rw [List.getElem_append_left h, List.getElem?_append_left (by omega)]; exact e3
    · rw [List.getElem_append_left h, List.getElem?_append_left (by omega)]; exact e4
    · rw [List.getElem_append_left h, List.getElem?_append_left (by omega)]; exact e5
    · rw [List.getElem_append_left h]; exact hk hv
  · have e : i = ps.length := by simp at hi; omega
    subst e
    refine ⟨A1, c1, A2, c2, ?_, ?_, ?_, ?_, ?_, ?_, ?_⟩
    · rw [List.getElem?_append_right (by omega)]; simp [hxl]
    · rw [List.getElem?_append_right (by omega)]; simp [hxl]
    · rw [List.getElem?_append_right (by omega)]; simp [hxl]
    · rw [List.getElem?_append_right (by omega)]; simp [hxl]
    · rw [List.getElem?_append_right (by omega)]; simp [hxl]
    · rw [List.getElem?_append_right (by omega)]; simp [hxl]
    · simpa using hk hr

/-- 'row = append(row, procedure)'. -/
theorem wpList_append_procH {P : Program} {W : World} {ops : Array Oper} {rest : List Oper} {o : Oper} {a : Act} {Q : Exit → Act → World → Prop} (hgd : o.guard = none) (s x : Operand) (ty : TypeId)
    (ho : o.op = .call { callee := .builtin .append, args := #[s, x], argTypes := #[ty, ty] }) (E : TypeId) (i : TypeInfo) (z : Value) (ht : P.underlying ty = some (.slice E)) (hi : P.info? E = some i) (hz : i.zero = some z)
    (hsize : i.size = 6) (hby : i.bytes = 96) (hzs : z.cells.size = 6) (base : Nat) (S : Nat → Prop) (v : Value) (ps : List PR) (hs : a.eval s = v) (hown : OwnP W base E S v ps)
    (r : PR) (A1 : Option Addr) (c1 : Nat) (A2 : Option Addr) (c2 : Nat) (H : Nat) (hH : W.heap.size = H) (hx : a.eval x = .slice (some ⟨H, 0, none⟩) 1 1) (hr : PrR W (fun b => S b ∧ some b ≠ v.ownBlock) r A1 c1 A2 c2) (hlen : ps.length + 1 ≤ 1000) (hbase : base ≤ W.heap.size)
    (h : ∀ v' w', OwnP w' base E S v' (ps ++ [r]) → W.grownBy w' v.ownBlock → (v'.ownBlock = v.ownBlock ∨ ∃ g, v'.ownBlock = some g ∧ W.heap.size ≤ g) → wpList P ops Q rest (a.put o.dst v') w') :
    wpList P ops Q (o :: rest) a (W.alloc (.cells #[.string r.s, .slice A1 r.ps.length c1, .int .u8 r.b.k, .int .i64 r.b.n, .string r.b.s, .slice A2 r.b.ks.length c2] E)) := by
  subst hH
  obtain ⟨xs, hrow, _, hns⟩ := hown
  refine wpList_append_own_at (P := P) _ hgd s x ty ho base E i z 6 96 ht hi hz hsize hby hzs (by decide) v ps.length xs hs (hrow.alloc _) ⟨W.heap.size, 0, none⟩ 1 1 [.string r.s, .slice A1 r.ps.length c1, .int .u8 r.b.k, .int .i64 r.b.n, .string r.b.s, .slice A2 r.b.ks.length c2] hx (by simp)
    (news_newN W E _) (by intro u hu; simp at hu; rcases hu with rfl | rfl | rfl | rfl | rfl | rfl <;> rfl) (by unfold maxLen; omega) (by omega) (by simp; omega) ?_
  intro v' w' h2 h3 _ h5
  refine h v' w' (own_pushP hrow hns hr hlen h2 h3 h5) ⟨h3.os, h3.tape, h3.output, Nat.le_trans (by simp) h3.size, fun b hb hne => ?_⟩ ?_
  · rw [h3.block b (by simp; omega) hne]; exact Below.heap_alloc W _ b hb
  · rcases h5 with h5 | h5
    · exact .inl h5
    · exact .inr ⟨_, h5, by simp⟩

end Go.Proofs.Ytekjfbnggfbfhaa

/-
  A program that is being built lies in a box of its own. No program stands here.
-/
namespace Go.Proofs.Ytekjfbnggfbfhaa
open Go.RowKit

abbrev ZP : Array Value := #[.slice none 0 0, .slice none 0 0, .int .u8 0, .int .i64 0, .string ⟨#[]⟩, .slice none 0 0]

theorem below_set6 {B : Nat} {a w : World} {g : Nat} (h : Below B a w) (hg : B ≤ g) (u0 u1 u2 u3 u4 u5 : Value) : Below B a ((((((w.setCell ⟨g, 0, none⟩ u0).setCell ⟨g, 1, none⟩ u1).setCell ⟨g, 2, none⟩ u2).setCell ⟨g, 3, none⟩ u3).setCell ⟨g, 4, none⟩ u4).setCell ⟨g, 5, none⟩ u5) :=
  (((((h.setCell (by simpa using hg) _).setCell (by simpa using hg) _).setCell (by simpa using hg) _).setCell (by simpa using hg) _).setCell (by simpa using hg) _).setCell (by simpa using hg) _

/-- Box g holds the new program (variables at A1, procedures v, main block m); ob: the argument's box; below: as w was, with the argument's box and the result's. -/
structure PI (w wx : World) (EG ER : TypeId) (ob : Obj) (S : Nat → Prop) (g : Nat) (A1 : Option Addr) (l1 c1 : Nat) (k n : Int) (s : ByteArray) (A3 : Option Addr) (l3 c3 : Nat) (v : Value) (vs : List VD) (m : T) (ps : List PR) : Prop where
  low : Below (w.heap.size + 2) ((w.alloc ob).alloc (.cells ZP EG)) wx
  ge : w.heap.size + 2 ≤ g
  box : wx.heap[g]? = some (.cells #[.slice A1 l1 c1, v, .int .u8 k, .int .i64 n, .string s, .slice A3 l3 c3] EG (0, 0))
  own : OwnP wx (w.heap.size + 2) ER S v ps
  ne : v.ownBlock ≠ some g
  vars : RowV wx (fun b => S b ∧ some b ≠ v.ownBlock) A1 vs
  main : NV wx (fun b => S b ∧ some b ≠ v.ownBlock) m (nv k n s A3 l3 c3)
  far : ∀ b, S b → b < w.heap.size ∨ (w.heap.size + 2 ≤ b ∧ b ≠ g)

section
variable {w wx w' : World} {EG ER : TypeId} {ob : Obj} {S : Nat → Prop} {g : Nat} {A1 : Option Addr} {l1 c1 : Nat} {k n : Int} {s : ByteArray} {A3 : Option Addr} {l3 c3 : Nat} {v v' : Value} {vs : List VD} {m : T} {ps ps' : List PR}

theorem PI.size (h : PI w wx EG ER ob S g A1 l1 c1 k n s A3 l3 c3 v vs m ps) : w.heap.size + 2 ≤ wx.heap.size := by have := h.low.size; simpa using this
theorem PI.below (h : PI w wx EG ER ob S g A1 l1 c1 k n s A3 l3 c3 v vs m ps) : Below w.heap.size w wx := (((Below.refl _ _).alloc (Nat.le_refl _) _).alloc (by simp) _).trans (h.low.mono (by omega))
theorem PI.later (h : PI w wx EG ER ob S g A1 l1 c1 k n s A3 l3 c3 v vs m ps) (hb : Below wx.heap.size wx w') : PI w w' EG ER ob S g A1 l1 c1 k n s A3 l3 c3 v vs m ps :=
  ⟨h.low.trans (hb.mono (by simpa using h.size)), h.ge, (hb.block _ (blk_lt h.box)).trans h.box, h.own.later hb, h.ne, h.vars.later hb, h.main.later hb, h.far⟩
theorem PI.res (h : PI w wx EG ER ob S g A1 l1 c1 k n s A3 l3 c3 v vs m ps) : wx.heap[w.heap.size + 1]? = some (.cells ZP EG (0, 0)) := by
  rw [h.low.block _ (by omega)]
  have := heap_alloc_new (w.alloc ob) (.cells ZP EG)
  simpa using this
theorem PI.arg {cs : Array Value} (h : PI w wx EG ER (.cells cs EG) S g A1 l1 c1 k n s A3 l3 c3 v vs m ps) : wx.heap[w.heap.size]? = some (.cells cs EG (0, 0)) := by
  rw [h.low.block _ (by omega), Below.heap_alloc _ _ _ (by simp)]; exact heap_alloc_new w _
/-- The procedures' slice is set. -/
theorem PI.put (h : PI w wx EG ER ob S g A1 l1 c1 k n s A3 l3 c3 v vs m ps) (ho : OwnP w' (w.heap.size + 2) ER S v' ps') (hg : wx.grownBy w' v.ownBlock) (hne : v'.ownBlock ≠ some g) (hob : v'.ownBlock = v.ownBlock ∨ ∃ b, v'.ownBlock = some b ∧ wx.heap.size ≤ b) :
    PI w (w'.setCell ⟨g, 1, none⟩ v') EG ER ob S g A1 l1 c1 k n s A3 l3 c3 v' vs m ps' := by
  have hrow : ∀ b, v.ownBlock = some b → w.heap.size + 2 ≤ b := fun b e => (h.own.block b e).1
  have hbx : w'.heap[g]? = some (.cells #[.slice A1 l1 c1, v, .int .u8 k, .int .i64 n, .string s, .slice A3 l3 c3] EG (0, 0)) := (hg.block _ (blk_lt h.box) (fun e => h.ne e.symm)).trans h.box
  have hS : ∀ b, S b ∧ some b ≠ v.ownBlock → b < wx.heap.size → S b ∧ some b ≠ v'.ownBlock := fun b hb hlt => ⟨hb.1, fun e => by
    rcases hob with h1 | ⟨b', h1, h2⟩
    · rw [h1] at e; exact hb.2 e
    · rw [h1] at e; injection e with e; omega⟩
  have hK : ∀ b, S b ∧ some b ≠ v.ownBlock → b < wx.heap.size → (w'.setCell ⟨g, 1, none⟩ v').heap[b]? = wx.heap[b]? := fun b hb hlt => by
    have hbg : b ≠ g := by have h1 := h.far b hb.1; have h2 := h.ge; omega
    rw [Below.heap_setCell _ _ _ _ (by simpa using hbg)]
    exact hg.block b hlt hb.2
  refine ⟨(h.low.grown hg (by have := h.size; omega) (fun b e => by have := hrow b e; omega)).setCell (by simpa using h.ge) _, h.ge, ?_, ho.grown (row := some g) (only_set (only_refl _ _) rfl _) (fun b e => ?_), hne, h.vars.keep hS hK, h.main.keep hS hK, h.far⟩
  · have := heap_setCell_same w' g 1 _ EG v' hbx
    simpa using this
  · injection e with e
    subst e
    refine ⟨fun hh => ?_, hne⟩
    have h1 := h.far _ hh
    have h2 := h.ge
    omega
/-- What is handed back. -/
theorem PI.result (h : PI w wx EG ER ob S g A1 l1 c1 k n s A3 l3 c3 v vs m ps) {A2 : Option Addr} {l2 c2 : Nat} (hv : v = .slice A2 l2 c2) (hl1 : l1 = vs.length) (hlv : vs.length ≤ LV) (hlc : vs.length ≤ c1) (S' : Nat → Prop) (hS : ∀ b, S b → S' b) (hS2 : ∀ b, w.heap.size + 2 ≤ b → S' b) :
    PV ((((((wx.setCell ⟨w.heap.size + 1, 0, none⟩ (.slice A1 l1 c1)).setCell ⟨w.heap.size + 1, 1, none⟩ (.slice A2 l2 c2)).setCell ⟨w.heap.size + 1, 2, none⟩ (.int .u8 k)).setCell ⟨w.heap.size + 1, 3, none⟩ (.int .i64 n)).setCell ⟨w.heap.size + 1, 4, none⟩ (.string s)).setCell ⟨w.heap.size + 1, 5, none⟩ (.slice A3 l3 c3)) S' ⟨vs, ps, m⟩ (pv A1 l1 c1 A2 l2 c2 k n s A3 l3 c3) ∧ Below w.heap.size w ((((((wx.setCell ⟨w.heap.size + 1, 0, none⟩ (.slice A1 l1 c1)).setCell ⟨w.heap.size + 1, 1, none⟩ (.slice A2 l2 c2)).setCell ⟨w.heap.size + 1, 2, none⟩ (.int .u8 k)).setCell ⟨w.heap.size + 1, 3, none⟩ (.int .i64 n)).setCell ⟨w.heap.size + 1, 4, none⟩ (.string s)).setCell ⟨w.heap.size + 1, 5, none⟩ (.slice A3 l3 c3)) := by
  obtain ⟨A2', c2', e, hc, hr⟩ := h.own.row
  rw [hv] at e
  injection e with e1 e2 e3
  subst e1 e3
  have hkb : ∀ b, b < w.heap.size ∨ w.heap.size + 2 ≤ b → ((((((wx.setCell ⟨w.heap.size + 1, 0, none⟩ (.slice A1 l1 c1)).setCell ⟨w.heap.size + 1, 1, none⟩ (.slice A2 l2 c2)).setCell ⟨w.heap.size + 1, 2, none⟩ (.int .u8 k)).setCell ⟨w.heap.size + 1, 3, none⟩ (.int .i64 n)).setCell ⟨w.heap.size + 1, 4, none⟩ (.string s)).setCell ⟨w.heap.size + 1, 5, none⟩ (.slice A3 l3 c3)).heap[b]? = wx.heap[b]? := fun b hb => by
    rw [Below.heap_setCell _ _ _ _ (by simp; omega), Below.heap_setCell _ _ _ _ (by simp; omega), Below.heap_setCell _ _ _ _ (by simp; omega), Below.heap_setCell _ _ _ _ (by simp; omega), Below.heap_setCell _ _ _ _ (by simp; omega), Below.heap_setCell _ _ _ _ (by simp; omega)]
  have hfar : ∀ b, S b → b < w.heap.size ∨ w.heap.size + 2 ≤ b := fun b hb => by have := h.far b hb; omega
  refine ⟨?_, (((((h.below.setCell (by simp) _).setCell (by simp) _).setCell (by simp) _).setCell (by simp) _).setCell (by simp) _).setCell (by simp) _⟩
  have hm := h.main.keep (S' := S') (fun b hb _ => hS b hb.1) (fun b hb _ => hkb b (hfar b hb.1))
  obtain ⟨A4, c4, e4, _⟩ := hm.open_
  simp only [nv, Value.agg.injEq, Array.mk.injEq, List.cons.injEq, Value.int.injEq, Value.string.injEq, Value.slice.injEq, true_and, and_true] at e4
  obtain ⟨rfl, rfl, rfl, rfl, rfl, rfl⟩ := e4
  subst hl1
  refine ⟨A1, c1, A2, c2, A3, c3, by rw [e2], h.vars.keep (fun b hb _ => hS b hb.1) (fun b hb _ => hkb b (hfar b hb.1)), hlv, hlc, hr.keep (fun b hb _ => ?_) (fun b hb _ => hkb b ?_), by have := h.own.len; unfold LV; simp only; omega, hc, hm⟩
  · rcases hb with hb | hb
    · exact hS b hb
    · exact hS2 b (h.own.block b hb).1
  · rcases hb with hb | hb
    · exact hfar b hb
    · exact .inr (h.own.block b hb).1
/-- The box is laid last, filled. -/
theorem PI.start_last {S0 : Nat → Prop} {W1 : World} (hW : (w.alloc ob).alloc (.cells ZP EG) = W1) (hb : Below W1.heap.size W1 wx) (hS0 : ∀ b, S0 b → b < w.heap.size) (hvs : RowV wx S0 A1 vs) (hm : NV wx (fun b => S0 b ∨ W1.heap.size ≤ b) m (nv k n s A3 l3 c3)) :
    PI w (wx.alloc (.cells #[.slice A1 l1 c1, .slice none 0 0, .int .u8 k, .int .i64 n, .string s, .slice A3 l3 c3] EG)) EG ER ob (fun b => S0 b ∨ (w.heap.size + 2 ≤ b ∧ b ≠ wx.heap.size)) wx.heap.size A1 l1 c1 k n s A3 l3 c3 (.slice none 0 0) vs m [] := by
  subst hW
  have hz : w.heap.size + 2 ≤ wx.heap.size := by have := hb.size; simpa using this
  have ha := (Below.refl wx.heap.size wx).alloc (Nat.le_refl _) (.cells #[.slice A1 l1 c1, .slice none 0 0, .int .u8 k, .int .i64 n, .string s, .slice A3 l3 c3] EG)
  refine ⟨(hb.mono (by simp)).trans (ha.mono (by simpa using hz)), hz, heap_alloc_new wx _, OwnP.nil _ _ _ _, by simp [Value.ownBlock], hvs.keep (fun b hb _ => ⟨.inl hb, by simp [Value.ownBlock]⟩) (fun b _ hlt => ha.block b hlt), hm.keep (fun b hb hlt => ⟨?_, by simp [Value.ownBlock]⟩) (fun b _ hlt => ha.block b hlt), fun b hb => ?_⟩
  · rcases hb with hb | hb
    · exact .inl hb
    · exact .inr ⟨by simpa using hb, by omega⟩
  · rcases hb with hb | hb
    · exact .inl (hS0 b hb)
    · exact .inr hb
/-- The box was laid before the call; it is filled behind it. -/
theorem PI.start_first {S0 : Nat → Prop} {W1 : World} (hW : (w.alloc ob).alloc (.cells ZP EG) = W1) (hg : g = W1.heap.size) (hb : Below (W1.heap.size + 1) (W1.alloc (.cells ZP EG)) wx) (hS0 : ∀ b, S0 b → b < w.heap.size) (hvs : RowV wx S0 A1 vs) (hm : NV wx (fun b => S0 b ∨ W1.heap.size + 1 ≤ b) m (nv k n s A3 l3 c3)) :
    PI w ((((((wx.setCell ⟨g, 0, none⟩ (.slice A1 l1 c1)).setCell ⟨g, 1, none⟩ (.slice none 0 0)).setCell ⟨g, 2, none⟩ (.int .u8 k)).setCell ⟨g, 3, none⟩ (.int .i64 n)).setCell ⟨g, 4, none⟩ (.string s)).setCell ⟨g, 5, none⟩ (.slice A3 l3 c3)) EG ER ob (fun b => S0 b ∨ (w.heap.size + 2 ≤ b ∧ b ≠ g)) g A1 l1 c1 k n s A3 l3 c3 (.slice none 0 0) vs m [] := by
  subst hW
  have hg' : g = w.heap.size + 2 := by rw [hg]; simp
  have hbx : wx.heap[g]? = some (.cells ZP EG (0, 0)) := by
    rw [hb.block g (by rw [hg]; omega), hg]
    exact heap_alloc_new _ _
  have hlow : Below (w.heap.size + 2) ((w.alloc ob).alloc (.cells ZP EG)) wx := ((Below.refl _ _).alloc (by simp) _).trans (hb.mono (by simp))
  have hkb : ∀ b, b ≠ g → ((((((wx.setCell ⟨g, 0, none⟩ (.slice A1 l1 c1)).setCell ⟨g, 1, none⟩ (.slice none 0 0)).setCell ⟨g, 2, none⟩ (.int .u8 k)).setCell ⟨g, 3, none⟩ (.int .i64 n)).setCell ⟨g, 4, none⟩ (.string s)).setCell ⟨g, 5, none⟩ (.slice A3 l3 c3)).heap[b]? = wx.heap[b]? := fun b hb => by
    rw [Below.heap_setCell _ _ _ _ (by simpa using hb), Below.heap_setCell _ _ _ _ (by simpa using hb), Below.heap_setCell _ _ _ _ (by simpa using hb), Below.heap_setCell _ _ _ _ (by simpa using hb), Below.heap_setCell _ _ _ _ (by simpa using hb), Below.heap_setCell _ _ _ _ (by simpa using hb)]
  have hge : w.heap.size + 2 ≤ g := by omega
  refine ⟨(((((hlow.setCell (by simpa using hge) _).setCell (by simpa using hge) _).setCell (by simpa using hge) _).setCell (by simpa using hge) _).setCell (by simpa using hge) _).setCell (by simpa using hge) _, hge, ?_, OwnP.nil _ _ _ _, by simp [Value.ownBlock],
    hvs.keep (fun b hb _ => ⟨.inl hb, by simp [Value.ownBlock]⟩) (fun b hb _ => hkb b (by have := hS0 b hb; omega)), hm.keep (fun b hb _ => ⟨?_, by simp [Value.ownBlock]⟩) (fun b hb _ => hkb b ?_), fun b hb => ?_⟩
  · have h0 := heap_setCell_same wx g 0 _ EG (.slice A1 l1 c1) hbx
    have h1 := heap_setCell_same _ g 1 _ EG (.slice none 0 0) h0
    have h2 := heap_setCell_same _ g 2 _ EG (.int .u8 k) h1
    have h3 := heap_setCell_same _ g 3 _ EG (.int .i64 n) h2
    have h4 := heap_setCell_same _ g 4 _ EG (.string s) h3
    have h5 := heap_setCell_same _ g 5 _ EG (.slice A3 l3 c3) h4
    simpa using h5
  · rcases hb with hb | hb
    · exact .inl hb
    · simp at hb
      exact .inr ⟨by omega, by omega⟩
  · rcases hb with hb | hb
    · have := hS0 b hb; omega
    · simp at hb; omega
  · rcases hb with hb | hb
    · exact .inl (hS0 b hb)
    · exact .inr hb
end

end Go.Proofs.Ytekjfbnggfbfhaa

/-
  Boxes that a call lays, carried from world to world. No program stands here.
-/
namespace Go.Proofs.Ytekjfbnggfbfhaa
open Go.RowKit

section
variable {w w' : World} {b : Nat} {E : TypeId} {u0 u1 u2 u3 u4 u5 : Value}
theorem box4 (h : w.heap[b]? = some (.cells #[u0, u1, u2, u3] E (0, 0))) : w.cell? ⟨b, 0, none⟩ = some u0 ∧ w.cell? ⟨b, 1, none⟩ = some u1 ∧ w.cell? ⟨b, 2, none⟩ = some u2 ∧ w.cell? ⟨b, 3, none⟩ = some u3 :=
  ⟨cell_of_blk h rfl, cell_of_blk h rfl, cell_of_blk h rfl, cell_of_blk h rfl⟩
theorem box6 (h : w.heap[b]? = some (.cells #[u0, u1, u2, u3, u4, u5] E (0, 0))) : w.cell? ⟨b, 0, none⟩ = some u0 ∧ w.cell? ⟨b, 1, none⟩ = some u1 ∧ w.cell? ⟨b, 2, none⟩ = some u2 ∧ w.cell? ⟨b, 3, none⟩ = some u3 ∧ w.cell? ⟨b, 4, none⟩ = some u4 ∧ w.cell? ⟨b, 5, none⟩ = some u5 :=
  ⟨cell_of_blk h rfl, cell_of_blk h rfl, cell_of_blk h rfl, cell_of_blk h rfl, cell_of_blk h rfl, cell_of_blk h rfl⟩
theorem blk_bl {o : Obj} (h : w.heap[b]? = some o) (hb : Below w.heap.size w w') : w'.heap[b]? = some o := (hb.block _ (blk_lt h)).trans h
theorem blk_al {o : Obj} (h : w.heap[b]? = some o) (o' : Obj) : (w.alloc o').heap[b]? = some o := (Below.heap_alloc w o' b (blk_lt h)).trans h
/-- One more frame. -/
theorem bl_tr {B : Nat} {w0 : World} (h : Below B w0 w) (hb : Below w.heap.size w w') (hB : B ≤ w.heap.size) : Below B w0 w' := h.trans (hb.mono hB)
theorem bl_al {w0 : World} (h : Below w0.heap.size w0 w) (o : Obj) : Below w0.heap.size w0 (w.alloc o) := h.alloc h.size o
theorem bl_dr {w0 : World} (h : Below w0.heap.size w0 w) : Below w0.heap.size w0 w.drew := h.drew
theorem bl_tt {w0 : World} (h : Below w0.heap.size w0 w) (hb : Below w.heap.size w w') : Below w0.heap.size w0 w' := h.trans (hb.mono h.size)
end

end Go.Proofs.Ytekjfbnggfbfhaa
