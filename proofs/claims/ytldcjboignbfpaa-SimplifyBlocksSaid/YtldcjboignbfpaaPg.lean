/-
  Plain programs (declarations, procedures), and what it means that Go values read as them. No program stands here.
-/
import Derived.Test.YtldcjboignbfpaaOwn
namespace Go.Proofs.Ytldcjboignbfpaa
open Go.RowKit

/-- A declaration: name, kind, length. -/
structure VD where
  s : ByteArray
  k : Int
  n : Int
/-- A procedure: name, parameters, body. -/
structure PR where
  s : ByteArray
  ps : List VD
  b : T
/-- A program: variables, procedures, main block. -/
structure PG where
  vs : List VD
  prs : List PR
  m : T

/-- What a declaration's fields are bound by. -/
def FldV (v : VD) : Prop := v.s.size ≤ maxLen ∧ (0 ≤ v.k ∧ v.k < 256) ∧ (-9223372036854775808 ≤ v.n ∧ v.n ≤ 9223372036854775807)
/-- The three cells of a declaration at address p. -/
abbrev Vd3 (w : World) (p : Addr) (v : VD) : Prop := w.cell? p = some (.string v.s) ∧ w.cell? ⟨p.block, p.off + 1, none⟩ = some (.int .u8 v.k) ∧ w.cell? ⟨p.block, p.off + 2, none⟩ = some (.int .i64 v.n)
/-- The greatest number of declarations (32 bytes each) or procedures (96 bytes each): 2^47 bytes together. -/
def LV : Nat := 4398046511104
theorem LV_int {n : Nat} (h : n ≤ LV) : n ≤ 4398046511104 := h

/-- The slice address A leads to the declarations vs. -/
def RowV (w : World) (S : Nat → Prop) (A : Option Addr) (vs : List VD) : Prop :=
  ∀ i (hi : i < vs.length), ∃ a : Addr, A = some a ∧ S a.block ∧ Vd3 w (a.add (i * 3)) vs[i] ∧ FldV vs[i]

/-- The six cells of a procedure at address p. -/
abbrev Pr6 (w : World) (p : Addr) (r : PR) (A1 : Option Addr) (c1 : Nat) (A2 : Option Addr) (c2 : Nat) : Prop :=
  w.cell? p = some (.string r.s) ∧ w.cell? ⟨p.block, p.off + 1, none⟩ = some (.slice A1 r.ps.length c1) ∧ w.cell? ⟨p.block, p.off + 2, none⟩ = some (.int .u8 r.b.k) ∧ w.cell? ⟨p.block, p.off + 3, none⟩ = some (.int .i64 r.b.n) ∧
    w.cell? ⟨p.block, p.off + 4, none⟩ = some (.string r.b.s) ∧ w.cell? ⟨p.block, p.off + 5, none⟩ = some (.slice A2 r.b.ks.length c2)
/-- What the parts of a procedure lead to. -/
structure PrR (w : World) (S : Nat → Prop) (r : PR) (A1 : Option Addr) (c1 : Nat) (A2 : Option Addr) (c2 : Nat) : Prop where
  name : r.s.size ≤ maxLen
  row : RowV w S A1 r.ps
  lp : r.ps.length ≤ LV
  lc : r.ps.length ≤ c1
  body : NV w S r.b (nv r.b.k r.b.n r.b.s A2 r.b.ks.length c2)

/-- The slice address A leads to the procedures ps. -/
def RowP (w : World) (S : Nat → Prop) (A : Option Addr) (ps : List PR) : Prop :=
  ∀ i (hi : i < ps.length), ∃ (a : Addr) (A1 : Option Addr) (c1 : Nat) (A2 : Option Addr) (c2 : Nat), A = some a ∧ S a.block ∧ Pr6 w (a.add (i * 6)) ps[i] A1 c1 A2 c2 ∧ PrR w S ps[i] A1 c1 A2 c2

/-- The value of a program. -/
abbrev pv (A1 : Option Addr) (l1 c1 : Nat) (A2 : Option Addr) (l2 c2 : Nat) (k n : Int) (s : ByteArray) (A3 : Option Addr) (l3 c3 : Nat) : Value :=
  .agg #[.slice A1 l1 c1, .slice A2 l2 c2, .int .u8 k, .int .i64 n, .string s, .slice A3 l3 c3]
/-- What the parts of a program lead to. -/
structure PgR (w : World) (S : Nat → Prop) (p : PG) (A1 : Option Addr) (c1 : Nat) (A2 : Option Addr) (c2 : Nat) (A3 : Option Addr) (c3 : Nat) : Prop where
  vars : RowV w S A1 p.vs
  lv : p.vs.length ≤ LV
  lvc : p.vs.length ≤ c1
  procs : RowP w S A2 p.prs
  lp : p.prs.length ≤ LV
  lpc : p.prs.length ≤ c2
  main : NV w S p.m (nv p.m.k p.m.n p.m.s A3 p.m.ks.length c3)
/-- Value v reads as the program p. -/
def PV (w : World) (S : Nat → Prop) (p : PG) (v : Value) : Prop :=
  ∃ A1 c1 A2 c2 A3 c3, v = pv A1 p.vs.length c1 A2 p.prs.length c2 p.m.k p.m.n p.m.s A3 p.m.ks.length c3 ∧ PgR w S p A1 c1 A2 c2 A3 c3

section
variable {w w' : World} {S S' : Nat → Prop} {A : Option Addr}

theorem cell_kp {p : Addr} {u : Value} (h : w.cell? p = some u) (hk : w'.heap[p.block]? = w.heap[p.block]?) : w'.cell? p = some u := (World.cell?_of_block (a := p) hk).trans h

theorem RowV.keep {vs : List VD} (h : RowV w S A vs) (hS : ∀ b, S b → b < w.heap.size → S' b) (hk : ∀ b, S b → b < w.heap.size → w'.heap[b]? = w.heap[b]?) : RowV w' S' A vs := fun i hi => by
  obtain ⟨a, hA, hSa, ⟨h0, h1, h2⟩, hf⟩ := h i hi
  have hlt : a.block < w.heap.size := by have := World.block_lt_of_cell? w _ h0; rwa [block_add] at this
  have hb := hk _ hSa hlt
  refine ⟨a, hA, hS _ hSa hlt, ⟨cell_kp h0 ?_, cell_kp h1 ?_, cell_kp h2 ?_⟩, hf⟩ <;> simp only [block_add] <;> exact hb
theorem PrR.keep {r : PR} {A1 A2 : Option Addr} {c1 c2 : Nat} (h : PrR w S r A1 c1 A2 c2) (hS : ∀ b, S b → b < w.heap.size → S' b) (hk : ∀ b, S b → b < w.heap.size → w'.heap[b]? = w.heap[b]?) : PrR w' S' r A1 c1 A2 c2 :=
  ⟨h.name, h.row.keep hS hk, h.lp, h.lc, h.body.keep hS hk⟩
theorem RowP.keep {ps : List PR} (h : RowP w S A ps) (hS : ∀ b, S b → b < w.heap.size → S' b) (hk : ∀ b, S b → b < w.heap.size → w'.heap[b]? = w.heap[b]?) : RowP w' S' A ps := fun i hi => by
  obtain ⟨a, A1, c1, A2, c2, hA, hSa, ⟨h0, h1, h2, h3, h4, h5⟩, hr⟩ := h i hi
  have hlt : a.block < w.heap.size := by have := World.block_lt_of_cell? w _ h0; rwa [block_add] at this
  have hb := hk _ hSa hlt
  refine ⟨a, A1, c1, A2, c2, hA, hS _ hSa hlt, ⟨cell_kp h0 ?_, cell_kp h1 ?_, cell_kp h2 ?_, cell_kp h3 ?_, cell_kp h4 ?_, cell_kp h5 ?_⟩, hr.keep hS hk⟩ <;> simp only [block_add] <;> exact hb
theorem PgR.keep {p : PG} {A1 A2 A3 : Option Addr} {c1 c2 c3 : Nat} (h : PgR w S p A1 c1 A2 c2 A3 c3) (hS : ∀ b, S b → b < w.heap.size → S' b) (hk : ∀ b, S b → b < w.heap.size → w'.heap[b]? = w.heap[b]?) : PgR w' S' p A1 c1 A2 c2 A3 c3 :=
  ⟨h.vars.keep hS hk, h.lv, h.lvc, h.procs.keep hS hk, h.lp, h.lpc, h.main.keep hS hk⟩

theorem RowV.later {vs : List VD} (h : RowV w S A vs) (hb : Below w.heap.size w w') : RowV w' S A vs := h.keep (fun _ hb _ => hb) fun b _ hlt => hb.block b hlt
theorem RowV.mono {vs : List VD} (h : RowV w S A vs) (hS : ∀ b, S b → S' b) : RowV w S' A vs := h.keep (fun b hb _ => hS b hb) fun _ _ _ => rfl
theorem RowP.later {ps : List PR} (h : RowP w S A ps) (hb : Below w.heap.size w w') : RowP w' S A ps := h.keep (fun _ hb _ => hb) fun b _ hlt => hb.block b hlt
theorem RowP.mono {ps : List PR} (h : RowP w S A ps) (hS : ∀ b, S b → S' b) : RowP w S' A ps := h.keep (fun b hb _ => hS b hb) fun _ _ _ => rfl
theorem PrR.later {r : PR} {A1 A2 : Option Addr} {c1 c2 : Nat} (h : PrR w S r A1 c1 A2 c2) (hb : Below w.heap.size w w') : PrR w' S r A1 c1 A2 c2 := h.keep (fun _ hb _ => hb) fun b _ hlt => hb.block b hlt
theorem PgR.later {p : PG} {A1 A2 A3 : Option Addr} {c1 c2 c3 : Nat} (h : PgR w S p A1 c1 A2 c2 A3 c3) (hb : Below w.heap.size w w') : PgR w' S p A1 c1 A2 c2 A3 c3 := h.keep (fun _ hb _ => hb) fun b _ hlt => hb.block b hlt
theorem PgR.mono {p : PG} {A1 A2 A3 : Option Addr} {c1 c2 c3 : Nat} (h : PgR w S p A1 c1 A2 c2 A3 c3) (hS : ∀ b, S b → S' b) : PgR w S' p A1 c1 A2 c2 A3 c3 := h.keep (fun b hb _ => hS b hb) fun _ _ _ => rfl
theorem PV.later {p : PG} {v : Value} (h : PV w S p v) (hb : Below w.heap.size w w') : PV w' S p v := let ⟨A1, c1, A2, c2, A3, c3, e, h⟩ := h; ⟨A1, c1, A2, c2, A3, c3, e, h.later hb⟩
theorem PV.mono {p : PG} {v : Value} (h : PV w S p v) (hS : ∀ b, S b → S' b) : PV w S' p v := let ⟨A1, c1, A2, c2, A3, c3, e, h⟩ := h; ⟨A1, c1, A2, c2, A3, c3, e, h.mono hS⟩

/-- The i-th declaration of a row. -/
theorem RowV.nd {vs : List VD} (h : RowV w S A vs) {i : Nat} (hi : i < vs.length) : ∃ (a : Addr) (v : VD), A = some a ∧ S a.block ∧ Hid (vs[i] = v) ∧ Vd3 w (a.add (i * 3)) v ∧ FldV v :=
  let ⟨a, h1, h2, h3, h4⟩ := h i hi; ⟨a, vs[i], h1, h2, rfl, h3, h4⟩
/-- The i-th procedure of a row. -/
theorem RowP.nd {ps : List PR} (h : RowP w S A ps) {i : Nat} (hi : i < ps.length) : ∃ (a : Addr) (r : PR) (A1 : Option Addr) (c1 : Nat) (A2 : Option Addr) (c2 : Nat), A = some a ∧ S a.block ∧ Hid (ps[i] = r) ∧ Pr6 w (a.add (i * 6)) r A1 c1 A2 c2 ∧ PrR w S r A1 c1 A2 c2 :=
  let ⟨a, A1, c1, A2, c2, h1, h2, h3, h4⟩ := h i hi; ⟨a, ps[i], A1, c1, A2, c2, h1, h2, rfl, h3, h4⟩
end

end Go.Proofs.Ytldcjboignbfpaa
