/-
  Plain trees, and what it means that a Go value of type api.Node reads as a tree in a world. No program stands here.
-/
import Derived.WalkKit
import Derived.WalkSpells
import Derived.WalkLawsBesides
namespace Go.Proofs.Ytekjfbnggfbfhaa
open Go.RowKit

/-- A plain tree: kind, number, name, children. -/
inductive T where
  | nd (k n : Int) (s : ByteArray) (ks : List T)

namespace T
def k : T → Int | .nd k _ _ _ => k
def n : T → Int | .nd _ n _ _ => n
def s : T → ByteArray | .nd _ _ s _ => s
def ks : T → List T | .nd _ _ _ ks => ks
@[simp] theorem k_nd (k n : Int) (s : ByteArray) (ks : List T) : (T.nd k n s ks).k = k := rfl
@[simp] theorem n_nd (k n : Int) (s : ByteArray) (ks : List T) : (T.nd k n s ks).n = n := rfl
@[simp] theorem s_nd (k n : Int) (s : ByteArray) (ks : List T) : (T.nd k n s ks).s = s := rfl
@[simp] theorem ks_nd (k n : Int) (s : ByteArray) (ks : List T) : (T.nd k n s ks).ks = ks := rfl

theorem ind {p : T → Prop} (h : ∀ k n s ks, (∀ t ∈ ks, p t) → p (.nd k n s ks)) : ∀ t, p t
  | .nd k n s ks => h k n s ks fun t _ => ind h t
end T

theorem ba_beq (a b : ByteArray) : (a == b) = (a.toList == b.toList) := by
  rw [Go.ByteArray.toList_eq, Go.ByteArray.toList_eq]
  show ByteArray.beq a b = _
  unfold ByteArray.beq
  simp
theorem ba_inj {a b : ByteArray} (h : a.toList = b.toList) : a = b := by
  rw [Go.ByteArray.toList_eq, Go.ByteArray.toList_eq] at h
  exact ByteArray.ext (Array.ext' h)

/-- The greatest number of children that any slice of nodes holds here: 56 bytes each, 2^47 bytes together. -/
def LK : Nat := 2513169434916
theorem LK_bytes {n : Nat} (h : n ≤ LK) : n * 56 ≤ 140737488355328 := by unfold LK at h; omega
theorem LK_len {n : Nat} (h : n ≤ LK) : n ≤ maxLen := by unfold LK at h; unfold maxLen; omega
theorem LK_int {n : Nat} (h : n ≤ LK) : n ≤ 2513169434916 := h

/-- What a node's own fields are bound by. -/
def Fld (k n : Int) (s : ByteArray) : Prop := (0 ≤ k ∧ k < 256) ∧ (-9223372036854775808 ≤ n ∧ n ≤ 9223372036854775807) ∧ s.size ≤ maxLen

/-- The four cells of a node at address p. -/
structure Cell4 (w : World) (p : Addr) (u0 u1 u2 u3 : Value) : Prop where
  c0 : w.cell? p = some u0
  c1 : w.cell? ⟨p.block, p.off + 1, none⟩ = some u1
  c2 : w.cell? ⟨p.block, p.off + 2, none⟩ = some u2
  c3 : w.cell? ⟨p.block, p.off + 3, none⟩ = some u3

/-- The value of a node: the four fields in one aggregate. -/
abbrev nv (k n : Int) (s : ByteArray) (A : Option Addr) (l c : Nat) : Value := .agg #[.int .u8 k, .int .i64 n, .string s, .slice A l c]

/-- Value v reads as the tree t in w; every block that is read meets S. -/
inductive NV (w : World) (S : Nat → Prop) : T → Value → Prop
  | mk (k n : Int) (s : ByteArray) (ks : List T) (A : Option Addr) (c : Nat) (a : Addr) (U0 U1 U2 U3 : Nat → Value) (hf : Fld k n s) (hlk : ks.length ≤ LK) (hlc : ks.length ≤ c)
      (hA : 0 < ks.length → A = some a ∧ S a.block) (hc : ∀ i, i < ks.length → Cell4 w (a.add (i * 4)) (U0 i) (U1 i) (U2 i) (U3 i))
      (hk : ∀ i (hi : i < ks.length), NV w S ks[i] (.agg #[U0 i, U1 i, U2 i, U3 i])) : NV w S (.nd k n s ks) (nv k n s A ks.length c)

/-- The slice address A leads to the nodes ts. -/
def RowAt (w : World) (S : Nat → Prop) (A : Option Addr) (ts : List T) : Prop :=
  ∀ i (hi : i < ts.length), ∃ (a : Addr) (u0 u1 u2 u3 : Value), A = some a ∧ S a.block ∧ Cell4 w (a.add (i * 4)) u0 u1 u2 u3 ∧ NV w S ts[i] (.agg #[u0, u1, u2, u3])

theorem NV.open_ {w : World} {S : Nat → Prop} {t : T} {v : Value} (h : NV w S t v) :
    ∃ A c, v = nv t.k t.n t.s A t.ks.length c ∧ Fld t.k t.n t.s ∧ t.ks.length ≤ LK ∧ t.ks.length ≤ c ∧ RowAt w S A t.ks := by
  cases h with
  | mk k n s ks A c a U0 U1 U2 U3 hf hlk hlc hA hc hk =>
    refine ⟨A, c, rfl, hf, hlk, hlc, fun i hi => ?_⟩
    obtain ⟨h1, h2⟩ := hA (by simp at hi; omega)
    exact ⟨a, U0 i, U1 i, U2 i, U3 i, h1, h2, hc i hi, hk i hi⟩

/-- The i-th node of a row: its four cells written out. -/
theorem RowAt.get {w : World} {S : Nat → Prop} {A : Option Addr} {ts : List T} (h : RowAt w S A ts) {i : Nat} (hi : i < ts.length) :
    ∃ (a : Addr) (t : T) (A' : Option Addr) (c' : Nat), A = some a ∧ S a.block ∧ Hid (ts[i] = t) ∧ w.cell? (a.add (i * 4)) = some (.int .u8 t.k) ∧ w.cell? ⟨(a.add (i * 4)).block, (a.add (i * 4)).off + 1, none⟩ = some (.int .i64 t.n) ∧
      w.cell? ⟨(a.add (i * 4)).block, (a.add (i * 4)).off + 2, none⟩ = some (.string t.s) ∧ w.cell? ⟨(a.add (i * 4)).block, (a.add (i * 4)).off + 3, none⟩ = some (.slice A' t.ks.length c') ∧ NV w S t (nv t.k t.n t.s A' t.ks.length c') := by
  obtain ⟨a, u0, u1, u2, u3, hA, hS, hc, hn⟩ := h i hi
  obtain ⟨A', c', e, _⟩ := hn.open_
  injection e with e
  simp only [Array.mk.injEq, List.cons.injEq, and_true] at e
  obtain ⟨rfl, rfl, rfl, rfl⟩ := e
  exact ⟨a, ts[i], A', c', hA, hS, rfl, hc.c0, hc.c1, hc.c2, hc.c3, hn⟩

/-- The four cells of node t at address p, its children's slice at A with capacity c. -/
abbrev Nd4 (w : World) (p : Addr) (t : T) (A : Option Addr) (c : Nat) : Prop :=
  w.cell? p = some (.int .u8 t.k) ∧ w.cell? ⟨p.block, p.off + 1, none⟩ = some (.int .i64 t.n) ∧ w.cell? ⟨p.block, p.off + 2, none⟩ = some (.string t.s) ∧ w.cell? ⟨p.block, p.off + 3, none⟩ = some (.slice A t.ks.length c)

theorem cell_al {w : World} {p : Addr} {u : Value} (h : w.cell? p = some u) (o : Obj) : (w.alloc o).cell? p = some u := (World.cell?_alloc_lt w o p (World.block_lt_of_cell? w p h)).trans h
theorem cell_bl {w w' : World} {p : Addr} {u : Value} (hb : Below w.heap.size w w') (h : w.cell? p = some u) : w'.cell? p = some u := (hb.cell (World.block_lt_of_cell? w p h)).trans h
theorem Nd4_bl {w w' : World} {p : Addr} {t : T} {A : Option Addr} {c : Nat} (hb : Below w.heap.size w w') (h : Nd4 w p t A c) : Nd4 w' p t A c := ⟨cell_bl hb h.1, cell_bl hb h.2.1, cell_bl hb h.2.2.1, cell_bl hb h.2.2.2⟩

/-- The i-th node of a row. -/
theorem RowAt.nd {w : World} {S : Nat → Prop} {A : Option Addr} {ts : List T} (h : RowAt w S A ts) {i : Nat} (hi : i < ts.length) :
    ∃ (a : Addr) (t : T) (A' : Option Addr) (c' : Nat), A = some a ∧ S a.block ∧ Hid (ts[i] = t) ∧ Nd4 w (a.add (i * 4)) t A' c' ∧ NV w S t (nv t.k t.n t.s A' t.ks.length c') := by
  obtain ⟨a, t, A', c', h1, h2, h3, h4, h5, h6, h7, h8⟩ := h.get hi
  exact ⟨a, t, A', c', h1, h2, h3, ⟨h4, h5, h6, h7⟩, h8⟩

theorem choose4 {n : Nat} {p : Nat → Value → Value → Value → Value → Prop} (h : ∀ i, i < n → ∃ u0 u1 u2 u3, p i u0 u1 u2 u3) :
    ∃ U0 U1 U2 U3 : Nat → Value, ∀ i, i < n → p i (U0 i) (U1 i) (U2 i) (U3 i) := by
  classical
  refine ⟨fun i => if h' : i < n then (h i h').choose else .nilFunc, fun i => if h' : i < n then (h i h').choose_spec.choose else .nilFunc,
    fun i => if h' : i < n then (h i h').choose_spec.choose_spec.choose else .nilFunc, fun i => if h' : i < n then (h i h').choose_spec.choose_spec.choose_spec.choose else .nilFunc, fun i hi => ?_⟩
  simp only [hi, dif_pos]
  exact (h i hi).choose_spec.choose_spec.choose_spec.choose_spec

theorem NV.shut {w : World} {S : Nat → Prop} {k n : Int} {s : ByteArray} {ks : List T} {A : Option Addr} {c : Nat} (hf : Fld k n s) (hlk : ks.length ≤ LK) (hlc : ks.length ≤ c)
    (h : RowAt w S A ks) : NV w S (.nd k n s ks) (nv k n s A ks.length c) := by
  rcases Nat.eq_zero_or_pos ks.length with h0 | h0
  · exact .mk k n s ks A c default (fun _ => .nilFunc) (fun _ => .nilFunc) (fun _ => .nilFunc) (fun _ => .nilFunc) hf hlk hlc (fun h => absurd h (by omega)) (fun i hi => absurd hi (by omega)) (fun i hi => absurd hi (by omega))
  · obtain ⟨a, _, _, _, _, hA, hS, _⟩ := h 0 h0
    have h' : ∀ i, i < ks.length → ∃ u0 u1 u2 u3, Cell4 w (a.add (i * 4)) u0 u1 u2 u3 ∧ ∀ hi : i < ks.length, NV w S ks[i] (.agg #[u0, u1, u2, u3]) := by
      intro i hi
      obtain ⟨a', u0, u1, u2, u3, hA', _, hc, hk⟩ := h i hi
      rw [hA] at hA'
      injection hA' with e
      subst e
      exact ⟨u0, u1, u2, u3, hc, fun _ => hk⟩
    obtain ⟨U0, U1, U2, U3, hU⟩ := choose4 h'
    exact .mk k n s ks A c a U0 U1 U2 U3 hf hlk hlc (fun _ => ⟨hA, hS⟩) (fun i hi => (hU i hi).1) (fun i hi => (hU i hi).2 hi)

section
variable {w w' : World} {S S' : Nat → Prop} {t : T} {v : Value} {A : Option Addr} {ts : List T}

theorem Cell4.keep {p : Addr} {u0 u1 u2 u3 : Value} (h : Cell4 w p u0 u1 u2 u3) (hk : w'.heap[p.block]? = w.heap[p.block]?) : Cell4 w' p u0 u1 u2 u3 :=
  ⟨(World.cell?_of_block (a := p) hk).trans h.c0, (World.cell?_of_block (a := ⟨p.block, p.off + 1, none⟩) hk).trans h.c1, (World.cell?_of_block (a := ⟨p.block, p.off + 2, none⟩) hk).trans h.c2,
    (World.cell?_of_block (a := ⟨p.block, p.off + 3, none⟩) hk).trans h.c3⟩

theorem block_add (a : Addr) (n : Nat) : (a.add n).block = a.block := by unfold Addr.add; split <;> rfl

/-- A tree reads the same in every world in which its blocks are the same; more blocks may be let in. -/
theorem NV.keep (h : NV w S t v) (hS : ∀ b, S b → b < w.heap.size → S' b) (hk : ∀ b, S b → b < w.heap.size → w'.heap[b]? = w.heap[b]?) : NV w' S' t v := by
  induction h with
  | mk k n s ks A c a U0 U1 U2 U3 hf hlk hlc hA hc _ ih =>
    have hlt : ∀ i, i < ks.length → a.block < w.heap.size := fun i hi => by
      have := World.block_lt_of_cell? w _ (hc i hi).c0
      rwa [block_add] at this
    exact .mk k n s ks A c a U0 U1 U2 U3 hf hlk hlc (fun h => ⟨(hA h).1, hS _ (hA h).2 (hlt 0 h)⟩)
      (fun i hi => (hc i hi).keep (by rw [block_add]; exact hk _ (hA (by omega)).2 (hlt i hi))) ih

theorem RowAt.keep (h : RowAt w S A ts) (hS : ∀ b, S b → b < w.heap.size → S' b) (hk : ∀ b, S b → b < w.heap.size → w'.heap[b]? = w.heap[b]?) : RowAt w' S' A ts := by
  intro i hi
  obtain ⟨a, u0, u1, u2, u3, hA, hSa, hc, hn⟩ := h i hi
  have hlt : a.block < w.heap.size := by
    have := World.block_lt_of_cell? w _ hc.c0
    rwa [block_add] at this
  exact ⟨a, u0, u1, u2, u3, hA, hS _ hSa hlt, hc.keep (by rw [block_add]; exact hk _ hSa hlt), hn.keep hS hk⟩

/-- Anywhere. -/
abbrev Any : Nat → Prop := fun _ => True
/-- From block B on. -/
abbrev From (B : Nat) : Nat → Prop := fun b => B ≤ b

theorem NV.any (h : NV w S t v) : NV w Any t v := h.keep (fun _ _ _ => trivial) (fun _ _ _ => rfl)
theorem RowAt.any (h : RowAt w S A ts) : RowAt w Any A ts := h.keep (fun _ _ _ => trivial) (fun _ _ _ => rfl)
theorem NV.mono (h : NV w S t v) (hS : ∀ b, S b → S' b) : NV w S' t v := h.keep (fun b hb _ => hS b hb) (fun _ _ _ => rfl)
theorem NV.later (h : NV w S t v) (hb : Below w.heap.size w w') : NV w' S t v := h.keep (fun _ hb _ => hb) (fun b _ hlt => hb.block b hlt)
theorem RowAt.later (h : RowAt w S A ts) (hb : Below w.heap.size w w') : RowAt w' S A ts := h.keep (fun _ hb _ => hb) (fun b _ hlt => hb.block b hlt)
theorem RowAt.mono (h : RowAt w S A ts) (hS : ∀ b, S b → S' b) : RowAt w S' A ts := h.keep (fun b hb _ => hS b hb) (fun _ _ _ => rfl)
theorem RowAt.nil : RowAt w S A [] := fun i hi => absurd hi (by simp)
end

#print axioms NV.keep
end Go.Proofs.Ytekjfbnggfbfhaa
