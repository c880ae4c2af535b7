/-
  Rows of nodes that a call itself makes: what is appended, what is read, what is stored. No program stands here.
-/
import Derived.Test.YtekjfbnggfbfhaaTree
import Derived.Test.YtekjfbnggfbfhaaLaws
import Derived.Maps.AppendAt
namespace Go.Proofs.Ytekjfbnggfbfhaa
open Go.RowKit

/-- Slice value v owns a row (from block base on) of the nodes ts; what they lead to lies in blocks that meet S, and not in the row itself. -/
def OwnN (w : World) (base : Nat) (E : TypeId) (S : Nat → Prop) (v : Value) (ts : List T) : Prop :=
  ∃ xs, w.ownsRow base E 4 v ts.length xs ∧ ts.length ≤ LK ∧ ∀ i (hi : i < ts.length), ∃ u0 u1 u2 u3, xs[i * 4]? = some u0 ∧ xs[i * 4 + 1]? = some u1 ∧ xs[i * 4 + 2]? = some u2 ∧ xs[i * 4 + 3]? = some u3 ∧
    NV w (fun b => S b ∧ some b ≠ v.ownBlock) ts[i] (.agg #[u0, u1, u2, u3])

section
variable {w w' : World} {base : Nat} {E : TypeId} {S S' : Nat → Prop} {v : Value} {ts : List T}

theorem OwnN.nil (w : World) (base : Nat) (E : TypeId) (S : Nat → Prop) : OwnN w base E S (.slice none 0 0) [] := ⟨[], World.ownsRow_nil w base E 4, Nat.zero_le _, fun i hi => absurd hi (by simp)⟩

theorem OwnN.later (h : OwnN w base E S v ts) (hb : Below w.heap.size w w') : OwnN w' base E S v ts := by
  obtain ⟨xs, ho, hl, hn⟩ := h
  refine ⟨xs, ho.kept (row := none) ⟨hb.os, hb.tape, hb.output, hb.size, fun k hk _ => hb.block k hk⟩ (by cases v.ownBlock <;> simp), hl, fun i hi => ?_⟩
  obtain ⟨u0, u1, u2, u3, h0, h1, h2, h3, hv⟩ := hn i hi
  exact ⟨u0, u1, u2, u3, h0, h1, h2, h3, hv.later hb⟩

/-- Only other blocks have turned. -/
theorem OwnN.grown (h : OwnN w base E S v ts) {row : Option Nat} (hg : w.grownBy w' row) (hr : ∀ g, row = some g → ¬ S g ∧ v.ownBlock ≠ some g) : OwnN w' base E S v ts := by
  obtain ⟨xs, ho, hl, hn⟩ := h
  have hne : v.ownBlock = none ∨ v.ownBlock ≠ row := by
    cases row with
    | none => cases v.ownBlock <;> simp
    | some g => exact .inr (hr g rfl).2
  refine ⟨xs, ho.kept hg hne, hl, fun i hi => ?_⟩
  obtain ⟨u0, u1, u2, u3, h0, h1, h2, h3, hv⟩ := hn i hi
  refine ⟨u0, u1, u2, u3, h0, h1, h2, h3, hv.keep (fun b hb _ => hb) (fun b hb hlt => hg.block b hlt ?_)⟩
  intro e
  exact (hr b e.symm).1 hb.1

theorem OwnN.mono (h : OwnN w base E S v ts) (hS : ∀ b, S b → S' b) : OwnN w base E S' v ts := by
  obtain ⟨xs, ho, hl, hn⟩ := h
  refine ⟨xs, ho, hl, fun i hi => ?_⟩
  obtain ⟨u0, u1, u2, u3, h0, h1, h2, h3, hv⟩ := hn i hi
  exact ⟨u0, u1, u2, u3, h0, h1, h2, h3, hv.mono (fun b hb => ⟨hS b hb.1, hb.2⟩)⟩

theorem OwnN.lk (h : OwnN w base E S v ts) : ts.length ≤ LK := let ⟨_, _, hl, _⟩ := h; hl
theorem OwnN.block (h : OwnN w base E S v ts) : ∀ k, v.ownBlock = some k → base ≤ k ∧ k < w.heap.size := let ⟨_, ho, _, _⟩ := h; ho.lt

/-- The row read: a slice of nodes. -/
theorem OwnN.row (h : OwnN w base E S v ts) : ∃ A c, v = .slice A ts.length c ∧ ts.length ≤ c ∧ RowAt w (fun b => S b ∨ v.ownBlock = some b) A ts ∧ (∀ a, A = some a → ∃ g, a = ⟨g, 0, none⟩ ∧ base ≤ g ∧ g < w.heap.size ∧ v.ownBlock = some g) := by
  obtain ⟨xs, ho, hl, hn⟩ := h
  rcases ho.2 with ⟨rfl, h0⟩ | ⟨g, cap, cur, rfl, hb, hg, hc, hm, hz, hx⟩
  · exact ⟨none, 0, by rw [h0], by omega, fun i hi => absurd hi (by omega), fun a h => by cases h⟩
  · refine ⟨some ⟨g, 0, none⟩, cap, rfl, hc, fun i hi => ?_, fun a h => by injection h with h; exact ⟨g, h.symm, hb, (Array.getElem?_eq_some_iff.1 hg).1, rfl⟩⟩
    obtain ⟨u0, u1, u2, u3, h0, h1, h2, h3, hv⟩ := hn i hi
    have hcell : ∀ j u, j < 4 → xs[i * 4 + j]? = some u → w.cell? ⟨g, i * 4 + j, none⟩ = some u := by
      intro j u hj hu
      rw [ho.cellAt (i * 4 + j) (by omega)]; exact hu
    refine ⟨⟨g, 0, none⟩, u0, u1, u2, u3, rfl, .inr rfl, ?_, hv.mono fun b hb => .inl hb.1⟩
    have ha : (⟨g, 0, none⟩ : Addr).add (i * 4) = ⟨g, i * 4, none⟩ := by unfold Addr.add; split <;> simp_all
    rw [ha]
    exact ⟨hcell 0 u0 (by omega) h0, hcell 1 u1 (by omega) h1, hcell 2 u2 (by omega) h2, hcell 3 u3 (by omega) h3⟩
end

theorem oneCell_fields (k n : Int) (s : ByteArray) (A : Option Addr) (l c : Nat) : ∀ u ∈ [Value.int .u8 k, .int .i64 n, .string s, .slice A l c], u.oneCell' = true := by
  intro u hu
  simp at hu
  rcases hu with rfl | rfl | rfl | rfl <;> rfl

theorem news_new (W : World) (E : TypeId) (u0 u1 u2 u3 : Value) : ∀ j u, [u0, u1, u2, u3][j]? = some u → (W.alloc (.cells #[u0, u1, u2, u3] E)).cell? ((⟨W.heap.size, 0, none⟩ : Addr).add j) = some u := by
  intro j u hj
  have hh : (W.alloc (.cells #[u0, u1, u2, u3] E)).heap[W.heap.size]? = some (.cells #[u0, u1, u2, u3] E (0, 0)) := heap_alloc_new W _
  have ha : (⟨W.heap.size, 0, none⟩ : Addr).add j = ⟨W.heap.size, j, none⟩ := by unfold Addr.add; split <;> simp_all
  rw [ha]
  simp only [World.cell?, hh]
  simpa using hj

theorem news_newN (W : World) (E : TypeId) (l : List Value) : ∀ j u, l[j]? = some u → (W.alloc (.cells l.toArray E)).cell? ((⟨W.heap.size, 0, none⟩ : Addr).add j) = some u := by
  intro j u hj
  have hh : (W.alloc (.cells l.toArray E)).heap[W.heap.size]? = some (.cells l.toArray E (0, 0)) := heap_alloc_new W _
  have ha : (⟨W.heap.size, 0, none⟩ : Addr).add j = ⟨W.heap.size, j, none⟩ := by unfold Addr.add; split <;> simp_all
  rw [ha]
  simp only [World.cell?, hh]
  simpa using hj

/-- What one append of a node leaves. -/
theorem own_push {W w' : World} {base : Nat} {E : TypeId} {S : Nat → Prop} {v v' : Value} {ts : List T} {t : T} {u0 u1 u2 u3 : Value} {xs : List Value} {o : Obj}
    (ho : W.ownsRow base E 4 v ts.length xs) (hn : ∀ i (hi : i < ts.length), ∃ u0 u1 u2 u3, xs[i * 4]? = some u0 ∧ xs[i * 4 + 1]? = some u1 ∧ xs[i * 4 + 2]? = some u2 ∧ xs[i * 4 + 3]? = some u3 ∧ NV W (fun b => S b ∧ some b ≠ v.ownBlock) ts[i] (.agg #[u0, u1, u2, u3]))
    (ht : NV W (fun b => S b ∧ some b ≠ v.ownBlock) t (.agg #[u0, u1, u2, u3])) (hlen : ts.length + 1 ≤ LK)
    (h2 : w'.ownsRow base E 4 v' (ts.length + 1) (xs ++ [u0, u1, u2, u3])) (h3 : (W.alloc o).grownBy w' v.ownBlock) (h5 : v'.ownBlock = v.ownBlock ∨ v'.ownBlock = some (W.alloc o).heap.size) :
    OwnN w' base E S v' (ts ++ [t]) := by
  have hk : ∀ {t : T} {u : Value}, NV W (fun b => S b ∧ some b ≠ v.ownBlock) t u → NV w' (fun b => S b ∧ some b ≠ v'.ownBlock) t u := by
    intro t u h
    refine h.keep (fun b hb hlt => ⟨hb.1, ?_⟩) (fun b hb hlt => ?_)
    · rcases h5 with h5 | h5 <;> rw [h5]
      · exact hb.2
      · intro e; injection e with e; simp at e; omega
    · rw [h3.block b (by simp; omega) hb.2]; exact Below.heap_alloc W o b hlt
  refine ⟨xs ++ [u0, u1, u2, u3], by simpa using h2, by simpa using hlen, fun i hi => ?_⟩
  have hxl := ho.1
  by_cases h : i < ts.length
  · obtain ⟨y0, y1, y2, y3, e0, e1, e2, e3, hv⟩ := hn i h
    refine ⟨y0, y1, y2, y3, ?_, ?_, ?_, ?_, by rw [List.getElem_append_left h]; exact hk hv⟩ <;> rw [List.getElem?_append_left (by omega)] <;> assumption
  · have e : i = ts.length := by simp at hi; omega
    subst e
    refine ⟨u0, u1, u2, u3, ?_, ?_, ?_, ?_, ?_⟩
    · rw [List.getElem?_append_right (by omega)]; simp [hxl]
    · rw [List.getElem?_append_right (by omega)]; simp [hxl]
    · rw [List.getElem?_append_right (by omega)]; simp [hxl]
    · rw [List.getElem?_append_right (by omega)]; simp [hxl]
    · simpa using hk ht

/-- 'row = append(row, node)'. -/
theorem wpList_append_node {P : Program} {W : World} {ops : Array Oper} {rest : List Oper} {o : Oper} {a : Act} {Q : Exit → Act → World → Prop} (hgd : o.guard = none) (s x : Operand) (ty : TypeId)
    (ho : o.op = .call { callee := .builtin .append, args := #[s, x], argTypes := #[ty, ty] }) (E : TypeId) (i : TypeInfo) (z : Value) (ht : P.underlying ty = some (.slice E)) (hi : P.info? E = some i) (hz : i.zero = some z)
    (hsize : i.size = 4) (hby : i.bytes = 56) (hzs : z.cells.size = 4) (base : Nat) (S : Nat → Prop) (v : Value) (ts : List T) (hs : a.eval s = v) (hown : OwnN W base E S v ts)
    (t : T) (k n : Int) (nm : ByteArray) (A : Option Addr) (l c : Nat) (hx : a.eval x = .slice (some ⟨W.heap.size, 0, none⟩) 1 1) (hn : NV W (fun b => S b ∧ some b ≠ v.ownBlock) t (nv k n nm A l c)) (hlen : ts.length + 1 ≤ LK) (hbase : base ≤ W.heap.size)
    (h : ∀ v' w', OwnN w' base E S v' (ts ++ [t]) → W.grownBy w' v.ownBlock → (v'.ownBlock = v.ownBlock ∨ ∃ g, v'.ownBlock = some g ∧ W.heap.size ≤ g) → wpList P ops Q rest (a.put o.dst v') w') :
    wpList P ops Q (o :: rest) a (W.alloc (.cells #[.int .u8 k, .int .i64 n, .string nm, .slice A l c] E)) := by
  obtain ⟨xs, hrow, _, hns⟩ := hown
  refine wpList_append_own_at (P := P) _ hgd s x ty ho base E i z 4 56 ht hi hz hsize hby hzs (by decide) v ts.length xs hs (hrow.alloc _) ⟨W.heap.size, 0, none⟩ 1 1 [.int .u8 k, .int .i64 n, .string nm, .slice A l c] hx (by simp)
    (news_new W E _ _ _ _) (oneCell_fields k n nm A l c) (LK_len hlen) (LK_bytes hlen) (by simp; omega) ?_
  intro v' w' h2 h3 _ h5
  refine h v' w' (own_push hrow hns hn hlen h2 h3 h5) ⟨h3.os, h3.tape, h3.output, Nat.le_trans (by simp) h3.size, fun b hb hne => ?_⟩ ?_
  · rw [h3.block b (by simp; omega) hne]; exact Below.heap_alloc W _ b hb
  · rcases h5 with h5 | h5
    · exact .inl h5
    · exact .inr ⟨_, h5, by simp⟩

/-- The i-th node of a row that is the call's own. -/
theorem OwnN.nd {w : World} {base : Nat} {E : TypeId} {S : Nat → Prop} {g l cap : Nat} {ts : List T} (h : OwnN w base E S (.slice (some ⟨g, 0, none⟩) l cap) ts) {i : Nat} (hi : i < ts.length) :
    ∃ (t : T) (A' : Option Addr) (c' : Nat), Hid (ts[i] = t) ∧ w.cell? ⟨g, i * 4, none⟩ = some (.int .u8 t.k) ∧ w.cell? ⟨g, i * 4 + 1, none⟩ = some (.int .i64 t.n) ∧ w.cell? ⟨g, i * 4 + 2, none⟩ = some (.string t.s) ∧ w.cell? ⟨g, i * 4 + 3, none⟩ = some (.slice A' t.ks.length c') ∧
      NV w (fun b => S b ∧ some b ≠ some g) t (nv t.k t.n t.s A' t.ks.length c') := by
  obtain ⟨xs, ho, hl, hn⟩ := h
  have hll : ts.length = l := by
    rcases ho.2 with ⟨h, _⟩ | ⟨_, _, _, h, _⟩
    · cases h
    · injection h with _ h _; exact h.symm
  subst hll
  obtain ⟨u0, u1, u2, u3, h0, h1, h2, h3, hv⟩ := hn i hi
  obtain ⟨A', c', e, _⟩ := hv.open_
  injection e with e
  simp only [Array.mk.injEq, List.cons.injEq, and_true] at e
  obtain ⟨rfl, rfl, rfl, rfl⟩ := e
  refine ⟨ts[i], A', c', rfl, ?_, ?_, ?_, ?_, hv⟩
  · rw [ho.cellAt _ (by omega)]; exact h0
  · rw [ho.cellAt _ (by omega)]; exact h1
  · rw [ho.cellAt _ (by omega)]; exact h2
  · rw [ho.cellAt _ (by omega)]; exact h3

theorem OwnN.frozen {w : World} {base : Nat} {E : TypeId} {S : Nat → Prop} {g l cap : Nat} {ts : List T} (h : OwnN w base E S (.slice (some ⟨g, 0, none⟩) l cap) ts) (i : Nat) : w.frozen? ⟨g, i, none⟩ = false := by
  obtain ⟨xs, ho, _, _⟩ := h
  have hll : ts.length = l := by
    rcases ho.2 with ⟨h, _⟩ | ⟨_, _, _, h, _⟩
    · cases h
    · injection h with _ h _; exact h.symm
  subst hll
  exact ho.frozenAt i

theorem OwnN.len {w : World} {base : Nat} {E : TypeId} {S : Nat → Prop} {g l cap : Nat} {ts : List T} (h : OwnN w base E S (.slice (some ⟨g, 0, none⟩) l cap) ts) : ts.length = l ∧ l ≤ cap ∧ base ≤ g ∧ g < w.heap.size := by
  obtain ⟨xs, ho, _, _⟩ := h
  rcases ho.2 with ⟨h, _⟩ | ⟨g', cap', cur, h, hb, hg, hc, _⟩
  · cases h
  · injection h with h1 h2 h3
    injection h1 with h1
    injection h1 with h1
    subst h1
    exact ⟨h2.symm, by omega, hb, (Array.getElem?_eq_some_iff.1 hg).1⟩

/-- 'row[i] = node', cell by cell. -/
theorem OwnN.set4 {w : World} {base : Nat} {E : TypeId} {S : Nat → Prop} {g l cap : Nat} {ts : List T} (h : OwnN w base E S (.slice (some ⟨g, 0, none⟩) l cap) ts) {i : Nat} (hi : i < ts.length) {t : T} {k n : Int} {s : ByteArray} {A : Option Addr} {l' c' : Nat}
    (ht : NV w (fun b => S b ∧ some b ≠ some g) t (nv k n s A l' c')) :
    OwnN ((((w.setCell ⟨g, i * 4, none⟩ (.int .u8 k)).setCell ⟨g, i * 4 + 1, none⟩ (.int .i64 n)).setCell ⟨g, i * 4 + 2, none⟩ (.string s)).setCell ⟨g, i * 4 + 3, none⟩ (.slice A l' c')) base E S (.slice (some ⟨g, 0, none⟩) l cap) (ts.set i t) := by
  obtain ⟨xs, ho, hl, hn⟩ := h
  have hll : ts.length = l := by
    rcases ho.2 with ⟨h, _⟩ | ⟨_, _, _, h, _⟩
    · cases h
    · injection h with _ h _; exact h.symm
  subst hll
  have h1 := ((((ho.stored (i * 4) (.int .u8 k)).1.stored (i * 4 + 1) (.int .i64 n)).1.stored (i * 4 + 2) (.string s)).1.stored (i * 4 + 3) (.slice A l' c')).1
  have hk : ∀ {t : T} {u : Value}, NV w (fun b => S b ∧ some b ≠ some g) t u → NV ((((w.setCell ⟨g, i * 4, none⟩ (.int .u8 k)).setCell ⟨g, i * 4 + 1, none⟩ (.int .i64 n)).setCell ⟨g, i * 4 + 2, none⟩ (.string s)).setCell ⟨g, i * 4 + 3, none⟩ (.slice A l' c')) (fun b => S b ∧ some b ≠ some g) t u := by
    intro t u hv
    refine hv.keep (fun _ hb _ => hb) fun b hb _ => ?_
    have hne : b ≠ g := fun e => hb.2 (by rw [e])
    rw [Below.heap_setCell _ _ _ _ hne, Below.heap_setCell _ _ _ _ hne, Below.heap_setCell _ _ _ _ hne, Below.heap_setCell _ _ _ _ hne]
  have hxl := ho.1
  refine ⟨_, by simpa using h1, by simpa using hl, fun q hq => ?_⟩
  have hq' : q < ts.length := by simpa using hq
  by_cases e : q = i
  · subst e
    refine ⟨.int .u8 k, .int .i64 n, .string s, .slice A l' c', ?_, ?_, ?_, ?_, by rw [List.getElem_set_self]; exact hk ht⟩ <;> simp [List.getElem?_set] <;> omega
  · obtain ⟨u0, u1, u2, u3, g0, g1, g2, g3, hv⟩ := hn q hq'
    refine ⟨u0, u1, u2, u3, ?_, ?_, ?_, ?_, by rw [List.getElem_set_ne (by omega)]; exact hk hv⟩
    · rw [List.getElem?_set_ne (by omega), List.getElem?_set_ne (by omega), List.getElem?_set_ne (by omega), List.getElem?_set_ne (by omega)]; exact g0
    · rw [List.getElem?_set_ne (by omega), List.getElem?_set_ne (by omega), List.getElem?_set_ne (by omega), List.getElem?_set_ne (by omega)]; exact g1
    · rw [List.getElem?_set_ne (by omega), List.getElem?_set_ne (by omega), List.getElem?_set_ne (by omega), List.getElem?_set_ne (by omega)]; exact g2
    · rw [List.getElem?_set_ne (by omega), List.getElem?_set_ne (by omega), List.getElem?_set_ne (by omega), List.getElem?_set_ne (by omega)]; exact g3

/-- Only block g has turned: what a store into it leaves. -/
theorem only_set {a w : World} {g : Nat} (h : a.grownBy w (some g)) {p : Addr} (hp : p.block = g) (u : Value) : a.grownBy (w.setCell p u) (some g) :=
  ⟨h.os, h.tape, h.output, by simpa [World.setCell] using h.size, fun i hi hne => (Below.heap_setCell w p u i (by rintro rfl; exact hne (by rw [hp]))).trans (h.block i hi hne)⟩
theorem only_refl (w : World) (row : Option Nat) : w.grownBy w row := ⟨rfl, rfl, rfl, Nat.le_refl _, fun _ _ _ => rfl⟩
theorem only_draw {a w : World} {row : Option Nat} (h : a.grownBy w row) : a.grownBy w.drew row := ⟨h.os, h.tape, h.output, h.size, h.block⟩
theorem OwnN.drew {w : World} {base : Nat} {E : TypeId} {S : Nat → Prop} {v : Value} {ts : List T} (h : OwnN w base E S v ts) : OwnN w.drew base E S v ts := h.later (Below.refl _ _).drew

/-- 'make([]T, n, c)' of elements of several cells, for every world. -/
theorem run_make_rowN {P : Program} (t e : TypeId) (i : TypeInfo) (z : Value) (ht : P.underlying t = some (.slice e)) (hi : P.info? e = some i) (hz : i.zero = some z)
    (kl kc : IntKind) (n c : Nat) (hnc : n ≤ c) (hbytes : i.bytes * c ≤ 281474976710656) (h63 : c ≤ 9223372036854775807) (w : World) :
    (Instr.makeSlice t (.int kl (n : Int)) (.int kc (c : Int))).run P w = .ok (.slice (some ⟨w.heap.size, 0, none⟩) n c) (w.alloc (.cells (madeCells z.cells (c * i.size)) e)) := by
  have hb : (i.bytes : Int) * (c : Int) ≤ 281474976710656 := by
    have h : ((i.bytes * c : Nat) : Int) ≤ 281474976710656 := by omega
    rwa [Int.natCast_mul] at h
  have hr := run_make (P := P) w t e i z ht hi hz kl kc n c (by omega) (by omega) hb (by omega)
  simp only [Int.toNat_natCast] at hr
  exact hr

/-- The zero node. -/
def zeroT : T := .nd 0 0 ⟨#[]⟩ []
abbrev zeroCells : Array Value := #[.int .u8 0, .int .i64 0, .string ⟨#[]⟩, .slice none 0 0]
theorem zeroT_nv (w : World) (S : Nat → Prop) : NV w S zeroT (.agg #[.int .u8 0, .int .i64 0, .string ⟨#[]⟩, .slice none 0 0]) :=
  NV.shut (ks := []) ⟨⟨by omega, by omega⟩, ⟨by omega, by omega⟩, by decide⟩ (Nat.zero_le _) (Nat.zero_le _) RowAt.nil
theorem made_at (l i r : Nat) (hi : i < l) (hr : r < 4) : (madeCells zeroCells (l * 4)).toList[i * 4 + r]? = some (zeroCells.getD r undef) := by
  have hlt : i * 4 + r < (madeCells zeroCells (l * 4)).size := by rw [size_madeCells]; omega
  rw [Array.getElem?_toList, Array.getElem?_eq_getElem hlt]
  simp only [madeCells, Array.getElem_map, Array.getElem_range]
  have e : (i * 4 + r) % zeroCells.size = r := by show (i * 4 + r) % 4 = r; omega
  rw [e]
  rcases r with _ | _ | _ | _ | r
  · rfl
  · rfl
  · rfl
  · rfl
  · omega
theorem own_made (W : World) (base : Nat) (E : TypeId) (S : Nat → Prop) (l : Nat) (hb : base ≤ W.heap.size) (hl : l ≤ LK) :
    OwnN (W.alloc (.cells (madeCells zeroCells (l * 4)) E)) base E S (.slice (some ⟨W.heap.size, 0, none⟩) l l) (List.replicate l zeroT) := by
  have ho : (W.alloc (.cells (madeCells zeroCells (l * 4)) E)).ownsRow base E 4 (.slice (some ⟨W.heap.size, 0, none⟩) l l) l (madeCells zeroCells (l * 4)).toList :=
    ⟨by simp [size_madeCells], .inr ⟨W.heap.size, l, madeCells zeroCells (l * 4), rfl, hb, heap_alloc_new W _, Nat.le_refl _, LK_len hl, by simp [size_madeCells], by rw [List.take_of_length_le]; simp [size_madeCells]⟩⟩
  refine ⟨_, by rw [List.length_replicate]; exact ho, by simpa using hl, fun i hi => ?_⟩
  have hi' : i < l := by simpa using hi
  refine ⟨_, _, _, _, made_at l i 0 hi' (by omega), made_at l i 1 hi' (by omega), made_at l i 2 hi' (by omega), made_at l i 3 hi' (by omega), ?_⟩
  rw [List.getElem_replicate]
  exact zeroT_nv _ _

end Go.Proofs.Ytekjfbnggfbfhaa
