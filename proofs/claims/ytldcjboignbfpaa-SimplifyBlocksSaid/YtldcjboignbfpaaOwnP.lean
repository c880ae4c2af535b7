/-
  Rows of procedures that a call itself makes. No program stands here.
-/
import Derived.Test.YtldcjboignbfpaaPg
import Derived.Test.YtldcjboignbfpaaInvW
namespace Go.Proofs.Ytldcjboignbfpaa
open Go.RowKit

/-- Slice value v owns a row (from block base on) of the procedures ps; what they lead to lies in blocks that meet S, and not in the row itself. -/
def OwnP (w : World) (base : Nat) (E : TypeId) (S : Nat → Prop) (v : Value) (ps : List PR) : Prop :=
  ∃ xs, w.ownsRow base E 6 v ps.length xs ∧ ps.length ≤ 1000 ∧ ∀ i (hi : i < ps.length), ∃ A1 c1 A2 c2, xs[i * 6]? = some (.string ps[i].s) ∧ xs[i * 6 + 1]? = some (.slice A1 ps[i].ps.length c1) ∧ xs[i * 6 + 2]? = some (.int .u8 ps[i].b.k) ∧
    xs[i * 6 + 3]? = some (.int .i64 ps[i].b.n) ∧ xs[i * 6 + 4]? = some (.string ps[i].b.s) ∧ xs[i * 6 + 5]? = some (.slice A2 ps[i].b.ks.length c2) ∧ PrR w (fun b => S b ∧ some b ≠ v.ownBlock) ps[i] A1 c1 A2 c2

section
variable {w w' : World} {base : Nat} {E : TypeId} {S S' : Nat → Prop} {v : Value} {ps : List PR}

theorem OwnP.nil (w : World) (base : Nat) (E : TypeId) (S : Nat → Prop) : OwnP w base E S (.slice none 0 0) [] := ⟨[], World.ownsRow_nil w base E 6, Nat.zero_le _, fun i hi => absurd hi (by simp)⟩
theorem OwnP.later (h : OwnP w base E S v ps) (hb : Below w.heap.size w w') : OwnP w' base E S v ps := by
  obtain ⟨xs, ho, hl, hn⟩ := h
  refine ⟨xs, ho.kept (row := none) ⟨hb.os, hb.tape, hb.output, hb.size, fun k hk _ => hb.block k hk⟩ (by cases v.ownBlock <;> simp), hl, fun i hi => ?_⟩
  obtain ⟨A1, c1, A2, c2, h0, h1, h2, h3, h4, h5, hr⟩ := hn i hi
  exact ⟨A1, c1, A2, c2, h0, h1, h2, h3, h4, h5, hr.later hb⟩
theorem OwnP.grown (h : OwnP w base E S v ps) {row : Option Nat} (hg : w.grownBy w' row) (hr : ∀ g, row = some g → ¬ S g ∧ v.ownBlock ≠ some g) : OwnP w' base E S v ps := by
  obtain ⟨xs, ho, hl, hn⟩ := h
  have hne : v.ownBlock = none ∨ v.ownBlock ≠ row := by
    cases row with
    | none => cases v.ownBlock <;> simp
    | some g => exact .inr (hr g rfl).2
  refine ⟨xs, ho.kept hg hne, hl, fun i hi => ?_⟩
  obtain ⟨A1, c1, A2, c2, h0, h1, h2, h3, h4, h5, hv⟩ := hn i hi
  refine ⟨A1, c1, A2, c2, h0, h1, h2, h3, h4, h5, hv.keep (fun b hb _ => hb) (fun b hb hlt => hg.block b hlt ?_)⟩
  intro e
  exact (hr b e.symm).1 hb.1
theorem OwnP.block (h : OwnP w base E S v ps) : ∀ k, v.ownBlock = some k → base ≤ k ∧ k < w.heap.size := let ⟨_, ho, _, _⟩ := h; ho.lt
theorem OwnP.len (h : OwnP w base E S v ps) : ps.length ≤ 1000 := let ⟨_, _, hl, _⟩ := h; hl
/-- The row read. -/
theorem OwnP.row (h : OwnP w base E S v ps) : ∃ A c, v = .slice A ps.length c ∧ ps.length ≤ c ∧ RowP w (fun b => S b ∨ v.ownBlock = some b) A ps := by
  obtain ⟨xs, ho, hl, hn⟩ := h
  rcases ho.2 with ⟨rfl, h0⟩ | ⟨g, cap, cur, rfl, hb, hg, hc, hm, hz, hx⟩
  · exact ⟨none, 0, by rw [h0], by omega, fun i hi => absurd hi (by omega)⟩
  · refine ⟨some ⟨g, 0, none⟩, cap, rfl, hc, fun i hi => ?_⟩
    obtain ⟨A1, c1, A2, c2, h0, h1, h2, h3, h4, h5, hv⟩ := hn i hi
    have hcell : ∀ j u, j < 6 → xs[i * 6 + j]? = some u → w.cell? ⟨g, i * 6 + j, none⟩ = some u := by
      intro j u hj hu
      rw [ho.cellAt (i * 6 + j) (by omega)]; exact hu
    have ha : (⟨g, 0, none⟩ : Addr).add (i * 6) = ⟨g, i * 6, none⟩ := by unfold Addr.add; split <;> simp_all
    refine ⟨⟨g, 0, none⟩, A1, c1, A2, c2, rfl, .inr rfl, ?_, hv.keep (fun b hb _ => .inl hb.1) fun _ _ _ => rfl⟩
    rw [ha]
    exact ⟨hcell 0 _ (by omega) h0, hcell 1 _ (by omega) h1, hcell 2 _ (by omega) h2, hcell 3 _ (by omega) h3, hcell 4 _ (by omega) h4, hcell 5 _ (by omega) h5⟩
end

theorem news_newN (W : World) (E : TypeId) (l : List Value) : ∀ j u, l[j]? = some u → (W.alloc (.cells l.toArray E)).cell? ((⟨W.heap.size, 0, none⟩ : Addr).add j) = some u := by
  intro j u hj
  have hh : (W.alloc (.cells l.toArray E)).heap[W.heap.size]? = some (.cells l.toArray E (0, 0)) := heap_alloc_new W _
  have ha : (⟨W.heap.size, 0, none⟩ : Addr).add j = ⟨W.heap.size, j, none⟩ := by unfold Addr.add; split <;> simp_all
  rw [ha]
  simp only [World.cell?, hh]
  simpa using hj

/-- What one append of a procedure leaves. -/
theorem own_pushP {W w' : World} {base : Nat} {E : TypeId} {S : Nat → Prop} {v v' : Value} {ps : List PR} {r : PR} {A1 A2 : Option Addr} {c1 c2 : Nat} {o : Obj} {xs : List Value}
    (ho : W.ownsRow base E 6 v ps.length xs)
    (hn : ∀ i (hi : i < ps.length), ∃ A1 c1 A2 c2, xs[i * 6]? = some (.string ps[i].s) ∧ xs[i * 6 + 1]? = some (.slice A1 ps[i].ps.length c1) ∧ xs[i * 6 + 2]? = some (.int .u8 ps[i].b.k) ∧
      xs[i * 6 + 3]? = some (.int .i64 ps[i].b.n) ∧ xs[i * 6 + 4]? = some (.string ps[i].b.s) ∧ xs[i * 6 + 5]? = some (.slice A2 ps[i].b.ks.length c2) ∧ PrR W (fun b => S b ∧ some b ≠ v.ownBlock) ps[i] A1 c1 A2 c2)
    (hr : PrR W (fun b => S b ∧ some b ≠ v.ownBlock) r A1 c1 A2 c2) (hlen : ps.length + 1 ≤ 1000)
    (h2 : w'.ownsRow base E 6 v' (ps.length + 1) (xs ++ [.string r.s, .slice A1 r.ps.length c1, .int .u8 r.b.k, .int .i64 r.b.n, .string r.b.s, .slice A2 r.b.ks.length c2])) (h3 : (W.alloc o).grownBy w' v.ownBlock) (h5 : v'.ownBlock = v.ownBlock ∨ v'.ownBlock = some (W.alloc o).heap.size) : OwnP w' base E S v' (ps ++ [r]) := by
  have hk : ∀ {r : PR} {A1 A2 : Option Addr} {c1 c2 : Nat}, PrR W (fun b => S b ∧ some b ≠ v.ownBlock) r A1 c1 A2 c2 → PrR w' (fun b => S b ∧ some b ≠ v'.ownBlock) r A1 c1 A2 c2 := by
    intro r A1 A2 c1 c2 h
    refine h.keep (fun b hb hlt => ⟨hb.1, ?_⟩) (fun b hb hlt => ?_)
    · rcases h5 with h5 | h5 <;> rw [h5]
      · exact hb.2
      · intro e; injection e with e; simp at e; omega
    · rw [h3.block b (by simp; omega) hb.2]; exact Below.heap_alloc W o b hlt
  refine ⟨_, by simpa using h2, by simpa using hlen, fun i hi => ?_⟩
  have hxl := ho.1
  by_cases h : i < ps.length
  · obtain ⟨B1, d1, B2, d2, e0, e1, e2, e3, e4, e5, hv⟩ := hn i h
    refine ⟨B1, d1, B2, d2, ?_, ?_, ?_, ?_, ?_, ?_, ?_⟩
    · rw [List.getElem_append_left h, List.getElem?_append_left (by omega)]; exact e0
    · rw [List.getElem_append_left h, List.getElem?_append_left (by omega)]; exact e1
    · rw [List.getElem_append_left h, List.getElem?_append_left (by omega)]; exact e2
    · rw [List.getElem_append_left h, List.getElem?_append_left (by omega)]; exact e3
    · rw [List.getElem_append_left h, List.getElem?_append_left (by omega)]; exact e4
    · rw [List.getElem_append_left h, List.getElem?_append_left (by omega)]; exact e5
    · rw [List.getElem_append_left h]; exact hk hv
  · have e : i = ps.length := by simp at hi; omega
    subst e
    refine ⟨A1, c1, A2, c2, ?_, ?_, ?_, ?_, ?_, ?_, ?_⟩
    · rw [List.getElem?_append_right (by omega)]; simp [hxl]
    · rw [List.getElem?_append_right (by omega)]; simp [hxl]
    · rw [List.getElem?_append_right (by omega)]; simp [hxl]
    · rw [List.getElem?_append_right (by omega)]; simp [hxl]
    · rw [List.getElem?_append_right (by omega)]; simp [hxl]
    · rw [List.getElem?_append_right (by omega)]; simp [hxl]
    · simpa using hk hr

/-- 'row = append(row, procedure)'. -/
theorem wpList_append_procH {P : Program} {W : World} {ops : Array Oper} {rest : List Oper} {o : Oper} {a : Act} {Q : Exit → Act → World → Prop} (hgd : o.guard = none) (s x : Operand) (ty : TypeId)
    (ho : o.op = .call { callee := .builtin .append, args := #[s, x], argTypes := #[ty, ty] }) (E : TypeId) (i : TypeInfo) (z : Value) (ht : P.underlying ty = some (.slice E)) (hi : P.info? E = some i) (hz : i.zero = some z)
    (hsize : i.size = 6) (hby : i.bytes = 96) (hzs : z.cells.size = 6) (base : Nat) (S : Nat → Prop) (v : Value) (ps : List PR) (hs : a.eval s = v) (hown : OwnP W base E S v ps)
    (r : PR) (A1 : Option Addr) (c1 : Nat) (A2 : Option Addr) (c2 : Nat) (H : Nat) (hH : W.heap.size = H) (hx : a.eval x = .slice (some ⟨H, 0, none⟩) 1 1) (hr : PrR W (fun b => S b ∧ some b ≠ v.ownBlock) r A1 c1 A2 c2) (hlen : ps.length + 1 ≤ 1000) (hbase : base ≤ W.heap.size)
    (h : ∀ v' w', OwnP w' base E S v' (ps ++ [r]) → W.grownBy w' v.ownBlock → (v'.ownBlock = v.ownBlock ∨ ∃ g, v'.ownBlock = some g ∧ W.heap.size ≤ g) → wpList P ops Q rest (a.put o.dst v') w') :
    wpList P ops Q (o :: rest) a (W.alloc (.cells #[.string r.s, .slice A1 r.ps.length c1, .int .u8 r.b.k, .int .i64 r.b.n, .string r.b.s, .slice A2 r.b.ks.length c2] E)) := by
  subst hH
  obtain ⟨xs, hrow, _, hns⟩ := hown
  refine wpList_append_own_at (P := P) _ hgd s x ty ho base E i z 6 96 ht hi hz hsize hby hzs (by decide) v ps.length xs hs (hrow.alloc _) ⟨W.heap.size, 0, none⟩ 1 1 [.string r.s, .slice A1 r.ps.length c1, .int .u8 r.b.k, .int .i64 r.b.n, .string r.b.s, .slice A2 r.b.ks.length c2] hx (by simp)
    (news_newN W E _) (by intro u hu; simp at hu; rcases hu with rfl | rfl | rfl | rfl | rfl | rfl <;> rfl) (by unfold maxLen; omega) (by omega) (by simp; omega) ?_
  intro v' w' h2 h3 _ h5
  refine h v' w' (own_pushP hrow hns hr hlen h2 h3 h5) ⟨h3.os, h3.tape, h3.output, Nat.le_trans (by simp) h3.size, fun b hb hne => ?_⟩ ?_
  · rw [h3.block b (by simp; omega) hne]; exact Below.heap_alloc W _ b hb
  · rcases h5 with h5 | h5
    · exact .inl h5
    · exact .inr ⟨_, h5, by simp⟩

end Go.Proofs.Ytldcjboignbfpaa
