/-
  Arguments with declarations, opened.
-/
import Derived.Test.YtekjfbnggfbfhaaLift
import Derived.Test.YtekjfbnggfbfhaaPi
set_option linter.unusedSimpArgs false
set_option linter.unusedVariables false
namespace Go.Proofs.Ytekjfbnggfbfhaa
open Go.RowKit Go.ChangeShapes Go.WideShapes Go.ChangeAt Go.Deep

theorem cellsVd : Try.prog.cellsOf 24 = 3 := by kernel_rfl
theorem bytesVd : Try.prog.bytesOf 24 = 32 := by kernel_rfl
theorem cellsVds : Try.prog.cellsOf 25 = 1 := by kernel_rfl

section
variable {H : Type} {enc : TypeId × Value → H} {w : World} {held : Bool}

/-- A slice, opened: nil, or a row whose elements can be opened. -/
theorem open_row {ty E : TypeId} {n b : Nat} (ht : Try.prog.underlying ty = some (.slice E)) (hc : Try.prog.cellsOf E = n) (hb : Try.prog.bytesOf E = b) {fuel : Nat} {cs : List Value} {x : DataW H × List MemPlace}
    (h : DataW.trod enc Try.prog w 0 (fun _ => true) held fuel ty cs = some x) (hw : ∀ q ∈ x.1.weights Try.prog ty, q ≤ reachBytes) :
    cs = [.slice none 0 0] ∨ ∃ a len cap, cs = [.slice (some a) len cap] ∧ len ≤ cap ∧ cap * b ≤ reachBytes ∧ ∀ i, i < len → ∃ cs' y n', w.cells? 0 (a.add (i * n)) n = some cs' ∧ DataW.trod enc Try.prog w 0 (fun _ => true) held n' E cs' = some y ∧ ∀ q ∈ y.1.weights Try.prog E, q ≤ reachBytes := by
  have hsl := DataW.trod_slice ht h
  rcases hsl with ⟨e3, e3'⟩ | ⟨a, len, cap, elems, rest, n', hn', e3, e3', _, hl, hm, hel, hat, hsp, _⟩
  · exact .inl e3
  · refine .inr ⟨a, len, cap, e3, hl, ?_, ?_⟩
    · obtain ⟨hrl, _⟩ := hsp rfl
      subst e3'
      simp only [DataW.weights, ht, hb] at hw
      have := hw _ (List.mem_cons_self ..)
      simp only [List.length_map] at this
      rw [hel, hrl] at this
      rw [show cap = len + (cap - len) by omega]
      exact this
    · intro i hi
      subst e3'
      simp only [DataW.weights, ht, hb] at hw
      have hi' : i < elems.length := by omega
      have h1 := hat i (by omega)
      rw [List.getElem?_eq_getElem hi', hc] at h1
      obtain ⟨cs', hcs, ht'⟩ := Option.bind_eq_some_iff.1 h1
      exact ⟨cs', elems[i], n', hcs, ht', fun q hq => hw q (List.mem_cons_of_mem _ (List.mem_append_left _ (weightsAll_mem (List.mem_map_of_mem (List.getElem_mem hi')) q hq)))⟩

set_option maxRecDepth 100000 in
theorem open_vd {fuel : Nat} {cs : List Value} {x : DataW H × List MemPlace} (h : DataW.trod enc Try.prog w 0 (fun _ => true) held fuel 24 cs = some x) :
    ∃ v : VD, cs = [.string v.s, .int .u8 v.k, .int .i64 v.n] ∧ FldV v := by
  have hts := DataW.trod_struct Try.underlying24 h
  obtain ⟨xs, n, hfu, hx, hcl, hxl, hg⟩ := hts
  rw [cellsVd] at hcl
  match cs, hcl with
  | [c0, c1, c2], _ =>
  match xs, hxl with
  | [y0, y1, y2], _ =>
  have g0 := hg 0 _ rfl
  have g1 := hg 1 _ rfl
  have g2 := hg 2 _ rfl
  obtain ⟨s, e2, e2', ws⟩ := DataW.trod_string Try.underlying9 g0
  obtain ⟨k, e0, e0', wk⟩ := DataW.trod_int Try.underlying5 g1
  obtain ⟨m, e1, e1', wm⟩ := DataW.trod_int Try.underlying3 g2
  injection e0 with e0
  injection e1 with e1
  injection e2 with e2
  subst e0 e1 e2
  refine ⟨⟨s, k, m⟩, rfl, ws, ?_, ?_⟩
  · have := wk; simp [Lit.wf, IntKind.min, IntKind.max, IntKind.signed, IntKind.bits] at this; constructor <;> simp only <;> omega
  · have := wm; simp [Lit.wf, IntKind.min, IntKind.max, IntKind.signed, IntKind.bits] at this; constructor <;> simp only <;> omega

theorem choose_list {α : Type} [Inhabited α] {n : Nat} {P : Nat → α → Prop} (h : ∀ i, i < n → ∃ x, P i x) : ∃ l : List α, l.length = n ∧ ∀ i (hi : i < l.length), P i l[i] := by
  obtain ⟨f, hf⟩ := choose_lt h
  exact ⟨(List.range n).map f, by simp, fun i hi => by simp only [List.getElem_map, List.getElem_range]; exact hf i (by simpa using hi)⟩
instance : Inhabited VD := ⟨⟨⟨#[]⟩, 0, 0⟩⟩

set_option maxRecDepth 100000 in
theorem open_varsW {fuel : Nat} {cs : List Value} {x : DataW H × List MemPlace} (h : DataW.trod enc Try.prog w 0 (fun _ => true) held fuel 25 cs = some x) (hw : ∀ q ∈ x.1.weights Try.prog 25, q ≤ reachBytes) :
    ∃ (A : Option Addr) (vs : List VD) (c : Nat), cs = [.slice A vs.length c] ∧ RowV w Any A vs ∧ vs.length ≤ 4398046510976 ∧ vs.length ≤ c := by
  rcases open_row Try.underlying25 cellsVd bytesVd h hw with rfl | ⟨a, len, cap, rfl, hl, hcap, hat⟩
  · exact ⟨none, [], 0, rfl, fun i hi => absurd hi (by simp), Nat.zero_le _, Nat.zero_le _⟩
  · obtain ⟨vs, hvl, hvs⟩ := choose_list (n := len) (P := fun i (v : VD) => w.cells? 0 (a.add (i * 3)) 3 = some [.string v.s, .int .u8 v.k, .int .i64 v.n] ∧ FldV v) fun i hi => by
      obtain ⟨cs', y, n', hcs, ht, _⟩ := hat i hi
      obtain ⟨v, rfl, hf⟩ := open_vd ht
      exact ⟨v, hcs, hf⟩
    refine ⟨some a, vs, cap, by rw [hvl], fun i hi => ?_, by unfold reachBytes at hcap; omega, by omega⟩
    obtain ⟨hc, hf⟩ := hvs i hi
    obtain ⟨_, _, hcell⟩ := World.cells?_some hc
    refine ⟨a, rfl, trivial, ⟨?_, ?_, ?_⟩, hf⟩
    · have := hcell 0 (by omega); simpa [Addr.add] using this
    · have := hcell 1 (by omega); simpa [Addr.add] using this
    · have := hcell 2 (by omega); simpa [Addr.add] using this

theorem open_vars {fuel : Nat} {cs : List Value} {x : DataW H × List MemPlace} (h : DataW.trod enc Try.prog w 0 (fun _ => true) held fuel 25 cs = some x) (hw : ∀ q ∈ x.1.weights Try.prog 25, q ≤ reachBytes) :
    ∃ (A : Option Addr) (vs : List VD) (c : Nat), cs = [.slice A vs.length c] ∧ RowV w Any A vs ∧ vs.length ≤ LV ∧ vs.length ≤ c := by
  obtain ⟨A, vs, c, h1, h2, h3, h4⟩ := open_varsW h hw
  exact ⟨A, vs, c, h1, h2, by unfold LV; omega, h4⟩

instance : Inhabited T := ⟨zeroT'⟩

theorem nv_parts {t : T} {u0 u1 u2 u3 : Value} (h : NV w Any t (.agg #[u0, u1, u2, u3])) : ∃ A c, u0 = .int .u8 t.k ∧ u1 = .int .i64 t.n ∧ u2 = .string t.s ∧ u3 = .slice A t.ks.length c ∧ NV w Any t (nv t.k t.n t.s A t.ks.length c) := by
  obtain ⟨A, c, e, _⟩ := h.open_
  have e' := e
  simp only [nv, Value.agg.injEq, Array.mk.injEq, List.cons.injEq, and_true] at e
  exact ⟨A, c, e.1, e.2.1, e.2.2.1, e.2.2.2, e' ▸ h⟩

end

end Go.Proofs.Ytekjfbnggfbfhaa
