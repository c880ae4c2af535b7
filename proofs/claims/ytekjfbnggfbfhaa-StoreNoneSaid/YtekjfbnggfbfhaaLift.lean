/-
  An argument of type api.Node, opened: the tree that it reads as.
-/
import Derived.Test.YtekjfbnggfbfhaaRows
import Derived.Test.YtekjfbnggfbfhaaSpec
import Derived.ProofKit
import Derived.SizedLaws
import Derived.Deep.Slices
import Derived.Deep.Fields
import Derived.Lib.SmallJoins
set_option linter.unusedSimpArgs false
set_option linter.unusedVariables false
namespace Go.Proofs.Ytekjfbnggfbfhaa
open Go.RowKit Go.ChangeShapes Go.WideShapes Go.ChangeAt Go.Deep

theorem cellsNode : Try.prog.cellsOf 36 = 4 := by kernel_rfl
theorem bytesNode : Try.prog.bytesOf 36 = 56 := by kernel_rfl
theorem cellsU8 : Try.prog.cellsOf 5 = 1 := by kernel_rfl
theorem cellsI64 : Try.prog.cellsOf 3 = 1 := by kernel_rfl
theorem cellsStr : Try.prog.cellsOf 9 = 1 := by kernel_rfl
theorem cellsKids : Try.prog.cellsOf 34 = 1 := by kernel_rfl

theorem range_map_get {H : Type} (D : Nat → DataW H) (n i : Nat) (hi : i < n) : ((List.range n).map D)[i]? = some (D i) := by
  rw [List.getElem?_map, List.getElem?_range hi]; rfl
theorem weightsAll_mem {H : Type} {P : Program} {e : TypeId} : ∀ {l : List (DataW H)} {d : DataW H}, d ∈ l → ∀ n ∈ d.weights P e, n ∈ DataW.weightsAll P e l
  | d0 :: l, d, hd, n, hn => by
    simp only [DataW.weightsAll, List.mem_append]
    rcases List.mem_cons.1 hd with rfl | hd
    · exact .inl hn
    · exact .inr (weightsAll_mem hd n hn)
theorem sizes_le_bulk {H : Type} : ∀ (ks : List T) (ds : List (DataW H)), ks.length = ds.length → (∀ i (h : i < ks.length) (h' : i < ds.length), size ks[i] ≤ Rows.uptoBulk ds[i]) → sizes ks ≤ Rows.uptoBulkAll ds
  | [], [], _, _ => by simp [sizes]
  | t :: ts, d :: ds, hl, h => by
    have h0 := h 0 (Nat.zero_lt_succ _) (Nat.zero_lt_succ _)
    have h1 := sizes_le_bulk ts ds (by simpa using hl) (fun i hi hi' => h (i + 1) (Nat.succ_lt_succ hi) (Nat.succ_lt_succ hi'))
    simp only [List.getElem_cons_zero] at h0
    simp only [sizes, Rows.uptoBulkAll]
    omega
  | [], _ :: _, hl, _ => by simp at hl
  | _ :: _, [], hl, _ => by simp at hl

section
variable {H : Type} {enc : TypeId × Value → H} {w : World} {held : Bool}

def zeroT' : T := .nd 0 0 ⟨#[]⟩ []
set_option maxRecDepth 100000 in
theorem open_node : ∀ (fuel : Nat) (cs : List Value) (x : DataW H × List MemPlace), DataW.trod enc Try.prog w 0 (fun _ => true) held fuel 36 cs = some x →
    (∀ n ∈ x.1.weights Try.prog 36, n ≤ reachBytes) →
    ∃ t u0 u1 u2 u3, cs = [u0, u1, u2, u3] ∧ NV w Any t (.agg #[u0, u1, u2, u3]) ∧ t.ks.length * 56 ≤ reachBytes ∧ size t ≤ Rows.uptoBulk x.1 := by
  intro fuel
  induction fuel using Nat.strongRecOn with
  | _ fuel ih =>
  intro cs x h hw
  have hts := DataW.trod_struct Try.underlying36 h
  obtain ⟨xs, n, hfu, hx, hcl, hxl, hg⟩ := hts
  subst hx
  rw [cellsNode] at hcl
  match cs, hcl with
  | [c0, c1, c2, c3], _ =>
  match xs, hxl with
  | [y0, y1, y2, y3], _ =>
  have g0 := hg 0 _ rfl
  have g1 := hg 1 _ rfl
  have g2 := hg 2 _ rfl
  have g3 := hg 3 _ rfl
  simp only [cellsU8, cellsI64, cellsStr, cellsKids, List.drop_zero, List.take_succ_cons, List.take_zero, List.drop_succ_cons, List.getElem?_cons_zero, List.getElem?_cons_succ] at g0 g1 g2 g3
  obtain ⟨k, e0, e0', wk⟩ := DataW.trod_int Try.underlying5 g0
  obtain ⟨m, e1, e1', wm⟩ := DataW.trod_int Try.underlying3 g1
  obtain ⟨s, e2, e2', ws⟩ := DataW.trod_string Try.underlying9 g2
  injection e0 with e0
  injection e1 with e1
  injection e2 with e2
  subst e0 e1 e2 e0' e1' e2'
  have hf : Fld k m s := by
    refine ⟨?_, ?_, ws⟩
    · have := wk; simp [Lit.wf, IntKind.min, IntKind.max, IntKind.signed, IntKind.bits] at this; omega
    · have := wm; simp [Lit.wf, IntKind.min, IntKind.max, IntKind.signed, IntKind.bits] at this; omega
  have hsl := DataW.trod_slice Try.underlying34 g3
  rcases hsl with ⟨e3, e3'⟩ | ⟨a, len, cap, elems, rest, n', hn', e3, e3', _, hl, hm, hel, hat, hsp, _⟩
  · injection e3 with e3
    subst e3 e3'
    refine ⟨.nd k m s [], _, _, _, _, rfl, NV.shut (ks := []) hf (Nat.zero_le _) (Nat.zero_le _) RowAt.nil, by simp, ?_⟩
    simp only [size, sizes, List.map_cons, List.map_nil, Rows.uptoBulk]
    omega
  · injection e3 with e3
    subst e3 e3'
    obtain ⟨hrl, _⟩ := hsp rfl
    rw [cellsNode] at hat
    -- what the reach says of this slice, and of its elements
    have hws : ∀ q ∈ DataW.weights Try.prog 34 (.slice (elems.map (·.1)) (rest.map (·.1)) : DataW H), q ≤ reachBytes := by
      intro q hq
      refine hw q ?_
      simp only [List.map_cons, List.map_nil, DataW.weights, Try.underlying36]
      simp only [DataW.weightsEach, List.map_cons, List.map_nil, List.mem_append]
      exact .inr (.inr (.inr (.inl hq)))
    simp only [DataW.weights, Try.underlying34, bytesNode] at hws
    have hcap : cap * 56 ≤ reachBytes := by
      have := hws _ (List.mem_cons_self ..)
      simp only [List.length_map] at this
      rw [hel, hrl] at this
      rw [show cap = len + (cap - len) by omega]
      exact this
    have hwe : ∀ y ∈ elems, ∀ q ∈ y.1.weights Try.prog 36, q ≤ reachBytes := fun y hy q hq =>
      hws q (List.mem_cons_of_mem _ (List.mem_append_left _ (weightsAll_mem (List.mem_map_of_mem hy) q hq)))
    have key : ∀ i (hi : i < elems.length), ∃ t u0 u1 u2 u3, w.cells? 0 (a.add (i * 4)) 4 = some [u0, u1, u2, u3] ∧ NV w Any t (.agg #[u0, u1, u2, u3]) ∧ size t ≤ Rows.uptoBulk elems[i].1 := by
      intro i hi
      have h1 := hat i (by omega)
      rw [List.getElem?_eq_getElem hi] at h1
      obtain ⟨cs', hcs, ht⟩ := Option.bind_eq_some_iff.1 h1
      obtain ⟨t, u0, u1, u2, u3, rfl, hn, _, hb⟩ := ih n' (by omega) cs' elems[i] ht (hwe _ (List.getElem_mem hi))
      exact ⟨t, u0, u1, u2, u3, hcs, hn, hb⟩
    have hex : ∃ ks : List T, ks.length = elems.length ∧ ∀ i (h : i < ks.length) (h' : i < elems.length), (∃ u0 u1 u2 u3, w.cells? 0 (a.add (i * 4)) 4 = some [u0, u1, u2, u3] ∧ NV w Any ks[i] (.agg #[u0, u1, u2, u3])) ∧ size ks[i] ≤ Rows.uptoBulk elems[i].1 := by
      classical
      refine ⟨(List.range elems.length).map fun i => if h : i < elems.length then (key i h).choose else zeroT', by simp, fun i h h' => ?_⟩
      simp only [List.getElem_map, List.getElem_range, h', dif_pos]
      obtain ⟨u0, u1, u2, u3, h1, h2, h3⟩ := (key i h').choose_spec
      exact ⟨⟨u0, u1, u2, u3, h1, h2⟩, h3⟩
    obtain ⟨ks, hkl, hks⟩ := hex
    have hlen : ks.length = len := by omega
    have hLK : ks.length ≤ LK := by unfold LK; unfold reachBytes at hcap; omega
    refine ⟨.nd k m s ks, _, _, _, _, rfl, ?_, ?_, ?_⟩
    · rw [← hlen]
      refine NV.shut hf hLK (by omega) fun i hi => ?_
      obtain ⟨⟨u0, u1, u2, u3, hc, hn⟩, _⟩ := hks i hi (by omega)
      obtain ⟨_, _, hcell⟩ := World.cells?_some hc
      refine ⟨a, u0, u1, u2, u3, rfl, trivial, ⟨?_, ?_, ?_, ?_⟩, hn⟩
      · have := hcell 0 (by omega); simpa [Addr.add] using this
      · have := hcell 1 (by omega); simpa [Addr.add] using this
      · have := hcell 2 (by omega); simpa [Addr.add] using this
      · have := hcell 3 (by omega); simpa [Addr.add] using this
    · simp only [T.ks_nd]; omega
    · have hb := sizes_le_bulk ks (elems.map (·.1)) (by simp [hkl]) (fun i h h' => by
        have := (hks i h (by simpa using h')).2
        simpa using this)
      simp only [size, List.map_cons, List.map_nil, Rows.uptoBulk, Rows.uptoBulkAll]
      omega
end

end Go.Proofs.Ytekjfbnggfbfhaa

/-
  What the lifted proofs share: an argument of type api.Node, opened and kept.
-/
namespace Go.Proofs.Ytekjfbnggfbfhaa
open Go.RowKit Go.ChangeShapes Go.WideShapes Go.ChangeAt Go.Deep

theorem Try.own : ownKnob Try.prog.godebug = none := by kernel_rfl
theorem Try.laidOut : laidOutB Try.prog = true := by kernel_rfl

set_option maxRecDepth 100000 in
theorem node_in {H : Type} {enc : TypeId × Value → H} {W : World} {base : Nat} {v : Value} {d : DataW H} {p : List MemPlace} (hok : Value.okWide Try.prog W .any base 36 v)
    (h : DataW.Trod enc Try.prog W 0 (fun _ => true) true 36 v d p) (hw : ∀ n ∈ d.weights Try.prog 36, n ≤ reachBytes) :
    ∃ t, NV W Any t v ∧ t.ks.length * 56 ≤ reachBytes ∧ size t ≤ Rows.uptoBulk d := by
  obtain ⟨cs, rfl, hcs⟩ := okWide_struct Try.underlying36 hok
  obtain ⟨fuel, hf⟩ := h
  obtain ⟨t, u0, u1, u2, u3, e, hn, h1, h2⟩ := open_node fuel _ _ hf hw
  refine ⟨t, ?_, h1, h2⟩
  have : cs = #[u0, u1, u2, u3] := by
    apply Array.ext'
    simpa [Value.cells] using e
  rw [this]
  exact hn

set_option maxRecDepth 100000 in
theorem node_kept {H : Type} {enc : TypeId × Value → H} {W W' : World} {v : Value} {d : DataW H} {p : List MemPlace}
    (h : DataW.Trod enc Try.prog W 0 (fun _ => true) true 36 v d p) (hb : Below W.heap.size W W') (hlt : ∀ x ∈ p, x.block < W.heap.size) :
    DataW.Trod enc Try.prog W' 0 (fun b => decide (b < W.heap.size)) true 36 v d p :=
  Below.trod Try.laidOut (by kernel_rfl) (of_decide_eq_true (by kernel_rfl)) h hb hlt

end Go.Proofs.Ytekjfbnggfbfhaa
