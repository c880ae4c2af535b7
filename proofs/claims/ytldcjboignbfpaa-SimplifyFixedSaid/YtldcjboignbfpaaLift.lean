/-
  What the lifted proofs share: an argument of type api.Node, opened and kept.
-/
import Derived.Test.YtldcjboignbfpaaOpen
namespace Go.Proofs.Ytldcjboignbfpaa
open Go.RowKit Go.ChangeShapes Go.WideShapes Go.ChangeAt Go.Deep

theorem Try.own : ownKnob Try.prog.godebug = none := by kernel_rfl
theorem Try.laidOut : laidOutB Try.prog = true := by kernel_rfl

set_option maxRecDepth 100000 in
theorem node_in {H : Type} {enc : TypeId × Value → H} {W : World} {base : Nat} {v : Value} {d : DataW H} {p : List MemPlace} (hok : Value.okWide Try.prog W .any base 24 v)
    (h : DataW.Trod enc Try.prog W 0 (fun _ => true) true 24 v d p) (hw : ∀ n ∈ d.weights Try.prog 24, n ≤ reachBytes) :
    ∃ t, NV W Any t v ∧ t.ks.length * 56 ≤ reachBytes ∧ size t ≤ Rows.uptoBulk d := by
  obtain ⟨cs, rfl, hcs⟩ := okWide_struct Try.underlying24 hok
  obtain ⟨fuel, hf⟩ := h
  obtain ⟨t, u0, u1, u2, u3, e, hn, h1, h2⟩ := open_node fuel _ _ hf hw
  refine ⟨t, ?_, h1, h2⟩
  have : cs = #[u0, u1, u2, u3] := by
    apply Array.ext'
    simpa [Value.cells] using e
  rw [this]
  exact hn

set_option maxRecDepth 100000 in
theorem node_kept {H : Type} {enc : TypeId × Value → H} {W W' : World} {v : Value} {d : DataW H} {p : List MemPlace}
    (h : DataW.Trod enc Try.prog W 0 (fun _ => true) true 24 v d p) (hb : Below W.heap.size W W') (hlt : ∀ x ∈ p, x.block < W.heap.size) :
    DataW.Trod enc Try.prog W' 0 (fun b => decide (b < W.heap.size)) true 24 v d p :=
  Below.trod Try.laidOut (by kernel_rfl) (of_decide_eq_true (by kernel_rfl)) h hb hlt

end Go.Proofs.Ytldcjboignbfpaa
