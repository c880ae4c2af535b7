/-
  What the lifted proofs share: an argument of type api.Program, opened and kept.
-/
import Derived.Test.YtldcjboignbfpaaLift
import Derived.Test.YtldcjboignbfpaaOpenP
namespace Go.Proofs.Ytldcjboignbfpaa
open Go.RowKit Go.ChangeShapes Go.WideShapes Go.ChangeAt Go.Deep

set_option maxRecDepth 100000 in
theorem prog_in {H : Type} {enc : TypeId × Value → H} {W : World} {base : Nat} {v : Value} {d : DataW H} {p : List MemPlace} (hok : Value.okWide Try.prog W .any base 38 v)
    (h : DataW.Trod enc Try.prog W 0 (fun _ => true) true 38 v d p) (hw : ∀ n ∈ d.weights Try.prog 38, n ≤ reachBytes) : ∃ g, PV W Any g v := by
  obtain ⟨cs, rfl, hcs⟩ := okWide_struct Try.underlying38 hok
  obtain ⟨fuel, hf⟩ := h
  obtain ⟨g, A1, c1, A2, c2, A3, c3, e, hr⟩ := open_prog hf hw
  refine ⟨g, A1, c1, A2, c2, A3, c3, ?_, hr⟩
  have : cs = #[.slice A1 g.vs.length c1, .slice A2 g.prs.length c2, .int .u8 g.m.k, .int .i64 g.m.n, .string g.m.s, .slice A3 g.m.ks.length c3] := by
    apply Array.ext'
    simpa [Value.cells] using e
  rw [this]

set_option maxRecDepth 100000 in
theorem prog_kept {H : Type} {enc : TypeId × Value → H} {W W' : World} {v : Value} {d : DataW H} {p : List MemPlace}
    (h : DataW.Trod enc Try.prog W 0 (fun _ => true) true 38 v d p) (hb : Below W.heap.size W W') (hlt : ∀ x ∈ p, x.block < W.heap.size) :
    DataW.Trod enc Try.prog W' 0 (fun b => decide (b < W.heap.size)) true 38 v d p :=
  Below.trod Try.laidOut (by kernel_rfl) (of_decide_eq_true (by kernel_rfl)) h hb hlt

end Go.Proofs.Ytldcjboignbfpaa
