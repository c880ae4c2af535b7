/-
  For every exercise.Exercise and every api.Program and every api.State the law backsteplaw48.GraderRefuses returns true, and what it was given reads behind the call as it read before.
  Conditions: none beyond those of the given statement (a started machine; what the call reads lies within the form's own reach).
-/
import Derived.Test.YthjinpodhacleaaGreatR13
import Derived.ProofKit
import Derived.OpenShut
import Derived.Carry
import Derived.Deep.CondSized
import Derived.Deep.OwnShut
namespace Go.Proofs.YthjinpodhacleaaGreat
open Go.RowKit Go.ChangeShapes Go.WideShapes Go.ChangeAt Go.Deep

set_option maxRecDepth 100000 in
theorem GRefuses_lifted (os : Os) (started : os.Started) (H : Type) (enc : TypeId × Value → H) :
    ReturnsInHanded {} Tryz.checked os 6 .any (Rows.graderRefusesSpec.pre6 enc Tryz.prog Tryz.f6 Rows.graderRefusesRow.domain false) (Rows.graderRefusesSpec.post enc Tryz.prog Tryz.f6 false true false false) := by
  refine returnsInHanded_of_change_sized (C := Tryz.checked) Tryz.own started (by kernel_rfl) Tryz.func6
    (ChangeSpec.witness6 (enc := enc) (C := Tryz.checked) false ⟨#[], #[.agg #[.string ⟨#[]⟩, .int .i64 0, .int .i64 0, .int .i64 0, .int .i64 0, .int .i64 0, .slice none 0 0, .slice none 0 0, .int .u8 0, .int .i64 0, .string ⟨#[]⟩, .slice none 0 0], .agg #[.slice none 0 0, .slice none 0 0, .int .u8 0, .int .i64 0, .string ⟨#[]⟩, .slice none 0 0], .agg #[.slice none 0 0, .slice none 0 0, .slice none 0 0]], []⟩ 8 (by kernel_rfl) (by kernel_rfl) (by kernel_rfl) (by kernel_rfl)) ?_
  intro W base args ds gs before hval0 hW _ hsz0 _
  have hsz : (DataW.weightsEach Tryz.prog (Tryz.f6.params.toList ++ Rows.graderRefusesSpec.plain.varTypes Tryz.prog) (ds ++ gs)).all (· ≤ reachBytes) = true := hsz0
  clear hsz0
  have hval : ∀ (j : Nat) t v, Tryz.f6.params[j]? = some t → args[j]? = some v → Value.okWide Tryz.prog W .any base t v := hval0
  have hW' := hW
  obtain ⟨p, q, hA0, hV, rfl, _, _⟩ := hW
  have hA : DataW.TrodAll enc Tryz.prog W 0 (fun _ => true) true Tryz.f6.params.toList args.toList ds p := hA0
  rw [Tryz.params6] at hA hval hsz
  obtain ⟨v0, v1, v2, d0, d1, d2, p0, p1, p2, rfl, rfl, rfl, h0, h1, h2⟩ := trodAll_three hA
  obtain ⟨rfl, rfl⟩ := trodVars_none hV
  clear hA0 hval0
  simp only [List.append_nil] at hW'
  have hall : ∀ (j : Nat) (t : TypeId) (d : DataW H), ([32, 30, 44] ++ Rows.graderRefusesSpec.plain.varTypes Tryz.prog)[j]? = some t → ([d0, d1, d2] ++ ([] : List (DataW H)))[j]? = some d → ∀ n ∈ d.weights Tryz.prog t, n ≤ reachBytes := fun j t d e1 e2 n hn => by
    have := List.all_eq_true.1 hsz n (DataW.weights_mem_each (j := j) e1 e2 n hn)
    simpa using this
  have hlt : ∀ x ∈ p0 ++ p1 ++ p2, x.block < W.heap.size := fun x hx => by simpa using hW'.lt x (by simpa using hx)
  obtain ⟨e0, n0⟩ := zKB (hval 0 _ v0 rfl rfl) h0 (hall 0 _ _ rfl rfl)
  obtain ⟨t1, n1⟩ := zya (hval 1 _ v1 rfl rfl) h1 (hall 1 _ _ rfl rfl)
  obtain ⟨s2, n2⟩ := zvT (hval 2 _ v2 rfl rfl) h2 (hall 2 _ _ rfl rfl)
  refine (zoP n0 n1 n2).mono fun e W' ⟨he, hb⟩ => ?_
  subst he
  exact ⟨_, rfl, _, _, _, [], _, [], hW', trodAll_mk1 (shut_bool Tryz.underlying4 true), trodAll_mk3 (Below.trod Tryz.laidOut (by kernel_rfl) (of_decide_eq_true (by kernel_rfl)) h0 hb fun x hx => by first | (simp at hx; done) | exact hlt x (by simp [hx])) (Below.trod Tryz.laidOut (by kernel_rfl) (of_decide_eq_true (by kernel_rfl)) h1 hb fun x hx => by first | (simp at hx; done) | exact hlt x (by simp [hx])) (Below.trod Tryz.laidOut (by kernel_rfl) (of_decide_eq_true (by kernel_rfl)) h2 hb fun x hx => by first | (simp at hx; done) | exact hlt x (by simp [hx])), rfl, hb.frame _, fun h => by cases h⟩

theorem GRefuses_holds : Rows.GraderRefusesSaid :=
  OpenClaim.holds_of_wide 6 Tryz.f6 rfl rfl rfl rfl rfl rfl rfl ⟨rfl, rfl, rfl, rfl, rfl⟩ rfl rfl rfl rfl rfl (by kernel_rfl) Tryz.func6 (by kernel_rfl)
    (of_decide_eq_true (by kernel_rfl)) (by unfold Func.isWrapper; first | (rw [if_pos (by decide +kernel)]; kernel_rfl) | (rw [if_neg (by decide +kernel)]; exact ⟨rfl, rfl⟩))
    (fun os started H enc _ => GRefuses_lifted os started H enc)

end Go.Proofs.YthjinpodhacleaaGreat
