/-
  For every []api.VarDecl and every api.State and every uint8 and every uint16 the law backsteplaw14.StoreParameters returns true, and what it was given reads behind the call as it read before.
  Conditions: none beyond those of the given statement (a started machine; what the call reads lies within the form's own reach).
-/
import Derived.Test.YtekjfbnggfbfhaaLp
import Derived.Test.YtekjfbnggfbfhaaLiftS
import Derived.ProofKit
import Derived.OpenShut
import Derived.Carry
import Derived.Deep.CondSized
import Derived.Deep.OwnShut
namespace Go.Proofs.Ytekjfbnggfbfhaa
open Go.RowKit Go.ChangeShapes Go.WideShapes Go.ChangeAt Go.Deep

set_option maxRecDepth 100000 in
theorem SParams_lifted (os : Os) (started : os.Started) (H : Type) (enc : TypeId × Value → H) :
    ReturnsInHanded {} Try.checked os 4 .any (Rows.storeParametersSpec.pre6 enc Try.prog Try.f4 Rows.storeParametersRow.domain false) (Rows.storeParametersSpec.post enc Try.prog Try.f4 false true false false) := by
  refine returnsInHanded_of_change_sized (C := Try.checked) Try.own started (by kernel_rfl) Try.func4
    (ChangeSpec.witness6 (enc := enc) (C := Try.checked) false ⟨#[], #[.slice none 0 0, .agg #[.slice none 0 0, .slice none 0 0, .slice none 0 0], .int .u8 0, .int .u16 0], []⟩ 8 (by kernel_rfl) (by kernel_rfl) (by kernel_rfl) (by kernel_rfl)) ?_
  intro W base args ds gs before hval0 hW _ hsz0 _
  have hsz : (DataW.weightsEach Try.prog (Try.f4.params.toList ++ Rows.storeParametersSpec.plain.varTypes Try.prog) (ds ++ gs)).all (· ≤ reachBytes) = true := hsz0
  clear hsz0
  have hval : ∀ (j : Nat) t v, Try.f4.params[j]? = some t → args[j]? = some v → Value.okWide Try.prog W .any base t v := hval0
  have hW' := hW
  obtain ⟨p, q, hA0, hV, rfl, _, _⟩ := hW
  have hA : DataW.TrodAll enc Try.prog W 0 (fun _ => true) true Try.f4.params.toList args.toList ds p := hA0
  rw [Try.params4] at hA hval hsz
  obtain ⟨v0, v1, v2, v3, d0, d1, d2, d3, p0, p1, p2, p3, rfl, rfl, rfl, h0, h1, h2, h3⟩ := trodAll_four hA
  obtain ⟨rfl, rfl⟩ := trodVars_none hV
  clear hA0 hval0
  simp only [List.append_nil] at hW'
  have hall : ∀ (j : Nat) (t : TypeId) (d : DataW H), ([25, 29, 5, 41] ++ Rows.storeParametersSpec.plain.varTypes Try.prog)[j]? = some t → ([d0, d1, d2, d3] ++ ([] : List (DataW H)))[j]? = some d → ∀ n ∈ d.weights Try.prog t, n ≤ reachBytes := fun j t d e1 e2 n hn => by
    have := List.all_eq_true.1 hsz n (DataW.weights_mem_each (j := j) e1 e2 n hn)
    simpa using this
  have hlt : ∀ x ∈ p0 ++ p1 ++ p2 ++ p3, x.block < W.heap.size := fun x hx => by simpa using hW'.lt x (by simpa using hx)
  obtain ⟨A0, x0, c0, rfl, r0, l0⟩ := vars_in (hval 0 _ v0 rfl rfl) h0 (hall 0 _ _ rfl rfl)
  obtain ⟨s1, n1⟩ := state_in (hval 1 _ v1 rfl rfl) h1 (hall 1 _ _ rfl rfl)
  obtain ⟨a2, rfl, rfl, rfl, w2⟩ := open_int Try.underlying5 (hval 2 _ v2 rfl rfl) h2
  have b2 : 0 ≤ a2 ∧ a2 ≤ 255 := by
    simp [Lit.wf, IntKind.min, IntKind.max, IntKind.signed, IntKind.bits] at w2
    omega
  obtain ⟨a3, rfl, rfl, rfl, w3⟩ := open_int Try.underlying41 (hval 3 _ v3 rfl rfl) h3
  have b3 : 0 ≤ a3 ∧ a3 ≤ 65535 := by
    simp [Lit.wf, IntKind.min, IntKind.max, IntKind.signed, IntKind.bits] at w3
    omega
  refine (Params_walk x0 s1 a2 a3 A0 c0 v1 W r0 l0 n1 (by omega) (by omega)).mono fun e W' ⟨he, hb⟩ => ?_
  subst he
  exact ⟨_, rfl, _, _, _, [], _, [], hW', trodAll_mk1 (shut_bool Try.underlying4 true), trodAll_mk4 (Below.trod Try.laidOut (by kernel_rfl) (of_decide_eq_true (by kernel_rfl)) h0 hb fun x hx => by first | (simp at hx; done) | exact hlt x (by simp [hx])) (Below.trod Try.laidOut (by kernel_rfl) (of_decide_eq_true (by kernel_rfl)) h1 hb fun x hx => by first | (simp at hx; done) | exact hlt x (by simp [hx])) (Below.trod Try.laidOut (by kernel_rfl) (of_decide_eq_true (by kernel_rfl)) h2 hb fun x hx => by first | (simp at hx; done) | exact hlt x (by simp [hx])) (Below.trod Try.laidOut (by kernel_rfl) (of_decide_eq_true (by kernel_rfl)) h3 hb fun x hx => by first | (simp at hx; done) | exact hlt x (by simp [hx])), rfl, hb.frame _, fun h => by cases h⟩

theorem SParams_holds : Rows.StoreParametersSaid :=
  OpenClaim.holds_of_wide 4 Try.f4 rfl rfl rfl rfl rfl rfl rfl ⟨rfl, rfl, rfl, rfl, rfl⟩ rfl rfl rfl rfl rfl (by kernel_rfl) Try.func4 (by kernel_rfl)
    (of_decide_eq_true (by kernel_rfl)) (by unfold Func.isWrapper; first | (rw [if_pos (by decide +kernel)]; kernel_rfl) | (rw [if_neg (by decide +kernel)]; exact ⟨rfl, rfl⟩))
    (fun os started H enc _ => SParams_lifted os started H enc)

end Go.Proofs.Ytekjfbnggfbfhaa
