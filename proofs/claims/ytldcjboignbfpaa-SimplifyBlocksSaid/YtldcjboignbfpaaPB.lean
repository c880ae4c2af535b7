/-
  For every value of type api.Program and every value of type api.Node the law backsteplaw46.SimplifyBlocks returns true, and its arguments read behind the call as they read before.
  Conditions: none beyond those of the given statement (a started machine; what the call reads lies within the form's own reach).
-/
import Derived.Test.YtldcjboignbfpaaLawB
import Derived.Test.YtldcjboignbfpaaLiftP
namespace Go.Proofs.Ytldcjboignbfpaa
open Go.RowKit Go.ChangeShapes Go.WideShapes Go.ChangeAt Go.Deep

set_option maxRecDepth 100000 in
theorem Blocks_lifted (os : Os) (started : os.Started) (H : Type) (enc : TypeId × Value → H) :
    ReturnsInHanded {} Try.checked os 7 .any (Rows.simplifyBlocksSpec.pre6 enc Try.prog Try.f7 Rows.simplifyBlocksRow.domain false) (Rows.simplifyBlocksSpec.post enc Try.prog Try.f7 false true false false) := by
  refine returnsInHanded_of_change_sized (C := Try.checked) Try.own started (by kernel_rfl) Try.func7
    (ChangeSpec.witness6 (enc := enc) (C := Try.checked) false ⟨#[], #[.agg #[.slice none 0 0, .slice none 0 0, .int .u8 0, .int .i64 0, .string ⟨#[]⟩, .slice none 0 0], .agg #[.int .u8 0, .int .i64 0, .string ⟨#[]⟩, .slice none 0 0]], []⟩ 8 (by kernel_rfl) (by kernel_rfl) (by kernel_rfl) (by kernel_rfl)) ?_
  intro W base args ds gs before hval0 hW _ hsz0 _
  have hsz : (DataW.weightsEach Try.prog (Try.f7.params.toList ++ Rows.simplifyBlocksSpec.plain.varTypes Try.prog) (ds ++ gs)).all (· ≤ reachBytes) = true := hsz0
  clear hsz0
  have hval : ∀ (j : Nat) t v, Try.f7.params[j]? = some t → args[j]? = some v → Value.okWide Try.prog W .any base t v := hval0
  have hW' := hW
  obtain ⟨p, q, hA0, hV, rfl, _, _⟩ := hW
  have hA : DataW.TrodAll enc Try.prog W 0 (fun _ => true) true Try.f7.params.toList args.toList ds p := hA0
  rw [Try.params7] at hA hval hsz
  obtain ⟨v0, v1, d0, d1, p0, p1, rfl, rfl, rfl, h0, h1⟩ := trodAll_two hA
  obtain ⟨rfl, rfl⟩ := trodVars_none hV
  clear hA0 hval0
  simp only [List.append_nil] at hW'
  have hall : ∀ (j : Nat) (t : TypeId) (d : DataW H), ([38, 24] ++ Rows.simplifyBlocksSpec.plain.varTypes Try.prog)[j]? = some t → ([d0, d1] ++ ([] : List (DataW H)))[j]? = some d → ∀ n ∈ d.weights Try.prog t, n ≤ reachBytes := fun j t d e1 e2 n hn => by
    have := List.all_eq_true.1 hsz n (DataW.weights_mem_each (j := j) e1 e2 n hn)
    simpa using this
  obtain ⟨t, hn⟩ := prog_in (hval 0 _ v0 rfl rfl) h0 (hall 0 _ _ rfl rfl)
  obtain ⟨u, hm, _, _⟩ := node_in (hval 1 _ v1 rfl rfl) h1 (hall 1 _ _ rfl rfl)
  have hlt : ∀ x ∈ p0 ++ p1, x.block < W.heap.size := fun x hx => by simpa using hW'.lt x (by simpa using hx)
  refine (Blocks_walk t u v0 v1 W hn hm).mono fun e W' ⟨he, hb⟩ => ?_
  subst he
  exact ⟨_, rfl, _, _, _, [], _, [], hW', trodAll_mk1 (shut_bool Try.underlying4 true), trodAll_mk2 (prog_kept h0 hb fun x hx => hlt x (by simp [hx])) (node_kept h1 hb fun x hx => hlt x (by simp [hx])), rfl, hb.frame _, fun h => by cases h⟩

theorem Blocks_holds : Rows.SimplifyBlocksSaid :=
  OpenClaim.holds_of_wide 7 Try.f7 rfl rfl rfl rfl rfl rfl rfl ⟨rfl, rfl, rfl, rfl, rfl⟩ rfl rfl rfl rfl rfl (by kernel_rfl) Try.func7 (by kernel_rfl)
    (of_decide_eq_true (by kernel_rfl)) (by unfold Func.isWrapper; first | (rw [if_pos (by decide +kernel)]; kernel_rfl) | (rw [if_neg (by decide +kernel)]; exact ⟨rfl, rfl⟩))
    (fun os started H enc _ => Blocks_lifted os started H enc)

end Go.Proofs.Ytldcjboignbfpaa
