/-
  For every value of type api.Node of bulk at most 1048576 the law backsteplaw46.SimplifyEmpties returns true, and its argument reads behind the call as it read before.
  Conditions: none beyond those of the given statement (a started machine; what the call reads is of bulk at most 1048576 and lies within the form's own reach).
-/
import Derived.Test.YtldcjboignbfpaaLaw5
import Derived.Test.YtldcjboignbfpaaLift
import Derived.JoinedCond
import Derived.Deep.CondSized
namespace Go.Proofs.Ytldcjboignbfpaa
open Go.RowKit Go.ChangeShapes Go.WideShapes Go.ChangeAt Go.Deep

theorem size_pos (t : T) : 1 ≤ size t := by cases t; simp [size]; try omega
theorem sizes_le (ks : List T) : ks.length ≤ sizes ks := by
  induction ks with
  | nil => simp
  | cons t ts ih => have := size_pos t; simp [sizes]; omega
theorem length_size (t : T) : t.ks.length ≤ size t := by
  cases t with
  | nd k n s ks => have := sizes_le ks; simp [size]; omega

set_option maxRecDepth 100000 in
theorem Empties_lifted (os : Os) (started : os.Started) (H : Type) (enc : TypeId × Value → H) (F : Stop.Interp) :
    ReturnsInHanded {} Try.checked os 5 .any ((Rows.OpenSpec.upto Rows.simplifyEmptiesSpec).pre6 enc Try.prog Try.f5 Rows.simplifyEmptiesUptoRow.domain false) (((Rows.OpenSpec.upto Rows.simplifyEmptiesSpec).at F).post enc Try.prog Try.f5 false true false false) := by
  refine returnsInHanded_of_cond_sized (C := Try.checked) (s := Rows.OpenSpec.upto Rows.simplifyEmptiesSpec) (k := Rows.uptoSmall) rfl Try.own started (by kernel_rfl) Try.func5
    (OpenSpec.witness (enc := enc) (C := Try.checked) (s := Rows.OpenSpec.upto Rows.simplifyEmptiesSpec) (k := Rows.uptoSmall) rfl false ⟨#[], #[.agg #[.int .u8 0, .int .i64 0, .string ⟨#[]⟩, .slice none 0 0]], []⟩ 8 (by kernel_rfl) (by kernel_rfl) (by kernel_rfl)
      (x := ([.agg [.lit (.int .u8 0), .lit (.int .i64 0), .lit (.string []), .nil]], [], [])) (by kernel_rfl) rfl (by kernel_rfl)) ?_
  intro W base args ds gs before hval0 hW _ hk hsz0 _
  have hsz : (DataW.weightsEach Try.prog (Try.f5.params.toList ++ (Rows.OpenSpec.upto Rows.simplifyEmptiesSpec).bare.plain.varTypes Try.prog) (ds ++ gs)).all (· ≤ reachBytes) = true := hsz0
  clear hsz0
  have hval : ∀ (j : Nat) t v, Try.f5.params[j]? = some t → args[j]? = some v → Value.okWide Try.prog W .any base t v := hval0
  have hW' := hW
  obtain ⟨p, q, hA0, hV, rfl, _, _⟩ := hW
  have hA : DataW.TrodAll enc Try.prog W 0 (fun _ => true) true Try.f5.params.toList args.toList ds p := hA0
  rw [Try.params5] at hA hval hsz
  obtain ⟨v0, d0, rfl, rfl, h0⟩ := trodAll_one hA
  obtain ⟨rfl, rfl⟩ := trodVars_none hV
  clear hA0 hval0
  simp only [List.append_nil] at hW' hk
  obtain ⟨t, hn, _, hbulk⟩ := node_in (hval 0 _ v0 rfl rfl) h0 (fun n hn => by
    have := List.all_eq_true.1 hsz n (DataW.weights_mem_each (j := 0) rfl rfl n hn)
    simpa using this)
  have hbd : t.ks.length + t.ks.length ≤ LK := by
    have h1 : Rows.uptoBulkAll [d0] ≤ 1048576 := of_decide_eq_true hk
    simp only [Rows.uptoBulkAll] at h1
    have h2 := length_size t
    unfold LK
    omega
  have hlt : ∀ x ∈ p, x.block < W.heap.size := fun x hx => by simpa using hW'.lt x (by simpa using hx)
  refine (Empties_walk t v0 W hn hbd).mono fun e W' ⟨he, hb⟩ => ?_
  subst he
  exact ⟨_, rfl, _, _, _, [], _, [], hW', trodAll_mk1 (shut_bool Try.underlying4 true), trodAll_mk1 (node_kept h0 hb hlt), rfl, hb.frame _, fun h => by cases h⟩

theorem Empties_holds : Rows.SimplifyEmptiesUptoSaid :=
  OpenClaim.holds_of_cond 5 Try.f5 rfl rfl rfl rfl rfl rfl rfl ⟨rfl, rfl, rfl, rfl, rfl⟩ rfl rfl rfl rfl rfl (by kernel_rfl) Try.func5 (by kernel_rfl)
    (of_decide_eq_true (by kernel_rfl)) (by unfold Func.isWrapper; first | (rw [if_pos (by decide +kernel)]; kernel_rfl) | (rw [if_neg (by decide +kernel)]; exact ⟨rfl, rfl⟩))
    (fun os started H enc _ F => Empties_lifted os started H enc F)

end Go.Proofs.Ytldcjboignbfpaa
