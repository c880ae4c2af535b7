/-
  NARROWER THAN 'FOR EVERY INPUT', by the rows' own cells (each row's printed sentence says how): SimplifyCancels: loops · SimplifyInverts: loops · SimplifyEmpties: loops · SimplifyInserts: loops · SimplifyBlocks: loops · SimplifyFixed: loops · SimplifyAccepts: loops.
  DERIVED. THE GIVEN ROWS OF THIS SEAT. 7 by the template 'for every input the law returns true; each argument reads behind the call as it read before'; 0 by the template 'total and deterministic' (their statements: YtldcjboignbfpaaTotals.lean).
  GIVEN WITH THE SEED: the statements are not yours to turn. If you find one false, say at which input.
  Laid BY PROGRAM, IN A SANDBOX (cutbox-rows.mjs): the forced cells as the released guide's own fill.sh prints them over the translation 21b142d1413f1d21… (all of the seat's roots in one cut). By AI agents, Wed Nov 11 2026. No macro, syntax, notation, axiom, sorry.
-/
import Derived.Test.YtldcjboignbfpaaChecked
import GoSem.Claim
import GoSem.ClaimJoined
import GoSem.ClaimMapViews
import Derived.JoinedTies
import Derived.KernelRfl
namespace Go.Proofs.Ytldcjboignbfpaa
/- THE CELL 'sum', in the pinned program and in every row, IS THE sha256 OF THE DUMP (.gsa) THAT YtldcjboignbfpaaProg.lean LOADS. Nothing in Lean hashes anything: it is a label: what it is worth is what the hold of that sum in a sandbox is worth. -/
noncomputable def Try.pinned : Pinned := { name := "ytldcjboignbfpaa", sum := "21b142d1413f1d2115a83b9da7c06ed8a107610607f5509c4bf8de05df5f0b1a", checked := Try.checked }
namespace Rows
def none {H : Type} : Left H := { results := [], args := [] }

/-- 'backsteplaw46.SimplifyCancels': WHATEVER THE INPUT: true; the input reads as it did. -/
def simplifyCancelsSpec : ChangeSpec := { name := "simplifyCancels", fn := fun _ => fun
  | [d1, d2] => { results := [.lit (.bool true)], args := [d1, d2] }
  | _ => none }
def simplifyCancelsRow : OpenClaim := { program := "ytldcjboignbfpaa", sum := "21b142d1413f1d2115a83b9da7c06ed8a107610607f5509c4bf8de05df5f0b1a", func := "backstep/backsteplaw46.SimplifyCancels", spec := "simplifyCancels", inPlace := ["internal/bytealg.IndexByteString"], unfollowed := true, recurses := true, loops := true, apart := false }
def SimplifyCancelsSaid : Prop := simplifyCancelsRow.holds Try.pinned (OpenSpec.ofChange simplifyCancelsSpec)

/-- ITS FALSE NEIGHBOUR: 'it returns false'. Refute it at one input. -/
def simplifyCancelsWrong : ChangeSpec := { name := "simplifyCancels", fn := fun _ => fun
  | [d1, d2] => { results := [.lit (.bool false)], args := [d1, d2] }
  | _ => none }
def SimplifyCancelsWrongFalsely : Prop := simplifyCancelsRow.holds Try.pinned (OpenSpec.ofChange simplifyCancelsWrong)

/-- 'backsteplaw46.SimplifyInverts': WHATEVER THE INPUT: true; the input reads as it did. -/
def simplifyInvertsSpec : ChangeSpec := { name := "simplifyInverts", fn := fun _ => fun
  | [d] => { results := [.lit (.bool true)], args := [d] }
  | _ => none }
def simplifyInvertsRow : OpenClaim := { program := "ytldcjboignbfpaa", sum := "21b142d1413f1d2115a83b9da7c06ed8a107610607f5509c4bf8de05df5f0b1a", func := "backstep/backsteplaw46.SimplifyInverts", spec := "simplifyInverts", inPlace := ["internal/bytealg.IndexByteString"], unfollowed := true, recurses := true, loops := true, apart := false }
def SimplifyInvertsSaid : Prop := simplifyInvertsRow.holds Try.pinned (OpenSpec.ofChange simplifyInvertsSpec)

/-- ITS FALSE NEIGHBOUR: 'it returns false'. Refute it at one input. -/
def simplifyInvertsWrong : ChangeSpec := { name := "simplifyInverts", fn := fun _ => fun
  | [d] => { results := [.lit (.bool false)], args := [d] }
  | _ => none }
def SimplifyInvertsWrongFalsely : Prop := simplifyInvertsRow.holds Try.pinned (OpenSpec.ofChange simplifyInvertsWrong)

/-- 'backsteplaw46.SimplifyEmpties': WHATEVER THE INPUT: true; the input reads as it did. -/
def simplifyEmptiesSpec : ChangeSpec := { name := "simplifyEmpties", fn := fun _ => fun
  | [d] => { results := [.lit (.bool true)], args := [d] }
  | _ => none }
def simplifyEmptiesRow : OpenClaim := { program := "ytldcjboignbfpaa", sum := "21b142d1413f1d2115a83b9da7c06ed8a107610607f5509c4bf8de05df5f0b1a", func := "backstep/backsteplaw46.SimplifyEmpties", spec := "simplifyEmpties", inPlace := ["internal/bytealg.IndexByteString"], unfollowed := true, recurses := true, loops := true, apart := false }
def SimplifyEmptiesSaid : Prop := simplifyEmptiesRow.holds Try.pinned (OpenSpec.ofChange simplifyEmptiesSpec)

/-- ITS FALSE NEIGHBOUR: 'it returns false'. Refute it at one input. -/
def simplifyEmptiesWrong : ChangeSpec := { name := "simplifyEmpties", fn := fun _ => fun
  | [d] => { results := [.lit (.bool false)], args := [d] }
  | _ => none }
def SimplifyEmptiesWrongFalsely : Prop := simplifyEmptiesRow.holds Try.pinned (OpenSpec.ofChange simplifyEmptiesWrong)

/-- 'backsteplaw46.SimplifyInserts': WHATEVER THE INPUT: true; the input reads as it did. -/
def simplifyInsertsSpec : ChangeSpec := { name := "simplifyInserts", fn := fun _ => fun
  | [d1, d2, d3] => { results := [.lit (.bool true)], args := [d1, d2, d3] }
  | _ => none }
def simplifyInsertsRow : OpenClaim := { program := "ytldcjboignbfpaa", sum := "21b142d1413f1d2115a83b9da7c06ed8a107610607f5509c4bf8de05df5f0b1a", func := "backstep/backsteplaw46.SimplifyInserts", spec := "simplifyInserts", inPlace := ["internal/bytealg.IndexByteString"], unfollowed := true, recurses := true, loops := true, apart := false }
def SimplifyInsertsSaid : Prop := simplifyInsertsRow.holds Try.pinned (OpenSpec.ofChange simplifyInsertsSpec)

/-- ITS FALSE NEIGHBOUR: 'it returns false'. Refute it at one input. -/
def simplifyInsertsWrong : ChangeSpec := { name := "simplifyInserts", fn := fun _ => fun
  | [d1, d2, d3] => { results := [.lit (.bool false)], args := [d1, d2, d3] }
  | _ => none }
def SimplifyInsertsWrongFalsely : Prop := simplifyInsertsRow.holds Try.pinned (OpenSpec.ofChange simplifyInsertsWrong)

/-- 'backsteplaw46.SimplifyBlocks': WHATEVER THE INPUT: true; the input reads as it did. -/
def simplifyBlocksSpec : ChangeSpec := { name := "simplifyBlocks", fn := fun _ => fun
  | [d1, d2] => { results := [.lit (.bool true)], args := [d1, d2] }
  | _ => none }
def simplifyBlocksRow : OpenClaim := { program := "ytldcjboignbfpaa", sum := "21b142d1413f1d2115a83b9da7c06ed8a107610607f5509c4bf8de05df5f0b1a", func := "backstep/backsteplaw46.SimplifyBlocks", spec := "simplifyBlocks", inPlace := ["internal/bytealg.IndexByteString"], unfollowed := true, recurses := true, loops := true, apart := false }
def SimplifyBlocksSaid : Prop := simplifyBlocksRow.holds Try.pinned (OpenSpec.ofChange simplifyBlocksSpec)

/-- ITS FALSE NEIGHBOUR: 'it returns false'. Refute it at one input. -/
def simplifyBlocksWrong : ChangeSpec := { name := "simplifyBlocks", fn := fun _ => fun
  | [d1, d2] => { results := [.lit (.bool false)], args := [d1, d2] }
  | _ => none }
def SimplifyBlocksWrongFalsely : Prop := simplifyBlocksRow.holds Try.pinned (OpenSpec.ofChange simplifyBlocksWrong)

/-- 'backsteplaw46.SimplifyFixed': WHATEVER THE INPUT: true; the input reads as it did. -/
def simplifyFixedSpec : ChangeSpec := { name := "simplifyFixed", fn := fun _ => fun
  | [d] => { results := [.lit (.bool true)], args := [d] }
  | _ => none }
def simplifyFixedRow : OpenClaim := { program := "ytldcjboignbfpaa", sum := "21b142d1413f1d2115a83b9da7c06ed8a107610607f5509c4bf8de05df5f0b1a", func := "backstep/backsteplaw46.SimplifyFixed", spec := "simplifyFixed", inPlace := ["internal/bytealg.IndexByteString"], unfollowed := true, recurses := true, loops := true, apart := false }
def SimplifyFixedSaid : Prop := simplifyFixedRow.holds Try.pinned (OpenSpec.ofChange simplifyFixedSpec)

/-- ITS FALSE NEIGHBOUR: 'it returns false'. Refute it at one input. -/
def simplifyFixedWrong : ChangeSpec := { name := "simplifyFixed", fn := fun _ => fun
  | [d] => { results := [.lit (.bool false)], args := [d] }
  | _ => none }
def SimplifyFixedWrongFalsely : Prop := simplifyFixedRow.holds Try.pinned (OpenSpec.ofChange simplifyFixedWrong)

/-- 'backsteplaw46.SimplifyAccepts': WHATEVER THE INPUT: true; the input reads as it did. -/
def simplifyAcceptsSpec : ChangeSpec := { name := "simplifyAccepts", fn := fun _ => fun
  | [d] => { results := [.lit (.bool true)], args := [d] }
  | _ => none }
def simplifyAcceptsRow : OpenClaim := { program := "ytldcjboignbfpaa", sum := "21b142d1413f1d2115a83b9da7c06ed8a107610607f5509c4bf8de05df5f0b1a", func := "backstep/backsteplaw46.SimplifyAccepts", spec := "simplifyAccepts", inPlace := ["internal/bytealg.IndexByteString"], unfollowed := true, recurses := true, loops := true, apart := false }
def SimplifyAcceptsSaid : Prop := simplifyAcceptsRow.holds Try.pinned (OpenSpec.ofChange simplifyAcceptsSpec)

/-- ITS FALSE NEIGHBOUR: 'it returns false'. Refute it at one input. -/
def simplifyAcceptsWrong : ChangeSpec := { name := "simplifyAccepts", fn := fun _ => fun
  | [d] => { results := [.lit (.bool false)], args := [d] }
  | _ => none }
def SimplifyAcceptsWrongFalsely : Prop := simplifyAcceptsRow.holds Try.pinned (OpenSpec.ofChange simplifyAcceptsWrong)

/- THE SECOND FORM. 'bulk': how many values and letters a reading holds, each counted each time it is reached (what is shared counts as often as it is met; a slice's spare places count too). A statement '..UptoSaid' is the law's where the arguments, and the package variables that the reading takes, are together of bulk at most 1048576: NARROWER than '..Said'. Prove '..Said' where nothing that the law and all that it calls make is longer than what came in: it says more and counts as full. Else prove '..UptoSaid'. A law counts once. -/
mutual
def uptoBulk {H : Type} : DataW H → Nat
  | .lit (.string bytes) => bytes.length + 1
  | .lit _ => 1
  | .nil => 1
  | .ptr d => uptoBulk d + 1
  | .slice elems spare => uptoBulkAll elems + uptoBulkAll spare + 1
  | .agg parts => uptoBulkAll parts + 1
  | .iface _ d => uptoBulk d + 1
  | .map entries => uptoBulkEntries entries + 1
  | .held _ => 1
def uptoBulkAll {H : Type} : List (DataW H) → Nat
  | [] => 0
  | d :: r => uptoBulk d + uptoBulkAll r
def uptoBulkEntries {H : Type} : List (Lit × DataW H) → Nat
  | [] => 0
  | x :: r => uptoBulkEntry x + uptoBulkEntries r
def uptoBulkEntry {H : Type} : Lit × DataW H → Nat
  | (.string bytes, d) => bytes.length + uptoBulk d + 1
  | (_, d) => uptoBulk d + 1
 end
def uptoSmall : (H : Type) → List (DataW H) → Bool := fun _ ds => decide (uptoBulkAll ds ≤ 1048576)
def OpenSpec.upto (s : _root_.Go.ChangeSpec) : _root_.Go.OpenSpec := { _root_.Go.OpenSpec.ofChange s with cond := some uptoSmall }

/-- 'backsteplaw46.SimplifyCancels', WHERE WHAT IT READS IS OF BULK AT MOST 1048576: true; the input reads as it did. -/
def simplifyCancelsUptoRow : OpenClaim := { program := "ytldcjboignbfpaa", sum := "21b142d1413f1d2115a83b9da7c06ed8a107610607f5509c4bf8de05df5f0b1a", func := "backstep/backsteplaw46.SimplifyCancels", spec := "simplifyCancels", inPlace := ["internal/bytealg.IndexByteString"], unfollowed := true, recurses := true, loops := true, apart := false, narrowed := true }
def SimplifyCancelsUptoSaid : Prop := simplifyCancelsUptoRow.holds Try.pinned (OpenSpec.upto simplifyCancelsSpec)

/-- 'backsteplaw46.SimplifyInverts', WHERE WHAT IT READS IS OF BULK AT MOST 1048576: true; the input reads as it did. -/
def simplifyInvertsUptoRow : OpenClaim := { program := "ytldcjboignbfpaa", sum := "21b142d1413f1d2115a83b9da7c06ed8a107610607f5509c4bf8de05df5f0b1a", func := "backstep/backsteplaw46.SimplifyInverts", spec := "simplifyInverts", inPlace := ["internal/bytealg.IndexByteString"], unfollowed := true, recurses := true, loops := true, apart := false, narrowed := true }
def SimplifyInvertsUptoSaid : Prop := simplifyInvertsUptoRow.holds Try.pinned (OpenSpec.upto simplifyInvertsSpec)

/-- 'backsteplaw46.SimplifyEmpties', WHERE WHAT IT READS IS OF BULK AT MOST 1048576: true; the input reads as it did. -/
def simplifyEmptiesUptoRow : OpenClaim := { program := "ytldcjboignbfpaa", sum := "21b142d1413f1d2115a83b9da7c06ed8a107610607f5509c4bf8de05df5f0b1a", func := "backstep/backsteplaw46.SimplifyEmpties", spec := "simplifyEmpties", inPlace := ["internal/bytealg.IndexByteString"], unfollowed := true, recurses := true, loops := true, apart := false, narrowed := true }
def SimplifyEmptiesUptoSaid : Prop := simplifyEmptiesUptoRow.holds Try.pinned (OpenSpec.upto simplifyEmptiesSpec)

/-- 'backsteplaw46.SimplifyInserts', WHERE WHAT IT READS IS OF BULK AT MOST 1048576: true; the input reads as it did. -/
def simplifyInsertsUptoRow : OpenClaim := { program := "ytldcjboignbfpaa", sum := "21b142d1413f1d2115a83b9da7c06ed8a107610607f5509c4bf8de05df5f0b1a", func := "backstep/backsteplaw46.SimplifyInserts", spec := "simplifyInserts", inPlace := ["internal/bytealg.IndexByteString"], unfollowed := true, recurses := true, loops := true, apart := false, narrowed := true }
def SimplifyInsertsUptoSaid : Prop := simplifyInsertsUptoRow.holds Try.pinned (OpenSpec.upto simplifyInsertsSpec)

/-- 'backsteplaw46.SimplifyBlocks', WHERE WHAT IT READS IS OF BULK AT MOST 1048576: true; the input reads as it did. -/
def simplifyBlocksUptoRow : OpenClaim := { program := "ytldcjboignbfpaa", sum := "21b142d1413f1d2115a83b9da7c06ed8a107610607f5509c4bf8de05df5f0b1a", func := "backstep/backsteplaw46.SimplifyBlocks", spec := "simplifyBlocks", inPlace := ["internal/bytealg.IndexByteString"], unfollowed := true, recurses := true, loops := true, apart := false, narrowed := true }
def SimplifyBlocksUptoSaid : Prop := simplifyBlocksUptoRow.holds Try.pinned (OpenSpec.upto simplifyBlocksSpec)

/-- 'backsteplaw46.SimplifyFixed', WHERE WHAT IT READS IS OF BULK AT MOST 1048576: true; the input reads as it did. -/
def simplifyFixedUptoRow : OpenClaim := { program := "ytldcjboignbfpaa", sum := "21b142d1413f1d2115a83b9da7c06ed8a107610607f5509c4bf8de05df5f0b1a", func := "backstep/backsteplaw46.SimplifyFixed", spec := "simplifyFixed", inPlace := ["internal/bytealg.IndexByteString"], unfollowed := true, recurses := true, loops := true, apart := false, narrowed := true }
def SimplifyFixedUptoSaid : Prop := simplifyFixedUptoRow.holds Try.pinned (OpenSpec.upto simplifyFixedSpec)

/-- 'backsteplaw46.SimplifyAccepts', WHERE WHAT IT READS IS OF BULK AT MOST 1048576: true; the input reads as it did. -/
def simplifyAcceptsUptoRow : OpenClaim := { program := "ytldcjboignbfpaa", sum := "21b142d1413f1d2115a83b9da7c06ed8a107610607f5509c4bf8de05df5f0b1a", func := "backstep/backsteplaw46.SimplifyAccepts", spec := "simplifyAccepts", inPlace := ["internal/bytealg.IndexByteString"], unfollowed := true, recurses := true, loops := true, apart := false, narrowed := true }
def SimplifyAcceptsUptoSaid : Prop := simplifyAcceptsUptoRow.holds Try.pinned (OpenSpec.upto simplifyAcceptsSpec)

end Rows
end Go.Proofs.Ytldcjboignbfpaa
