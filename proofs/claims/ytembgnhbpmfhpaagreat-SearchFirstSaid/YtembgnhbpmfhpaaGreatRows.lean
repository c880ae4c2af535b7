/-
  NARROWER THAN 'FOR EVERY INPUT', by the rows' own cells (each row's printed sentence says how): SearchOutcomes: loops · SearchLeast: loops · SearchNested: loops · SearchAppended: loops · WitnessExplains: loops.
  DERIVED. THE GIVEN ROWS OF THIS SEAT. 6 by the template 'for every input the law returns true; each argument reads behind the call as it read before'; 0 by the template 'total and deterministic' (their statements: YtembgnhbpmfhpaaGreatTotals.lean).
  GIVEN WITH THE SEED: the statements are not yours to turn. If you find one false, say at which input.
  Laid BY PROGRAM, IN A SANDBOX (cutbox-rows.mjs): the forced cells as the released guide's own fill.sh prints them over the translation dfb53d4e74f41974… (all of the seat's roots in one cut). By AI agents, Wed Nov 11 2026. No macro, syntax, notation, axiom, sorry.
-/
import Derived.Test.YtembgnhbpmfhpaaGreatChecked
import GoSem.Claim
import GoSem.ClaimJoined
import GoSem.ClaimMapViews
import Derived.JoinedTies
import Derived.KernelRfl
namespace Go.Proofs.YtembgnhbpmfhpaaGreat
/- THE CELL 'sum', in the pinned program and in every row, IS THE sha256 OF THE DUMP (.gsa) THAT YtembgnhbpmfhpaaGreatProg.lean LOADS. Nothing in Lean hashes anything: it is a label: what it is worth is what the hold of that sum in a sandbox is worth. -/
noncomputable def Tryz.pinned : Pinned := { name := "ytembgnhbpmfhpaagreat", sum := "dfb53d4e74f419744d6b6cace6669b466546099bacd335740170b05859f671e7", checked := Tryz.checked }
namespace Rows
def none {H : Type} : Left H := { results := [], args := [] }

/-- 'backsteplaw20.SearchFirst': WHATEVER THE INPUT: true; the input reads as it did. -/
def searchFirstSpec : ChangeSpec := { name := "searchFirst", fn := fun _ => fun
  | [d1, d2, d3] => { results := [.lit (.bool true)], args := [d1, d2, d3] }
  | _ => none }
def searchFirstRow : OpenClaim := { program := "ytembgnhbpmfhpaagreat", sum := "dfb53d4e74f419744d6b6cace6669b466546099bacd335740170b05859f671e7", func := "backstep/backsteplaw20.SearchFirst", spec := "searchFirst", inPlace := ["internal/bytealg.IndexByteString", "slices.overlaps[int]"], unfollowed := true, recurses := true, apart := false }
def SearchFirstSaid : Prop := searchFirstRow.holds Tryz.pinned (OpenSpec.ofChange searchFirstSpec)

/-- ITS FALSE NEIGHBOUR: 'it returns false'. Refute it at one input. -/
def searchFirstWrong : ChangeSpec := { name := "searchFirst", fn := fun _ => fun
  | [d1, d2, d3] => { results := [.lit (.bool false)], args := [d1, d2, d3] }
  | _ => none }
def SearchFirstWrongFalsely : Prop := searchFirstRow.holds Tryz.pinned (OpenSpec.ofChange searchFirstWrong)

/-- 'backsteplaw20.SearchOutcomes': WHATEVER THE INPUT: true; the input reads as it did. -/
def searchOutcomesSpec : ChangeSpec := { name := "searchOutcomes", fn := fun _ => fun
  | [d1, d2, d3] => { results := [.lit (.bool true)], args := [d1, d2, d3] }
  | _ => none }
def searchOutcomesRow : OpenClaim := { program := "ytembgnhbpmfhpaagreat", sum := "dfb53d4e74f419744d6b6cace6669b466546099bacd335740170b05859f671e7", func := "backstep/backsteplaw20.SearchOutcomes", spec := "searchOutcomes", inPlace := ["internal/bytealg.IndexByteString", "slices.overlaps[int]"], unfollowed := true, recurses := true, loops := true, apart := false }
def SearchOutcomesSaid : Prop := searchOutcomesRow.holds Tryz.pinned (OpenSpec.ofChange searchOutcomesSpec)

/-- ITS FALSE NEIGHBOUR: 'it returns false'. Refute it at one input. -/
def searchOutcomesWrong : ChangeSpec := { name := "searchOutcomes", fn := fun _ => fun
  | [d1, d2, d3] => { results := [.lit (.bool false)], args := [d1, d2, d3] }
  | _ => none }
def SearchOutcomesWrongFalsely : Prop := searchOutcomesRow.holds Tryz.pinned (OpenSpec.ofChange searchOutcomesWrong)

/-- 'backsteplaw20.SearchLeast': WHATEVER THE INPUT: true; the input reads as it did. -/
def searchLeastSpec : ChangeSpec := { name := "searchLeast", fn := fun _ => fun
  | [d1, d2, d3, d4, d5] => { results := [.lit (.bool true)], args := [d1, d2, d3, d4, d5] }
  | _ => none }
def searchLeastRow : OpenClaim := { program := "ytembgnhbpmfhpaagreat", sum := "dfb53d4e74f419744d6b6cace6669b466546099bacd335740170b05859f671e7", func := "backstep/backsteplaw20.SearchLeast", spec := "searchLeast", inPlace := ["internal/bytealg.IndexByteString", "slices.overlaps[int]"], unfollowed := true, recurses := true, loops := true, apart := false }
def SearchLeastSaid : Prop := searchLeastRow.holds Tryz.pinned (OpenSpec.ofChange searchLeastSpec)

/-- ITS FALSE NEIGHBOUR: 'it returns false'. Refute it at one input. -/
def searchLeastWrong : ChangeSpec := { name := "searchLeast", fn := fun _ => fun
  | [d1, d2, d3, d4, d5] => { results := [.lit (.bool false)], args := [d1, d2, d3, d4, d5] }
  | _ => none }
def SearchLeastWrongFalsely : Prop := searchLeastRow.holds Tryz.pinned (OpenSpec.ofChange searchLeastWrong)

/-- 'backsteplaw20.SearchNested': WHATEVER THE INPUT: true; the input reads as it did. -/
def searchNestedSpec : ChangeSpec := { name := "searchNested", fn := fun _ => fun
  | [d1, d2, d3, d4, d5, d6] => { results := [.lit (.bool true)], args := [d1, d2, d3, d4, d5, d6] }
  | _ => none }
def searchNestedRow : OpenClaim := { program := "ytembgnhbpmfhpaagreat", sum := "dfb53d4e74f419744d6b6cace6669b466546099bacd335740170b05859f671e7", func := "backstep/backsteplaw20.SearchNested", spec := "searchNested", inPlace := ["internal/bytealg.IndexByteString", "slices.overlaps[int]"], unfollowed := true, recurses := true, loops := true, apart := false }
def SearchNestedSaid : Prop := searchNestedRow.holds Tryz.pinned (OpenSpec.ofChange searchNestedSpec)

/-- ITS FALSE NEIGHBOUR: 'it returns false'. Refute it at one input. -/
def searchNestedWrong : ChangeSpec := { name := "searchNested", fn := fun _ => fun
  | [d1, d2, d3, d4, d5, d6] => { results := [.lit (.bool false)], args := [d1, d2, d3, d4, d5, d6] }
  | _ => none }
def SearchNestedWrongFalsely : Prop := searchNestedRow.holds Tryz.pinned (OpenSpec.ofChange searchNestedWrong)

/-- 'backsteplaw20.SearchAppended': WHATEVER THE INPUT: true; the input reads as it did. -/
def searchAppendedSpec : ChangeSpec := { name := "searchAppended", fn := fun _ => fun
  | [d1, d2, d3] => { results := [.lit (.bool true)], args := [d1, d2, d3] }
  | _ => none }
def searchAppendedRow : OpenClaim := { program := "ytembgnhbpmfhpaagreat", sum := "dfb53d4e74f419744d6b6cace6669b466546099bacd335740170b05859f671e7", func := "backstep/backsteplaw20.SearchAppended", spec := "searchAppended", inPlace := ["internal/bytealg.IndexByteString", "slices.overlaps[int]"], unfollowed := true, recurses := true, loops := true, apart := false }
def SearchAppendedSaid : Prop := searchAppendedRow.holds Tryz.pinned (OpenSpec.ofChange searchAppendedSpec)

/-- ITS FALSE NEIGHBOUR: 'it returns false'. Refute it at one input. -/
def searchAppendedWrong : ChangeSpec := { name := "searchAppended", fn := fun _ => fun
  | [d1, d2, d3] => { results := [.lit (.bool false)], args := [d1, d2, d3] }
  | _ => none }
def SearchAppendedWrongFalsely : Prop := searchAppendedRow.holds Tryz.pinned (OpenSpec.ofChange searchAppendedWrong)

/-- 'backsteplaw19.WitnessExplains': WHATEVER THE INPUT: true; the input reads as it did. -/
def witnessExplainsSpec : ChangeSpec := { name := "witnessExplains", fn := fun _ => fun
  | [d1, d2, d3, d4, d5] => { results := [.lit (.bool true)], args := [d1, d2, d3, d4, d5] }
  | _ => none }
def witnessExplainsRow : OpenClaim := { program := "ytembgnhbpmfhpaagreat", sum := "dfb53d4e74f419744d6b6cace6669b466546099bacd335740170b05859f671e7", func := "backstep/backsteplaw19.WitnessExplains", spec := "witnessExplains", inPlace := ["internal/bytealg.IndexByteString", "slices.overlaps[int]"], unfollowed := true, recurses := true, loops := true, apart := false }
def WitnessExplainsSaid : Prop := witnessExplainsRow.holds Tryz.pinned (OpenSpec.ofChange witnessExplainsSpec)

/-- ITS FALSE NEIGHBOUR: 'it returns false'. Refute it at one input. -/
def witnessExplainsWrong : ChangeSpec := { name := "witnessExplains", fn := fun _ => fun
  | [d1, d2, d3, d4, d5] => { results := [.lit (.bool false)], args := [d1, d2, d3, d4, d5] }
  | _ => none }
def WitnessExplainsWrongFalsely : Prop := witnessExplainsRow.holds Tryz.pinned (OpenSpec.ofChange witnessExplainsWrong)

/- THE SECOND FORM. 'bulk': how many values and letters a reading holds, each counted each time it is reached (what is shared counts as often as it is met; a slice's spare places count too). A statement '..UptoSaid' is the law's where the arguments, and the package variables that the reading takes, are together of bulk at most 1048576: NARROWER than '..Said'. Prove '..Said' where nothing that the law and all that it calls make is longer than what came in: it says more and counts as full. Else prove '..UptoSaid'. A law counts once. -/
mutual
def uptoBulk {H : Type} : DataW H → Nat
  | .lit (.string bytes) => bytes.length + 1
  | .lit _ => 1
  | .nil => 1
  | .ptr d => uptoBulk d + 1
  | .slice elems spare => uptoBulkAll elems + uptoBulkAll spare + 1
  | .agg parts => uptoBulkAll parts + 1
  | .iface _ d => uptoBulk d + 1
  | .map entries => uptoBulkEntries entries + 1
  | .held _ => 1
def uptoBulkAll {H : Type} : List (DataW H) → Nat
  | [] => 0
  | d :: r => uptoBulk d + uptoBulkAll r
def uptoBulkEntries {H : Type} : List (Lit × DataW H) → Nat
  | [] => 0
  | x :: r => uptoBulkEntry x + uptoBulkEntries r
def uptoBulkEntry {H : Type} : Lit × DataW H → Nat
  | (.string bytes, d) => bytes.length + uptoBulk d + 1
  | (_, d) => uptoBulk d + 1
 end
def uptoSmall : (H : Type) → List (DataW H) → Bool := fun _ ds => decide (uptoBulkAll ds ≤ 1048576)
def OpenSpec.upto (s : _root_.Go.ChangeSpec) : _root_.Go.OpenSpec := { _root_.Go.OpenSpec.ofChange s with cond := some uptoSmall }

/-- 'backsteplaw20.SearchFirst', WHERE WHAT IT READS IS OF BULK AT MOST 1048576: true; the input reads as it did. -/
def searchFirstUptoRow : OpenClaim := { program := "ytembgnhbpmfhpaagreat", sum := "dfb53d4e74f419744d6b6cace6669b466546099bacd335740170b05859f671e7", func := "backstep/backsteplaw20.SearchFirst", spec := "searchFirst", inPlace := ["internal/bytealg.IndexByteString", "slices.overlaps[int]"], unfollowed := true, recurses := true, apart := false, narrowed := true }
def SearchFirstUptoSaid : Prop := searchFirstUptoRow.holds Tryz.pinned (OpenSpec.upto searchFirstSpec)

/-- 'backsteplaw20.SearchOutcomes', WHERE WHAT IT READS IS OF BULK AT MOST 1048576: true; the input reads as it did. -/
def searchOutcomesUptoRow : OpenClaim := { program := "ytembgnhbpmfhpaagreat", sum := "dfb53d4e74f419744d6b6cace6669b466546099bacd335740170b05859f671e7", func := "backstep/backsteplaw20.SearchOutcomes", spec := "searchOutcomes", inPlace := ["internal/bytealg.IndexByteString", "slices.overlaps[int]"], unfollowed := true, recurses := true, loops := true, apart := false, narrowed := true }
def SearchOutcomesUptoSaid : Prop := searchOutcomesUptoRow.holds Tryz.pinned (OpenSpec.upto searchOutcomesSpec)

/-- 'backsteplaw20.SearchLeast', WHERE WHAT IT READS IS OF BULK AT MOST 1048576: true; the input reads as it did. -/
def searchLeastUptoRow : OpenClaim := { program := "ytembgnhbpmfhpaagreat", sum := "dfb53d4e74f419744d6b6cace6669b466546099bacd335740170b05859f671e7", func := "backstep/backsteplaw20.SearchLeast", spec := "searchLeast", inPlace := ["internal/bytealg.IndexByteString", "slices.overlaps[int]"], unfollowed := true, recurses := true, loops := true, apart := false, narrowed := true }
def SearchLeastUptoSaid : Prop := searchLeastUptoRow.holds Tryz.pinned (OpenSpec.upto searchLeastSpec)

/-- 'backsteplaw20.SearchNested', WHERE WHAT IT READS IS OF BULK AT MOST 1048576: true; the input reads as it did. -/
def searchNestedUptoRow : OpenClaim := { program := "ytembgnhbpmfhpaagreat", sum := "dfb53d4e74f419744d6b6cace6669b466546099bacd335740170b05859f671e7", func := "backstep/backsteplaw20.SearchNested", spec := "searchNested", inPlace := ["internal/bytealg.IndexByteString", "slices.overlaps[int]"], unfollowed := true, recurses := true, loops := true, apart := false, narrowed := true }
def SearchNestedUptoSaid : Prop := searchNestedUptoRow.holds Tryz.pinned (OpenSpec.upto searchNestedSpec)

/-- 'backsteplaw20.SearchAppended', WHERE WHAT IT READS IS OF BULK AT MOST 1048576: true; the input reads as it did. -/
def searchAppendedUptoRow : OpenClaim := { program := "ytembgnhbpmfhpaagreat", sum := "dfb53d4e74f419744d6b6cace6669b466546099bacd335740170b05859f671e7", func := "backstep/backsteplaw20.SearchAppended", spec := "searchAppended", inPlace := ["internal/bytealg.IndexByteString", "slices.overlaps[int]"], unfollowed := true, recurses := true, loops := true, apart := false, narrowed := true }
def SearchAppendedUptoSaid : Prop := searchAppendedUptoRow.holds Tryz.pinned (OpenSpec.upto searchAppendedSpec)

/-- 'backsteplaw19.WitnessExplains', WHERE WHAT IT READS IS OF BULK AT MOST 1048576: true; the input reads as it did. -/
def witnessExplainsUptoRow : OpenClaim := { program := "ytembgnhbpmfhpaagreat", sum := "dfb53d4e74f419744d6b6cace6669b466546099bacd335740170b05859f671e7", func := "backstep/backsteplaw19.WitnessExplains", spec := "witnessExplains", inPlace := ["internal/bytealg.IndexByteString", "slices.overlaps[int]"], unfollowed := true, recurses := true, loops := true, apart := false, narrowed := true }
def WitnessExplainsUptoSaid : Prop := witnessExplainsUptoRow.holds Tryz.pinned (OpenSpec.upto witnessExplainsSpec)

end Rows
end Go.Proofs.YtembgnhbpmfhpaaGreat
