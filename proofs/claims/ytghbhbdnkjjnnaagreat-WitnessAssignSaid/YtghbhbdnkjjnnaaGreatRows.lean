/-
  NARROWER THAN 'FOR EVERY INPUT', by the rows' own cells (each row's printed sentence says how): WitnessLossy: loops · WitnessConstant: loops · WitnessNone: loops · WitnessAssign: loops · WitnessGrows: loops · WitnessAccepted: loops.
  DERIVED. THE GIVEN ROWS OF THIS SEAT. 6 by the template 'for every input the law returns true; each argument reads behind the call as it read before'; 0 by the template 'total and deterministic' (their statements: YtghbhbdnkjjnnaaGreatTotals.lean).
  GIVEN WITH THE SEED: the statements are not yours to turn. If you find one false, say at which input.
  Laid BY PROGRAM, IN A SANDBOX (cutbox-rows.mjs): the forced cells as the released guide's own fill.sh prints them over the translation f1babb11acfdbce2… (all of the seat's roots in one cut). By AI agents, Wed Nov 11 2026. No macro, syntax, notation, axiom, sorry.
-/
import Derived.Test.YtghbhbdnkjjnnaaGreatChecked
import GoSem.Claim
import GoSem.ClaimJoined
import GoSem.ClaimMapViews
import Derived.JoinedTies
import Derived.KernelRfl
namespace Go.Proofs.YtghbhbdnkjjnnaaGreat
/- THE CELL 'sum', in the pinned program and in every row, IS THE sha256 OF THE DUMP (.gsa) THAT YtghbhbdnkjjnnaaGreatProg.lean LOADS. Nothing in Lean hashes anything: it is a label: what it is worth is what the hold of that sum in a sandbox is worth. -/
noncomputable def Tryz.pinned : Pinned := { name := "ytghbhbdnkjjnnaagreat", sum := "f1babb11acfdbce23e99a2d7f7eb2c4809dcebdf6d89689d44e9f7a30df2bfa8", checked := Tryz.checked }
namespace Rows
def none {H : Type} : Left H := { results := [], args := [] }

/-- 'backsteplaw19.WitnessLossy': WHATEVER THE INPUT: true; the input reads as it did. -/
def witnessLossySpec : ChangeSpec := { name := "witnessLossy", fn := fun _ => fun
  | [d1, d2, d3] => { results := [.lit (.bool true)], args := [d1, d2, d3] }
  | _ => none }
def witnessLossyRow : OpenClaim := { program := "ytghbhbdnkjjnnaagreat", sum := "f1babb11acfdbce23e99a2d7f7eb2c4809dcebdf6d89689d44e9f7a30df2bfa8", func := "backstep/backsteplaw19.WitnessLossy", spec := "witnessLossy", inPlace := ["internal/bytealg.IndexByteString", "slices.overlaps[int]"], unfollowed := true, recurses := true, loops := true, apart := false }
def WitnessLossySaid : Prop := witnessLossyRow.holds Tryz.pinned (OpenSpec.ofChange witnessLossySpec)

/-- ITS FALSE NEIGHBOUR: 'it returns false'. Refute it at one input. -/
def witnessLossyWrong : ChangeSpec := { name := "witnessLossy", fn := fun _ => fun
  | [d1, d2, d3] => { results := [.lit (.bool false)], args := [d1, d2, d3] }
  | _ => none }
def WitnessLossyWrongFalsely : Prop := witnessLossyRow.holds Tryz.pinned (OpenSpec.ofChange witnessLossyWrong)

/-- 'backsteplaw19.WitnessConstant': WHATEVER THE INPUT: true; the input reads as it did. -/
def witnessConstantSpec : ChangeSpec := { name := "witnessConstant", fn := fun _ => fun
  | [d1, d2, d3, d4] => { results := [.lit (.bool true)], args := [d1, d2, d3, d4] }
  | _ => none }
def witnessConstantRow : OpenClaim := { program := "ytghbhbdnkjjnnaagreat", sum := "f1babb11acfdbce23e99a2d7f7eb2c4809dcebdf6d89689d44e9f7a30df2bfa8", func := "backstep/backsteplaw19.WitnessConstant", spec := "witnessConstant", inPlace := ["internal/bytealg.IndexByteString", "slices.overlaps[int]"], unfollowed := true, recurses := true, loops := true, apart := false }
def WitnessConstantSaid : Prop := witnessConstantRow.holds Tryz.pinned (OpenSpec.ofChange witnessConstantSpec)

/-- ITS FALSE NEIGHBOUR: 'it returns false'. Refute it at one input. -/
def witnessConstantWrong : ChangeSpec := { name := "witnessConstant", fn := fun _ => fun
  | [d1, d2, d3, d4] => { results := [.lit (.bool false)], args := [d1, d2, d3, d4] }
  | _ => none }
def WitnessConstantWrongFalsely : Prop := witnessConstantRow.holds Tryz.pinned (OpenSpec.ofChange witnessConstantWrong)

/-- 'backsteplaw19.WitnessNone': WHATEVER THE INPUT: true; the input reads as it did. -/
def witnessNoneSpec : ChangeSpec := { name := "witnessNone", fn := fun _ => fun
  | [d1, d2, d3] => { results := [.lit (.bool true)], args := [d1, d2, d3] }
  | _ => none }
def witnessNoneRow : OpenClaim := { program := "ytghbhbdnkjjnnaagreat", sum := "f1babb11acfdbce23e99a2d7f7eb2c4809dcebdf6d89689d44e9f7a30df2bfa8", func := "backstep/backsteplaw19.WitnessNone", spec := "witnessNone", inPlace := ["internal/bytealg.IndexByteString", "slices.overlaps[int]"], unfollowed := true, recurses := true, loops := true, apart := false }
def WitnessNoneSaid : Prop := witnessNoneRow.holds Tryz.pinned (OpenSpec.ofChange witnessNoneSpec)

/-- ITS FALSE NEIGHBOUR: 'it returns false'. Refute it at one input. -/
def witnessNoneWrong : ChangeSpec := { name := "witnessNone", fn := fun _ => fun
  | [d1, d2, d3] => { results := [.lit (.bool false)], args := [d1, d2, d3] }
  | _ => none }
def WitnessNoneWrongFalsely : Prop := witnessNoneRow.holds Tryz.pinned (OpenSpec.ofChange witnessNoneWrong)

/-- 'backsteplaw19.WitnessAssign': WHATEVER THE INPUT: true; the input reads as it did. -/
def witnessAssignSpec : ChangeSpec := { name := "witnessAssign", fn := fun _ => fun
  | [d1, d2, d3] => { results := [.lit (.bool true)], args := [d1, d2, d3] }
  | _ => none }
def witnessAssignRow : OpenClaim := { program := "ytghbhbdnkjjnnaagreat", sum := "f1babb11acfdbce23e99a2d7f7eb2c4809dcebdf6d89689d44e9f7a30df2bfa8", func := "backstep/backsteplaw19.WitnessAssign", spec := "witnessAssign", inPlace := ["internal/bytealg.IndexByteString", "slices.overlaps[int]"], unfollowed := true, recurses := true, loops := true, apart := false }
def WitnessAssignSaid : Prop := witnessAssignRow.holds Tryz.pinned (OpenSpec.ofChange witnessAssignSpec)

/-- ITS FALSE NEIGHBOUR: 'it returns false'. Refute it at one input. -/
def witnessAssignWrong : ChangeSpec := { name := "witnessAssign", fn := fun _ => fun
  | [d1, d2, d3] => { results := [.lit (.bool false)], args := [d1, d2, d3] }
  | _ => none }
def WitnessAssignWrongFalsely : Prop := witnessAssignRow.holds Tryz.pinned (OpenSpec.ofChange witnessAssignWrong)

/-- 'backsteplaw19.WitnessGrows': WHATEVER THE INPUT: true; the input reads as it did. -/
def witnessGrowsSpec : ChangeSpec := { name := "witnessGrows", fn := fun _ => fun
  | [d1, d2, d3, d4, d5] => { results := [.lit (.bool true)], args := [d1, d2, d3, d4, d5] }
  | _ => none }
def witnessGrowsRow : OpenClaim := { program := "ytghbhbdnkjjnnaagreat", sum := "f1babb11acfdbce23e99a2d7f7eb2c4809dcebdf6d89689d44e9f7a30df2bfa8", func := "backstep/backsteplaw19.WitnessGrows", spec := "witnessGrows", inPlace := ["internal/bytealg.IndexByteString", "slices.overlaps[int]"], unfollowed := true, recurses := true, loops := true, apart := false }
def WitnessGrowsSaid : Prop := witnessGrowsRow.holds Tryz.pinned (OpenSpec.ofChange witnessGrowsSpec)

/-- ITS FALSE NEIGHBOUR: 'it returns false'. Refute it at one input. -/
def witnessGrowsWrong : ChangeSpec := { name := "witnessGrows", fn := fun _ => fun
  | [d1, d2, d3, d4, d5] => { results := [.lit (.bool false)], args := [d1, d2, d3, d4, d5] }
  | _ => none }
def WitnessGrowsWrongFalsely : Prop := witnessGrowsRow.holds Tryz.pinned (OpenSpec.ofChange witnessGrowsWrong)

/-- 'backsteplaw19.WitnessAccepted': WHATEVER THE INPUT: true; the input reads as it did. -/
def witnessAcceptedSpec : ChangeSpec := { name := "witnessAccepted", fn := fun _ => fun
  | [d1, d2, d3] => { results := [.lit (.bool true)], args := [d1, d2, d3] }
  | _ => none }
def witnessAcceptedRow : OpenClaim := { program := "ytghbhbdnkjjnnaagreat", sum := "f1babb11acfdbce23e99a2d7f7eb2c4809dcebdf6d89689d44e9f7a30df2bfa8", func := "backstep/backsteplaw19.WitnessAccepted", spec := "witnessAccepted", inPlace := ["internal/bytealg.IndexByteString", "slices.overlaps[int]"], unfollowed := true, recurses := true, loops := true, apart := false }
def WitnessAcceptedSaid : Prop := witnessAcceptedRow.holds Tryz.pinned (OpenSpec.ofChange witnessAcceptedSpec)

/-- ITS FALSE NEIGHBOUR: 'it returns false'. Refute it at one input. -/
def witnessAcceptedWrong : ChangeSpec := { name := "witnessAccepted", fn := fun _ => fun
  | [d1, d2, d3] => { results := [.lit (.bool false)], args := [d1, d2, d3] }
  | _ => none }
def WitnessAcceptedWrongFalsely : Prop := witnessAcceptedRow.holds Tryz.pinned (OpenSpec.ofChange witnessAcceptedWrong)

/- THE SECOND FORM. 'bulk': how many values and letters a reading holds, each counted each time it is reached (what is shared counts as often as it is met; a slice's spare places count too). A statement '..UptoSaid' is the law's where the arguments, and the package variables that the reading takes, are together of bulk at most 1048576: NARROWER than '..Said'. Prove '..Said' where nothing that the law and all that it calls make is longer than what came in: it says more and counts as full. Else prove '..UptoSaid'. A law counts once. -/
mutual
def uptoBulk {H : Type} : DataW H → Nat
  | .lit (.string bytes) => bytes.length + 1
  | .lit _ => 1
  | .nil => 1
  | .ptr d => uptoBulk d + 1
  | .slice elems spare => uptoBulkAll elems + uptoBulkAll spare + 1
  | .agg parts => uptoBulkAll parts + 1
  | .iface _ d => uptoBulk d + 1
  | .map entries => uptoBulkEntries entries + 1
  | .held _ => 1
def uptoBulkAll {H : Type} : List (DataW H) → Nat
  | [] => 0
  | d :: r => uptoBulk d + uptoBulkAll r
def uptoBulkEntries {H : Type} : List (Lit × DataW H) → Nat
  | [] => 0
  | x :: r => uptoBulkEntry x + uptoBulkEntries r
def uptoBulkEntry {H : Type} : Lit × DataW H → Nat
  | (.string bytes, d) => bytes.length + uptoBulk d + 1
  | (_, d) => uptoBulk d + 1
 end
def uptoSmall : (H : Type) → List (DataW H) → Bool := fun _ ds => decide (uptoBulkAll ds ≤ 1048576)
def OpenSpec.upto (s : _root_.Go.ChangeSpec) : _root_.Go.OpenSpec := { _root_.Go.OpenSpec.ofChange s with cond := some uptoSmall }

/-- 'backsteplaw19.WitnessLossy', WHERE WHAT IT READS IS OF BULK AT MOST 1048576: true; the input reads as it did. -/
def witnessLossyUptoRow : OpenClaim := { program := "ytghbhbdnkjjnnaagreat", sum := "f1babb11acfdbce23e99a2d7f7eb2c4809dcebdf6d89689d44e9f7a30df2bfa8", func := "backstep/backsteplaw19.WitnessLossy", spec := "witnessLossy", inPlace := ["internal/bytealg.IndexByteString", "slices.overlaps[int]"], unfollowed := true, recurses := true, loops := true, apart := false, narrowed := true }
def WitnessLossyUptoSaid : Prop := witnessLossyUptoRow.holds Tryz.pinned (OpenSpec.upto witnessLossySpec)

/-- 'backsteplaw19.WitnessConstant', WHERE WHAT IT READS IS OF BULK AT MOST 1048576: true; the input reads as it did. -/
def witnessConstantUptoRow : OpenClaim := { program := "ytghbhbdnkjjnnaagreat", sum := "f1babb11acfdbce23e99a2d7f7eb2c4809dcebdf6d89689d44e9f7a30df2bfa8", func := "backstep/backsteplaw19.WitnessConstant", spec := "witnessConstant", inPlace := ["internal/bytealg.IndexByteString", "slices.overlaps[int]"], unfollowed := true, recurses := true, loops := true, apart := false, narrowed := true }
def WitnessConstantUptoSaid : Prop := witnessConstantUptoRow.holds Tryz.pinned (OpenSpec.upto witnessConstantSpec)

/-- 'backsteplaw19.WitnessNone', WHERE WHAT IT READS IS OF BULK AT MOST 1048576: true; the input reads as it did. -/
def witnessNoneUptoRow : OpenClaim := { program := "ytghbhbdnkjjnnaagreat", sum := "f1babb11acfdbce23e99a2d7f7eb2c4809dcebdf6d89689d44e9f7a30df2bfa8", func := "backstep/backsteplaw19.WitnessNone", spec := "witnessNone", inPlace := ["internal/bytealg.IndexByteString", "slices.overlaps[int]"], unfollowed := true, recurses := true, loops := true, apart := false, narrowed := true }
def WitnessNoneUptoSaid : Prop := witnessNoneUptoRow.holds Tryz.pinned (OpenSpec.upto witnessNoneSpec)

/-- 'backsteplaw19.WitnessAssign', WHERE WHAT IT READS IS OF BULK AT MOST 1048576: true; the input reads as it did. -/
def witnessAssignUptoRow : OpenClaim := { program := "ytghbhbdnkjjnnaagreat", sum := "f1babb11acfdbce23e99a2d7f7eb2c4809dcebdf6d89689d44e9f7a30df2bfa8", func := "backstep/backsteplaw19.WitnessAssign", spec := "witnessAssign", inPlace := ["internal/bytealg.IndexByteString", "slices.overlaps[int]"], unfollowed := true, recurses := true, loops := true, apart := false, narrowed := true }
def WitnessAssignUptoSaid : Prop := witnessAssignUptoRow.holds Tryz.pinned (OpenSpec.upto witnessAssignSpec)

/-- 'backsteplaw19.WitnessGrows', WHERE WHAT IT READS IS OF BULK AT MOST 1048576: true; the input reads as it did. -/
def witnessGrowsUptoRow : OpenClaim := { program := "ytghbhbdnkjjnnaagreat", sum := "f1babb11acfdbce23e99a2d7f7eb2c4809dcebdf6d89689d44e9f7a30df2bfa8", func := "backstep/backsteplaw19.WitnessGrows", spec := "witnessGrows", inPlace := ["internal/bytealg.IndexByteString", "slices.overlaps[int]"], unfollowed := true, recurses := true, loops := true, apart := false, narrowed := true }
def WitnessGrowsUptoSaid : Prop := witnessGrowsUptoRow.holds Tryz.pinned (OpenSpec.upto witnessGrowsSpec)

/-- 'backsteplaw19.WitnessAccepted', WHERE WHAT IT READS IS OF BULK AT MOST 1048576: true; the input reads as it did. -/
def witnessAcceptedUptoRow : OpenClaim := { program := "ytghbhbdnkjjnnaagreat", sum := "f1babb11acfdbce23e99a2d7f7eb2c4809dcebdf6d89689d44e9f7a30df2bfa8", func := "backstep/backsteplaw19.WitnessAccepted", spec := "witnessAccepted", inPlace := ["internal/bytealg.IndexByteString", "slices.overlaps[int]"], unfollowed := true, recurses := true, loops := true, apart := false, narrowed := true }
def WitnessAcceptedUptoSaid : Prop := witnessAcceptedUptoRow.holds Tryz.pinned (OpenSpec.upto witnessAcceptedSpec)

end Rows
end Go.Proofs.YtghbhbdnkjjnnaaGreat
