/-
  NARROWER THAN 'FOR EVERY INPUT', by the rows' own cells (each row's printed sentence says how): StoreUndoes: loops · TraceFuel: loops · TraceSteps: loops · SimplifyRuns: loops · SimplifyBack: loops · TraceReverses: loops.
  DERIVED. THE GIVEN ROWS OF THIS SEAT. 10 by the template 'for every input the law returns true; each argument reads behind the call as it read before'; 0 by the template 'total and deterministic' (their statements: YtckhofdinldhpaaGreatTotals.lean).
  GIVEN WITH THE SEED: the statements are not yours to turn. If you find one false, say at which input.
  Laid BY PROGRAM, IN A SANDBOX (cutbox-rows.mjs): the forced cells as the released guide's own fill.sh prints them over the translation 5b1477675a66aacc… (all of the seat's roots in one cut). By AI agents, Wed Nov 11 2026. No macro, syntax, notation, axiom, sorry.
-/
import Derived.Test.YtckhofdinldhpaaGreatChecked
import GoSem.Claim
import GoSem.ClaimJoined
import GoSem.ClaimMapViews
import Derived.JoinedTies
import Derived.KernelRfl
namespace Go.Proofs.YtckhofdinldhpaaGreat
/- THE CELL 'sum', in the pinned program and in every row, IS THE sha256 OF THE DUMP (.gsa) THAT YtckhofdinldhpaaGreatProg.lean LOADS. Nothing in Lean hashes anything: it is a label: what it is worth is what the hold of that sum in a sandbox is worth. -/
noncomputable def Tryz.pinned : Pinned := { name := "ytckhofdinldhpaagreat", sum := "5b1477675a66aacc404922a558252677df83796e91cd68335eb9c1416bb6fdd9", checked := Tryz.checked }
namespace Rows
def none {H : Type} : Left H := { results := [], args := [] }

/-- 'backsteplaw14.StoreUndoes': WHATEVER THE INPUT: true; the input reads as it did. -/
def storeUndoesSpec : ChangeSpec := { name := "storeUndoes", fn := fun _ => fun
  | [d1, d2, d3, d4] => { results := [.lit (.bool true)], args := [d1, d2, d3, d4] }
  | _ => none }
def storeUndoesRow : OpenClaim := { program := "ytckhofdinldhpaagreat", sum := "5b1477675a66aacc404922a558252677df83796e91cd68335eb9c1416bb6fdd9", func := "backstep/backsteplaw14.StoreUndoes", spec := "storeUndoes", inPlace := ["internal/bytealg.IndexByteString", "slices.overlaps[int]"], unfollowed := true, recurses := true, loops := true, apart := false }
def StoreUndoesSaid : Prop := storeUndoesRow.holds Tryz.pinned (OpenSpec.ofChange storeUndoesSpec)

/-- ITS FALSE NEIGHBOUR: 'it returns false'. Refute it at one input. -/
def storeUndoesWrong : ChangeSpec := { name := "storeUndoes", fn := fun _ => fun
  | [d1, d2, d3, d4] => { results := [.lit (.bool false)], args := [d1, d2, d3, d4] }
  | _ => none }
def StoreUndoesWrongFalsely : Prop := storeUndoesRow.holds Tryz.pinned (OpenSpec.ofChange storeUndoesWrong)

/-- 'backsteplaw18.TraceFuel': WHATEVER THE INPUT: true; the input reads as it did. -/
def traceFuelSpec : ChangeSpec := { name := "traceFuel", fn := fun _ => fun
  | [d1, d2, d3] => { results := [.lit (.bool true)], args := [d1, d2, d3] }
  | _ => none }
def traceFuelRow : OpenClaim := { program := "ytckhofdinldhpaagreat", sum := "5b1477675a66aacc404922a558252677df83796e91cd68335eb9c1416bb6fdd9", func := "backstep/backsteplaw18.TraceFuel", spec := "traceFuel", inPlace := ["internal/bytealg.IndexByteString", "slices.overlaps[int]"], unfollowed := true, recurses := true, loops := true, apart := false }
def TraceFuelSaid : Prop := traceFuelRow.holds Tryz.pinned (OpenSpec.ofChange traceFuelSpec)

/-- ITS FALSE NEIGHBOUR: 'it returns false'. Refute it at one input. -/
def traceFuelWrong : ChangeSpec := { name := "traceFuel", fn := fun _ => fun
  | [d1, d2, d3] => { results := [.lit (.bool false)], args := [d1, d2, d3] }
  | _ => none }
def TraceFuelWrongFalsely : Prop := traceFuelRow.holds Tryz.pinned (OpenSpec.ofChange traceFuelWrong)

/-- 'backsteplaw18.TraceSteps': WHATEVER THE INPUT: true; the input reads as it did. -/
def traceStepsSpec : ChangeSpec := { name := "traceSteps", fn := fun _ => fun
  | [d1, d2, d3] => { results := [.lit (.bool true)], args := [d1, d2, d3] }
  | _ => none }
def traceStepsRow : OpenClaim := { program := "ytckhofdinldhpaagreat", sum := "5b1477675a66aacc404922a558252677df83796e91cd68335eb9c1416bb6fdd9", func := "backstep/backsteplaw18.TraceSteps", spec := "traceSteps", inPlace := ["internal/bytealg.IndexByteString", "slices.overlaps[int]"], unfollowed := true, recurses := true, loops := true, apart := false }
def TraceStepsSaid : Prop := traceStepsRow.holds Tryz.pinned (OpenSpec.ofChange traceStepsSpec)

/-- ITS FALSE NEIGHBOUR: 'it returns false'. Refute it at one input. -/
def traceStepsWrong : ChangeSpec := { name := "traceSteps", fn := fun _ => fun
  | [d1, d2, d3] => { results := [.lit (.bool false)], args := [d1, d2, d3] }
  | _ => none }
def TraceStepsWrongFalsely : Prop := traceStepsRow.holds Tryz.pinned (OpenSpec.ofChange traceStepsWrong)

/-- 'backsteplaw46.SimplifyRuns': WHATEVER THE INPUT: true; the input reads as it did. -/
def simplifyRunsSpec : ChangeSpec := { name := "simplifyRuns", fn := fun _ => fun
  | [d1, d2, d3] => { results := [.lit (.bool true)], args := [d1, d2, d3] }
  | _ => none }
def simplifyRunsRow : OpenClaim := { program := "ytckhofdinldhpaagreat", sum := "5b1477675a66aacc404922a558252677df83796e91cd68335eb9c1416bb6fdd9", func := "backstep/backsteplaw46.SimplifyRuns", spec := "simplifyRuns", inPlace := ["internal/bytealg.IndexByteString", "slices.overlaps[int]"], unfollowed := true, recurses := true, loops := true, apart := false }
def SimplifyRunsSaid : Prop := simplifyRunsRow.holds Tryz.pinned (OpenSpec.ofChange simplifyRunsSpec)

/-- ITS FALSE NEIGHBOUR: 'it returns false'. Refute it at one input. -/
def simplifyRunsWrong : ChangeSpec := { name := "simplifyRuns", fn := fun _ => fun
  | [d1, d2, d3] => { results := [.lit (.bool false)], args := [d1, d2, d3] }
  | _ => none }
def SimplifyRunsWrongFalsely : Prop := simplifyRunsRow.holds Tryz.pinned (OpenSpec.ofChange simplifyRunsWrong)

/-- 'backsteplaw46.SimplifyBack': WHATEVER THE INPUT: true; the input reads as it did. -/
def simplifyBackSpec : ChangeSpec := { name := "simplifyBack", fn := fun _ => fun
  | [d1, d2, d3] => { results := [.lit (.bool true)], args := [d1, d2, d3] }
  | _ => none }
def simplifyBackRow : OpenClaim := { program := "ytckhofdinldhpaagreat", sum := "5b1477675a66aacc404922a558252677df83796e91cd68335eb9c1416bb6fdd9", func := "backstep/backsteplaw46.SimplifyBack", spec := "simplifyBack", inPlace := ["internal/bytealg.IndexByteString", "slices.overlaps[int]"], unfollowed := true, recurses := true, loops := true, apart := false }
def SimplifyBackSaid : Prop := simplifyBackRow.holds Tryz.pinned (OpenSpec.ofChange simplifyBackSpec)

/-- ITS FALSE NEIGHBOUR: 'it returns false'. Refute it at one input. -/
def simplifyBackWrong : ChangeSpec := { name := "simplifyBack", fn := fun _ => fun
  | [d1, d2, d3] => { results := [.lit (.bool false)], args := [d1, d2, d3] }
  | _ => none }
def SimplifyBackWrongFalsely : Prop := simplifyBackRow.holds Tryz.pinned (OpenSpec.ofChange simplifyBackWrong)

/-- 'backsteplaw18.TraceErrors': WHATEVER THE INPUT: true; the input reads as it did. -/
def traceErrorsSpec : ChangeSpec := { name := "traceErrors", fn := fun _ => fun
  | [d1, d2, d3] => { results := [.lit (.bool true)], args := [d1, d2, d3] }
  | _ => none }
def traceErrorsRow : OpenClaim := { program := "ytckhofdinldhpaagreat", sum := "5b1477675a66aacc404922a558252677df83796e91cd68335eb9c1416bb6fdd9", func := "backstep/backsteplaw18.TraceErrors", spec := "traceErrors", inPlace := ["internal/bytealg.IndexByteString", "slices.overlaps[int]"], unfollowed := true, recurses := true, apart := false }
def TraceErrorsSaid : Prop := traceErrorsRow.holds Tryz.pinned (OpenSpec.ofChange traceErrorsSpec)

/-- ITS FALSE NEIGHBOUR: 'it returns false'. Refute it at one input. -/
def traceErrorsWrong : ChangeSpec := { name := "traceErrors", fn := fun _ => fun
  | [d1, d2, d3] => { results := [.lit (.bool false)], args := [d1, d2, d3] }
  | _ => none }
def TraceErrorsWrongFalsely : Prop := traceErrorsRow.holds Tryz.pinned (OpenSpec.ofChange traceErrorsWrong)

/-- 'backsteplaw18.TraceMoves': WHATEVER THE INPUT: true; the input reads as it did. -/
def traceMovesSpec : ChangeSpec := { name := "traceMoves", fn := fun _ => fun
  | [d1, d2, d3] => { results := [.lit (.bool true)], args := [d1, d2, d3] }
  | _ => none }
def traceMovesRow : OpenClaim := { program := "ytckhofdinldhpaagreat", sum := "5b1477675a66aacc404922a558252677df83796e91cd68335eb9c1416bb6fdd9", func := "backstep/backsteplaw18.TraceMoves", spec := "traceMoves", inPlace := ["internal/bytealg.IndexByteString", "slices.overlaps[int]"], unfollowed := true, recurses := true, apart := false }
def TraceMovesSaid : Prop := traceMovesRow.holds Tryz.pinned (OpenSpec.ofChange traceMovesSpec)

/-- ITS FALSE NEIGHBOUR: 'it returns false'. Refute it at one input. -/
def traceMovesWrong : ChangeSpec := { name := "traceMoves", fn := fun _ => fun
  | [d1, d2, d3] => { results := [.lit (.bool false)], args := [d1, d2, d3] }
  | _ => none }
def TraceMovesWrongFalsely : Prop := traceMovesRow.holds Tryz.pinned (OpenSpec.ofChange traceMovesWrong)

/-- 'backsteplaw18.TraceNone': WHATEVER THE INPUT: true; the input reads as it did. -/
def traceNoneSpec : ChangeSpec := { name := "traceNone", fn := fun _ => fun
  | [d] => { results := [.lit (.bool true)], args := [d] }
  | _ => none }
def traceNoneRow : OpenClaim := { program := "ytckhofdinldhpaagreat", sum := "5b1477675a66aacc404922a558252677df83796e91cd68335eb9c1416bb6fdd9", func := "backstep/backsteplaw18.TraceNone", spec := "traceNone", inPlace := ["internal/bytealg.IndexByteString", "slices.overlaps[int]"], unfollowed := true, recurses := true, apart := false }
def TraceNoneSaid : Prop := traceNoneRow.holds Tryz.pinned (OpenSpec.ofChange traceNoneSpec)

/-- ITS FALSE NEIGHBOUR: 'it returns false'. Refute it at one input. -/
def traceNoneWrong : ChangeSpec := { name := "traceNone", fn := fun _ => fun
  | [d] => { results := [.lit (.bool false)], args := [d] }
  | _ => none }
def TraceNoneWrongFalsely : Prop := traceNoneRow.holds Tryz.pinned (OpenSpec.ofChange traceNoneWrong)

/-- 'backsteplaw18.TraceRest': WHATEVER THE INPUT: true; the input reads as it did. -/
def traceRestSpec : ChangeSpec := { name := "traceRest", fn := fun _ => fun
  | [d1, d2, d3, d4] => { results := [.lit (.bool true)], args := [d1, d2, d3, d4] }
  | _ => none }
def traceRestRow : OpenClaim := { program := "ytckhofdinldhpaagreat", sum := "5b1477675a66aacc404922a558252677df83796e91cd68335eb9c1416bb6fdd9", func := "backstep/backsteplaw18.TraceRest", spec := "traceRest", inPlace := ["internal/bytealg.IndexByteString", "slices.overlaps[int]"], unfollowed := true, recurses := true, apart := false }
def TraceRestSaid : Prop := traceRestRow.holds Tryz.pinned (OpenSpec.ofChange traceRestSpec)

/-- ITS FALSE NEIGHBOUR: 'it returns false'. Refute it at one input. -/
def traceRestWrong : ChangeSpec := { name := "traceRest", fn := fun _ => fun
  | [d1, d2, d3, d4] => { results := [.lit (.bool false)], args := [d1, d2, d3, d4] }
  | _ => none }
def TraceRestWrongFalsely : Prop := traceRestRow.holds Tryz.pinned (OpenSpec.ofChange traceRestWrong)

/-- 'backsteplaw18.TraceReverses': WHATEVER THE INPUT: true; the input reads as it did. -/
def traceReversesSpec : ChangeSpec := { name := "traceReverses", fn := fun _ => fun
  | [d1, d2, d3] => { results := [.lit (.bool true)], args := [d1, d2, d3] }
  | _ => none }
def traceReversesRow : OpenClaim := { program := "ytckhofdinldhpaagreat", sum := "5b1477675a66aacc404922a558252677df83796e91cd68335eb9c1416bb6fdd9", func := "backstep/backsteplaw18.TraceReverses", spec := "traceReverses", inPlace := ["internal/bytealg.IndexByteString", "slices.overlaps[int]"], unfollowed := true, recurses := true, loops := true, apart := false }
def TraceReversesSaid : Prop := traceReversesRow.holds Tryz.pinned (OpenSpec.ofChange traceReversesSpec)

/-- ITS FALSE NEIGHBOUR: 'it returns false'. Refute it at one input. -/
def traceReversesWrong : ChangeSpec := { name := "traceReverses", fn := fun _ => fun
  | [d1, d2, d3] => { results := [.lit (.bool false)], args := [d1, d2, d3] }
  | _ => none }
def TraceReversesWrongFalsely : Prop := traceReversesRow.holds Tryz.pinned (OpenSpec.ofChange traceReversesWrong)

/- THE SECOND FORM. 'bulk': how many values and letters a reading holds, each counted each time it is reached (what is shared counts as often as it is met; a slice's spare places count too). A statement '..UptoSaid' is the law's where the arguments, and the package variables that the reading takes, are together of bulk at most 1048576: NARROWER than '..Said'. Prove '..Said' where nothing that the law and all that it calls make is longer than what came in: it says more and counts as full. Else prove '..UptoSaid'. A law counts once. -/
mutual
def uptoBulk {H : Type} : DataW H → Nat
  | .lit (.string bytes) => bytes.length + 1
  | .lit _ => 1
  | .nil => 1
  | .ptr d => uptoBulk d + 1
  | .slice elems spare => uptoBulkAll elems + uptoBulkAll spare + 1
  | .agg parts => uptoBulkAll parts + 1
  | .iface _ d => uptoBulk d + 1
  | .map entries => uptoBulkEntries entries + 1
  | .held _ => 1
def uptoBulkAll {H : Type} : List (DataW H) → Nat
  | [] => 0
  | d :: r => uptoBulk d + uptoBulkAll r
def uptoBulkEntries {H : Type} : List (Lit × DataW H) → Nat
  | [] => 0
  | x :: r => uptoBulkEntry x + uptoBulkEntries r
def uptoBulkEntry {H : Type} : Lit × DataW H → Nat
  | (.string bytes, d) => bytes.length + uptoBulk d + 1
  | (_, d) => uptoBulk d + 1
 end
def uptoSmall : (H : Type) → List (DataW H) → Bool := fun _ ds => decide (uptoBulkAll ds ≤ 1048576)
def OpenSpec.upto (s : _root_.Go.ChangeSpec) : _root_.Go.OpenSpec := { _root_.Go.OpenSpec.ofChange s with cond := some uptoSmall }

/-- 'backsteplaw14.StoreUndoes', WHERE WHAT IT READS IS OF BULK AT MOST 1048576: true; the input reads as it did. -/
def storeUndoesUptoRow : OpenClaim := { program := "ytckhofdinldhpaagreat", sum := "5b1477675a66aacc404922a558252677df83796e91cd68335eb9c1416bb6fdd9", func := "backstep/backsteplaw14.StoreUndoes", spec := "storeUndoes", inPlace := ["internal/bytealg.IndexByteString", "slices.overlaps[int]"], unfollowed := true, recurses := true, loops := true, apart := false, narrowed := true }
def StoreUndoesUptoSaid : Prop := storeUndoesUptoRow.holds Tryz.pinned (OpenSpec.upto storeUndoesSpec)

/-- 'backsteplaw18.TraceFuel', WHERE WHAT IT READS IS OF BULK AT MOST 1048576: true; the input reads as it did. -/
def traceFuelUptoRow : OpenClaim := { program := "ytckhofdinldhpaagreat", sum := "5b1477675a66aacc404922a558252677df83796e91cd68335eb9c1416bb6fdd9", func := "backstep/backsteplaw18.TraceFuel", spec := "traceFuel", inPlace := ["internal/bytealg.IndexByteString", "slices.overlaps[int]"], unfollowed := true, recurses := true, loops := true, apart := false, narrowed := true }
def TraceFuelUptoSaid : Prop := traceFuelUptoRow.holds Tryz.pinned (OpenSpec.upto traceFuelSpec)

/-- 'backsteplaw18.TraceSteps', WHERE WHAT IT READS IS OF BULK AT MOST 1048576: true; the input reads as it did. -/
def traceStepsUptoRow : OpenClaim := { program := "ytckhofdinldhpaagreat", sum := "5b1477675a66aacc404922a558252677df83796e91cd68335eb9c1416bb6fdd9", func := "backstep/backsteplaw18.TraceSteps", spec := "traceSteps", inPlace := ["internal/bytealg.IndexByteString", "slices.overlaps[int]"], unfollowed := true, recurses := true, loops := true, apart := false, narrowed := true }
def TraceStepsUptoSaid : Prop := traceStepsUptoRow.holds Tryz.pinned (OpenSpec.upto traceStepsSpec)

/-- 'backsteplaw46.SimplifyRuns', WHERE WHAT IT READS IS OF BULK AT MOST 1048576: true; the input reads as it did. -/
def simplifyRunsUptoRow : OpenClaim := { program := "ytckhofdinldhpaagreat", sum := "5b1477675a66aacc404922a558252677df83796e91cd68335eb9c1416bb6fdd9", func := "backstep/backsteplaw46.SimplifyRuns", spec := "simplifyRuns", inPlace := ["internal/bytealg.IndexByteString", "slices.overlaps[int]"], unfollowed := true, recurses := true, loops := true, apart := false, narrowed := true }
def SimplifyRunsUptoSaid : Prop := simplifyRunsUptoRow.holds Tryz.pinned (OpenSpec.upto simplifyRunsSpec)

/-- 'backsteplaw46.SimplifyBack', WHERE WHAT IT READS IS OF BULK AT MOST 1048576: true; the input reads as it did. -/
def simplifyBackUptoRow : OpenClaim := { program := "ytckhofdinldhpaagreat", sum := "5b1477675a66aacc404922a558252677df83796e91cd68335eb9c1416bb6fdd9", func := "backstep/backsteplaw46.SimplifyBack", spec := "simplifyBack", inPlace := ["internal/bytealg.IndexByteString", "slices.overlaps[int]"], unfollowed := true, recurses := true, loops := true, apart := false, narrowed := true }
def SimplifyBackUptoSaid : Prop := simplifyBackUptoRow.holds Tryz.pinned (OpenSpec.upto simplifyBackSpec)

/-- 'backsteplaw18.TraceErrors', WHERE WHAT IT READS IS OF BULK AT MOST 1048576: true; the input reads as it did. -/
def traceErrorsUptoRow : OpenClaim := { program := "ytckhofdinldhpaagreat", sum := "5b1477675a66aacc404922a558252677df83796e91cd68335eb9c1416bb6fdd9", func := "backstep/backsteplaw18.TraceErrors", spec := "traceErrors", inPlace := ["internal/bytealg.IndexByteString", "slices.overlaps[int]"], unfollowed := true, recurses := true, apart := false, narrowed := true }
def TraceErrorsUptoSaid : Prop := traceErrorsUptoRow.holds Tryz.pinned (OpenSpec.upto traceErrorsSpec)

/-- 'backsteplaw18.TraceMoves', WHERE WHAT IT READS IS OF BULK AT MOST 1048576: true; the input reads as it did. -/
def traceMovesUptoRow : OpenClaim := { program := "ytckhofdinldhpaagreat", sum := "5b1477675a66aacc404922a558252677df83796e91cd68335eb9c1416bb6fdd9", func := "backstep/backsteplaw18.TraceMoves", spec := "traceMoves", inPlace := ["internal/bytealg.IndexByteString", "slices.overlaps[int]"], unfollowed := true, recurses := true, apart := false, narrowed := true }
def TraceMovesUptoSaid : Prop := traceMovesUptoRow.holds Tryz.pinned (OpenSpec.upto traceMovesSpec)

/-- 'backsteplaw18.TraceNone', WHERE WHAT IT READS IS OF BULK AT MOST 1048576: true; the input reads as it did. -/
def traceNoneUptoRow : OpenClaim := { program := "ytckhofdinldhpaagreat", sum := "5b1477675a66aacc404922a558252677df83796e91cd68335eb9c1416bb6fdd9", func := "backstep/backsteplaw18.TraceNone", spec := "traceNone", inPlace := ["internal/bytealg.IndexByteString", "slices.overlaps[int]"], unfollowed := true, recurses := true, apart := false, narrowed := true }
def TraceNoneUptoSaid : Prop := traceNoneUptoRow.holds Tryz.pinned (OpenSpec.upto traceNoneSpec)

/-- 'backsteplaw18.TraceRest', WHERE WHAT IT READS IS OF BULK AT MOST 1048576: true; the input reads as it did. -/
def traceRestUptoRow : OpenClaim := { program := "ytckhofdinldhpaagreat", sum := "5b1477675a66aacc404922a558252677df83796e91cd68335eb9c1416bb6fdd9", func := "backstep/backsteplaw18.TraceRest", spec := "traceRest", inPlace := ["internal/bytealg.IndexByteString", "slices.overlaps[int]"], unfollowed := true, recurses := true, apart := false, narrowed := true }
def TraceRestUptoSaid : Prop := traceRestUptoRow.holds Tryz.pinned (OpenSpec.upto traceRestSpec)

/-- 'backsteplaw18.TraceReverses', WHERE WHAT IT READS IS OF BULK AT MOST 1048576: true; the input reads as it did. -/
def traceReversesUptoRow : OpenClaim := { program := "ytckhofdinldhpaagreat", sum := "5b1477675a66aacc404922a558252677df83796e91cd68335eb9c1416bb6fdd9", func := "backstep/backsteplaw18.TraceReverses", spec := "traceReverses", inPlace := ["internal/bytealg.IndexByteString", "slices.overlaps[int]"], unfollowed := true, recurses := true, loops := true, apart := false, narrowed := true }
def TraceReversesUptoSaid : Prop := traceReversesUptoRow.holds Tryz.pinned (OpenSpec.upto traceReversesSpec)

end Rows
end Go.Proofs.YtckhofdinldhpaaGreat
