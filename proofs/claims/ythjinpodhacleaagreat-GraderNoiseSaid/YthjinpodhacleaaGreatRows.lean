/-
  NARROWER THAN 'FOR EVERY INPUT', by the rows' own cells (each row's printed sentence says how): GraderNoise: loops · GraderSolution: loops · GraderLeast: loops · GraderRefuses: loops · GraderBox: loops.
  DERIVED. THE GIVEN ROWS OF THIS SEAT. 5 by the template 'for every input the law returns true; each argument reads behind the call as it read before'; 0 by the template 'total and deterministic' (their statements: YthjinpodhacleaaGreatTotals.lean).
  GIVEN WITH THE SEED: the statements are not yours to turn. If you find one false, say at which input.
  Laid BY PROGRAM, IN A SANDBOX (cutbox-rows.mjs): the forced cells as the released guide's own fill.sh prints them over the translation c4e7b165a867e1eb… (all of the seat's roots in one cut). By AI agents, Wed Nov 11 2026. No macro, syntax, notation, axiom, sorry.
-/
import Derived.Test.YthjinpodhacleaaGreatChecked
import GoSem.Claim
import GoSem.ClaimJoined
import GoSem.ClaimMapViews
import Derived.JoinedTies
import Derived.KernelRfl
namespace Go.Proofs.YthjinpodhacleaaGreat
/- THE CELL 'sum', in the pinned program and in every row, IS THE sha256 OF THE DUMP (.gsa) THAT YthjinpodhacleaaGreatProg.lean LOADS. Nothing in Lean hashes anything: it is a label: what it is worth is what the hold of that sum in a sandbox is worth. -/
noncomputable def Tryz.pinned : Pinned := { name := "ythjinpodhacleaagreat", sum := "c4e7b165a867e1ebcd0ec1fe0a44a900713c6f5c5b05d6ceee6fb547b12799f6", checked := Tryz.checked }
namespace Rows
def none {H : Type} : Left H := { results := [], args := [] }

/-- 'backsteplaw48.GraderNoise': WHATEVER THE INPUT: true; the input reads as it did. -/
def graderNoiseSpec : ChangeSpec := { name := "graderNoise", fn := fun _ => fun
  | [d1, d2, d3] => { results := [.lit (.bool true)], args := [d1, d2, d3] }
  | _ => none }
def graderNoiseRow : OpenClaim := { program := "ythjinpodhacleaagreat", sum := "c4e7b165a867e1ebcd0ec1fe0a44a900713c6f5c5b05d6ceee6fb547b12799f6", func := "backstep/backsteplaw48.GraderNoise", spec := "graderNoise", inPlace := ["internal/bytealg.IndexByteString", "slices.overlaps[int]"], unfollowed := true, recurses := true, loops := true, apart := false }
def GraderNoiseSaid : Prop := graderNoiseRow.holds Tryz.pinned (OpenSpec.ofChange graderNoiseSpec)

/-- ITS FALSE NEIGHBOUR: 'it returns false'. Refute it at one input. -/
def graderNoiseWrong : ChangeSpec := { name := "graderNoise", fn := fun _ => fun
  | [d1, d2, d3] => { results := [.lit (.bool false)], args := [d1, d2, d3] }
  | _ => none }
def GraderNoiseWrongFalsely : Prop := graderNoiseRow.holds Tryz.pinned (OpenSpec.ofChange graderNoiseWrong)

/-- 'backsteplaw48.GraderSolution': WHATEVER THE INPUT: true; the input reads as it did. -/
def graderSolutionSpec : ChangeSpec := { name := "graderSolution", fn := fun _ => fun
  | [d] => { results := [.lit (.bool true)], args := [d] }
  | _ => none }
def graderSolutionRow : OpenClaim := { program := "ythjinpodhacleaagreat", sum := "c4e7b165a867e1ebcd0ec1fe0a44a900713c6f5c5b05d6ceee6fb547b12799f6", func := "backstep/backsteplaw48.GraderSolution", spec := "graderSolution", inPlace := ["internal/bytealg.IndexByteString", "slices.overlaps[int]"], unfollowed := true, recurses := true, loops := true, apart := false }
def GraderSolutionSaid : Prop := graderSolutionRow.holds Tryz.pinned (OpenSpec.ofChange graderSolutionSpec)

/-- ITS FALSE NEIGHBOUR: 'it returns false'. Refute it at one input. -/
def graderSolutionWrong : ChangeSpec := { name := "graderSolution", fn := fun _ => fun
  | [d] => { results := [.lit (.bool false)], args := [d] }
  | _ => none }
def GraderSolutionWrongFalsely : Prop := graderSolutionRow.holds Tryz.pinned (OpenSpec.ofChange graderSolutionWrong)

/-- 'backsteplaw48.GraderLeast': WHATEVER THE INPUT: true; the input reads as it did. -/
def graderLeastSpec : ChangeSpec := { name := "graderLeast", fn := fun _ => fun
  | [d1, d2] => { results := [.lit (.bool true)], args := [d1, d2] }
  | _ => none }
def graderLeastRow : OpenClaim := { program := "ythjinpodhacleaagreat", sum := "c4e7b165a867e1ebcd0ec1fe0a44a900713c6f5c5b05d6ceee6fb547b12799f6", func := "backstep/backsteplaw48.GraderLeast", spec := "graderLeast", inPlace := ["internal/bytealg.IndexByteString", "slices.overlaps[int]"], unfollowed := true, recurses := true, loops := true, apart := false }
def GraderLeastSaid : Prop := graderLeastRow.holds Tryz.pinned (OpenSpec.ofChange graderLeastSpec)

/-- ITS FALSE NEIGHBOUR: 'it returns false'. Refute it at one input. -/
def graderLeastWrong : ChangeSpec := { name := "graderLeast", fn := fun _ => fun
  | [d1, d2] => { results := [.lit (.bool false)], args := [d1, d2] }
  | _ => none }
def GraderLeastWrongFalsely : Prop := graderLeastRow.holds Tryz.pinned (OpenSpec.ofChange graderLeastWrong)

/-- 'backsteplaw48.GraderRefuses': WHATEVER THE INPUT: true; the input reads as it did. -/
def graderRefusesSpec : ChangeSpec := { name := "graderRefuses", fn := fun _ => fun
  | [d1, d2, d3] => { results := [.lit (.bool true)], args := [d1, d2, d3] }
  | _ => none }
def graderRefusesRow : OpenClaim := { program := "ythjinpodhacleaagreat", sum := "c4e7b165a867e1ebcd0ec1fe0a44a900713c6f5c5b05d6ceee6fb547b12799f6", func := "backstep/backsteplaw48.GraderRefuses", spec := "graderRefuses", inPlace := ["internal/bytealg.IndexByteString", "slices.overlaps[int]"], unfollowed := true, recurses := true, loops := true, apart := false }
def GraderRefusesSaid : Prop := graderRefusesRow.holds Tryz.pinned (OpenSpec.ofChange graderRefusesSpec)

/-- ITS FALSE NEIGHBOUR: 'it returns false'. Refute it at one input. -/
def graderRefusesWrong : ChangeSpec := { name := "graderRefuses", fn := fun _ => fun
  | [d1, d2, d3] => { results := [.lit (.bool false)], args := [d1, d2, d3] }
  | _ => none }
def GraderRefusesWrongFalsely : Prop := graderRefusesRow.holds Tryz.pinned (OpenSpec.ofChange graderRefusesWrong)

/-- 'backsteplaw48.GraderBox': WHATEVER THE INPUT: true; the input reads as it did. -/
def graderBoxSpec : ChangeSpec := { name := "graderBox", fn := fun _ => fun
  | [d1, d2, d3, d4, d5] => { results := [.lit (.bool true)], args := [d1, d2, d3, d4, d5] }
  | _ => none }
def graderBoxRow : OpenClaim := { program := "ythjinpodhacleaagreat", sum := "c4e7b165a867e1ebcd0ec1fe0a44a900713c6f5c5b05d6ceee6fb547b12799f6", func := "backstep/backsteplaw48.GraderBox", spec := "graderBox", inPlace := ["internal/bytealg.IndexByteString", "slices.overlaps[int]"], unfollowed := true, recurses := true, loops := true, apart := false }
def GraderBoxSaid : Prop := graderBoxRow.holds Tryz.pinned (OpenSpec.ofChange graderBoxSpec)

/-- ITS FALSE NEIGHBOUR: 'it returns false'. Refute it at one input. -/
def graderBoxWrong : ChangeSpec := { name := "graderBox", fn := fun _ => fun
  | [d1, d2, d3, d4, d5] => { results := [.lit (.bool false)], args := [d1, d2, d3, d4, d5] }
  | _ => none }
def GraderBoxWrongFalsely : Prop := graderBoxRow.holds Tryz.pinned (OpenSpec.ofChange graderBoxWrong)

/- THE SECOND FORM. 'bulk': how many values and letters a reading holds, each counted each time it is reached (what is shared counts as often as it is met; a slice's spare places count too). A statement '..UptoSaid' is the law's where the arguments, and the package variables that the reading takes, are together of bulk at most 1048576: NARROWER than '..Said'. Prove '..Said' where nothing that the law and all that it calls make is longer than what came in: it says more and counts as full. Else prove '..UptoSaid'. A law counts once. -/
mutual
def uptoBulk {H : Type} : DataW H → Nat
  | .lit (.string bytes) => bytes.length + 1
  | .lit _ => 1
  | .nil => 1
  | .ptr d => uptoBulk d + 1
  | .slice elems spare => uptoBulkAll elems + uptoBulkAll spare + 1
  | .agg parts => uptoBulkAll parts + 1
  | .iface _ d => uptoBulk d + 1
  | .map entries => uptoBulkEntries entries + 1
  | .held _ => 1
def uptoBulkAll {H : Type} : List (DataW H) → Nat
  | [] => 0
  | d :: r => uptoBulk d + uptoBulkAll r
def uptoBulkEntries {H : Type} : List (Lit × DataW H) → Nat
  | [] => 0
  | x :: r => uptoBulkEntry x + uptoBulkEntries r
def uptoBulkEntry {H : Type} : Lit × DataW H → Nat
  | (.string bytes, d) => bytes.length + uptoBulk d + 1
  | (_, d) => uptoBulk d + 1
 end
def uptoSmall : (H : Type) → List (DataW H) → Bool := fun _ ds => decide (uptoBulkAll ds ≤ 1048576)
def OpenSpec.upto (s : _root_.Go.ChangeSpec) : _root_.Go.OpenSpec := { _root_.Go.OpenSpec.ofChange s with cond := some uptoSmall }

/-- 'backsteplaw48.GraderNoise', WHERE WHAT IT READS IS OF BULK AT MOST 1048576: true; the input reads as it did. -/
def graderNoiseUptoRow : OpenClaim := { program := "ythjinpodhacleaagreat", sum := "c4e7b165a867e1ebcd0ec1fe0a44a900713c6f5c5b05d6ceee6fb547b12799f6", func := "backstep/backsteplaw48.GraderNoise", spec := "graderNoise", inPlace := ["internal/bytealg.IndexByteString", "slices.overlaps[int]"], unfollowed := true, recurses := true, loops := true, apart := false, narrowed := true }
def GraderNoiseUptoSaid : Prop := graderNoiseUptoRow.holds Tryz.pinned (OpenSpec.upto graderNoiseSpec)

/-- 'backsteplaw48.GraderSolution', WHERE WHAT IT READS IS OF BULK AT MOST 1048576: true; the input reads as it did. -/
def graderSolutionUptoRow : OpenClaim := { program := "ythjinpodhacleaagreat", sum := "c4e7b165a867e1ebcd0ec1fe0a44a900713c6f5c5b05d6ceee6fb547b12799f6", func := "backstep/backsteplaw48.GraderSolution", spec := "graderSolution", inPlace := ["internal/bytealg.IndexByteString", "slices.overlaps[int]"], unfollowed := true, recurses := true, loops := true, apart := false, narrowed := true }
def GraderSolutionUptoSaid : Prop := graderSolutionUptoRow.holds Tryz.pinned (OpenSpec.upto graderSolutionSpec)

/-- 'backsteplaw48.GraderLeast', WHERE WHAT IT READS IS OF BULK AT MOST 1048576: true; the input reads as it did. -/
def graderLeastUptoRow : OpenClaim := { program := "ythjinpodhacleaagreat", sum := "c4e7b165a867e1ebcd0ec1fe0a44a900713c6f5c5b05d6ceee6fb547b12799f6", func := "backstep/backsteplaw48.GraderLeast", spec := "graderLeast", inPlace := ["internal/bytealg.IndexByteString", "slices.overlaps[int]"], unfollowed := true, recurses := true, loops := true, apart := false, narrowed := true }
def GraderLeastUptoSaid : Prop := graderLeastUptoRow.holds Tryz.pinned (OpenSpec.upto graderLeastSpec)

/-- 'backsteplaw48.GraderRefuses', WHERE WHAT IT READS IS OF BULK AT MOST 1048576: true; the input reads as it did. -/
def graderRefusesUptoRow : OpenClaim := { program := "ythjinpodhacleaagreat", sum := "c4e7b165a867e1ebcd0ec1fe0a44a900713c6f5c5b05d6ceee6fb547b12799f6", func := "backstep/backsteplaw48.GraderRefuses", spec := "graderRefuses", inPlace := ["internal/bytealg.IndexByteString", "slices.overlaps[int]"], unfollowed := true, recurses := true, loops := true, apart := false, narrowed := true }
def GraderRefusesUptoSaid : Prop := graderRefusesUptoRow.holds Tryz.pinned (OpenSpec.upto graderRefusesSpec)

/-- 'backsteplaw48.GraderBox', WHERE WHAT IT READS IS OF BULK AT MOST 1048576: true; the input reads as it did. -/
def graderBoxUptoRow : OpenClaim := { program := "ythjinpodhacleaagreat", sum := "c4e7b165a867e1ebcd0ec1fe0a44a900713c6f5c5b05d6ceee6fb547b12799f6", func := "backstep/backsteplaw48.GraderBox", spec := "graderBox", inPlace := ["internal/bytealg.IndexByteString", "slices.overlaps[int]"], unfollowed := true, recurses := true, loops := true, apart := false, narrowed := true }
def GraderBoxUptoSaid : Prop := graderBoxUptoRow.holds Tryz.pinned (OpenSpec.upto graderBoxSpec)

end Rows
end Go.Proofs.YthjinpodhacleaaGreat
