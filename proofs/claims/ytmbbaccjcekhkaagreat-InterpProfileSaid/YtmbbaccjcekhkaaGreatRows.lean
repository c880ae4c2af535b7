/-
  NARROWER THAN 'FOR EVERY INPUT', by the rows' own cells (each row's printed sentence says how): InterpForward: loops · InterpBackward: loops · InterpProfile: loops.
  DERIVED. THE GIVEN ROWS OF THIS SEAT. 3 by the template 'for every input the law returns true; each argument reads behind the call as it read before'; 0 by the template 'total and deterministic' (their statements: YtmbbaccjcekhkaaGreatTotals.lean).
  GIVEN WITH THE SEED: the statements are not yours to turn. If you find one false, say at which input.
  Laid BY PROGRAM, IN A SANDBOX (cutbox-rows.mjs): the forced cells as the released guide's own fill.sh prints them over the translation 5e7a1aaee1a3efea… (all of the seat's roots in one cut). By AI agents, Wed Nov 11 2026. No macro, syntax, notation, axiom, sorry.
-/
import Derived.Test.YtmbbaccjcekhkaaGreatChecked
import GoSem.Claim
import GoSem.ClaimJoined
import GoSem.ClaimMapViews
import Derived.JoinedTies
import Derived.KernelRfl
namespace Go.Proofs.YtmbbaccjcekhkaaGreat
/- THE CELL 'sum', in the pinned program and in every row, IS THE sha256 OF THE DUMP (.gsa) THAT YtmbbaccjcekhkaaGreatProg.lean LOADS. Nothing in Lean hashes anything: it is a label: what it is worth is what the hold of that sum in a sandbox is worth. -/
noncomputable def Tryz.pinned : Pinned := { name := "ytmbbaccjcekhkaagreat", sum := "5e7a1aaee1a3efea67d506cb4bf43af1b981e495e6ab4d8806c8cc7358c8cfb9", checked := Tryz.checked }
namespace Rows
def none {H : Type} : Left H := { results := [], args := [] }

/-- 'backsteplaw16.InterpForward': WHATEVER THE INPUT: true; the input reads as it did. -/
def interpForwardSpec : ChangeSpec := { name := "interpForward", fn := fun _ => fun
  | [d1, d2, d3] => { results := [.lit (.bool true)], args := [d1, d2, d3] }
  | _ => none }
def interpForwardRow : OpenClaim := { program := "ytmbbaccjcekhkaagreat", sum := "5e7a1aaee1a3efea67d506cb4bf43af1b981e495e6ab4d8806c8cc7358c8cfb9", func := "backstep/backsteplaw16.InterpForward", spec := "interpForward", inPlace := ["internal/bytealg.IndexByteString", "slices.overlaps[int]"], unfollowed := true, recurses := true, loops := true, apart := false }
def InterpForwardSaid : Prop := interpForwardRow.holds Tryz.pinned (OpenSpec.ofChange interpForwardSpec)

/-- ITS FALSE NEIGHBOUR: 'it returns false'. Refute it at one input. -/
def interpForwardWrong : ChangeSpec := { name := "interpForward", fn := fun _ => fun
  | [d1, d2, d3] => { results := [.lit (.bool false)], args := [d1, d2, d3] }
  | _ => none }
def InterpForwardWrongFalsely : Prop := interpForwardRow.holds Tryz.pinned (OpenSpec.ofChange interpForwardWrong)

/-- 'backsteplaw16.InterpBackward': WHATEVER THE INPUT: true; the input reads as it did. -/
def interpBackwardSpec : ChangeSpec := { name := "interpBackward", fn := fun _ => fun
  | [d1, d2, d3] => { results := [.lit (.bool true)], args := [d1, d2, d3] }
  | _ => none }
def interpBackwardRow : OpenClaim := { program := "ytmbbaccjcekhkaagreat", sum := "5e7a1aaee1a3efea67d506cb4bf43af1b981e495e6ab4d8806c8cc7358c8cfb9", func := "backstep/backsteplaw16.InterpBackward", spec := "interpBackward", inPlace := ["internal/bytealg.IndexByteString", "slices.overlaps[int]"], unfollowed := true, recurses := true, loops := true, apart := false }
def InterpBackwardSaid : Prop := interpBackwardRow.holds Tryz.pinned (OpenSpec.ofChange interpBackwardSpec)

/-- ITS FALSE NEIGHBOUR: 'it returns false'. Refute it at one input. -/
def interpBackwardWrong : ChangeSpec := { name := "interpBackward", fn := fun _ => fun
  | [d1, d2, d3] => { results := [.lit (.bool false)], args := [d1, d2, d3] }
  | _ => none }
def InterpBackwardWrongFalsely : Prop := interpBackwardRow.holds Tryz.pinned (OpenSpec.ofChange interpBackwardWrong)

/-- 'backsteplaw16.InterpProfile': WHATEVER THE INPUT: true; the input reads as it did. -/
def interpProfileSpec : ChangeSpec := { name := "interpProfile", fn := fun _ => fun
  | [d1, d2, d3] => { results := [.lit (.bool true)], args := [d1, d2, d3] }
  | _ => none }
def interpProfileRow : OpenClaim := { program := "ytmbbaccjcekhkaagreat", sum := "5e7a1aaee1a3efea67d506cb4bf43af1b981e495e6ab4d8806c8cc7358c8cfb9", func := "backstep/backsteplaw16.InterpProfile", spec := "interpProfile", inPlace := ["internal/bytealg.IndexByteString", "slices.overlaps[int]"], unfollowed := true, recurses := true, loops := true, apart := false }
def InterpProfileSaid : Prop := interpProfileRow.holds Tryz.pinned (OpenSpec.ofChange interpProfileSpec)

/-- ITS FALSE NEIGHBOUR: 'it returns false'. Refute it at one input. -/
def interpProfileWrong : ChangeSpec := { name := "interpProfile", fn := fun _ => fun
  | [d1, d2, d3] => { results := [.lit (.bool false)], args := [d1, d2, d3] }
  | _ => none }
def InterpProfileWrongFalsely : Prop := interpProfileRow.holds Tryz.pinned (OpenSpec.ofChange interpProfileWrong)

/- THE SECOND FORM. 'bulk': how many values and letters a reading holds, each counted each time it is reached (what is shared counts as often as it is met; a slice's spare places count too). A statement '..UptoSaid' is the law's where the arguments, and the package variables that the reading takes, are together of bulk at most 1048576: NARROWER than '..Said'. Prove '..Said' where nothing that the law and all that it calls make is longer than what came in: it says more and counts as full. Else prove '..UptoSaid'. A law counts once. -/
mutual
def uptoBulk {H : Type} : DataW H → Nat
  | .lit (.string bytes) => bytes.length + 1
  | .lit _ => 1
  | .nil => 1
  | .ptr d => uptoBulk d + 1
  | .slice elems spare => uptoBulkAll elems + uptoBulkAll spare + 1
  | .agg parts => uptoBulkAll parts + 1
  | .iface _ d => uptoBulk d + 1
  | .map entries => uptoBulkEntries entries + 1
  | .held _ => 1
def uptoBulkAll {H : Type} : List (DataW H) → Nat
  | [] => 0
  | d :: r => uptoBulk d + uptoBulkAll r
def uptoBulkEntries {H : Type} : List (Lit × DataW H) → Nat
  | [] => 0
  | x :: r => uptoBulkEntry x + uptoBulkEntries r
def uptoBulkEntry {H : Type} : Lit × DataW H → Nat
  | (.string bytes, d) => bytes.length + uptoBulk d + 1
  | (_, d) => uptoBulk d + 1
 end
def uptoSmall : (H : Type) → List (DataW H) → Bool := fun _ ds => decide (uptoBulkAll ds ≤ 1048576)
def OpenSpec.upto (s : _root_.Go.ChangeSpec) : _root_.Go.OpenSpec := { _root_.Go.OpenSpec.ofChange s with cond := some uptoSmall }

/-- 'backsteplaw16.InterpForward', WHERE WHAT IT READS IS OF BULK AT MOST 1048576: true; the input reads as it did. -/
def interpForwardUptoRow : OpenClaim := { program := "ytmbbaccjcekhkaagreat", sum := "5e7a1aaee1a3efea67d506cb4bf43af1b981e495e6ab4d8806c8cc7358c8cfb9", func := "backstep/backsteplaw16.InterpForward", spec := "interpForward", inPlace := ["internal/bytealg.IndexByteString", "slices.overlaps[int]"], unfollowed := true, recurses := true, loops := true, apart := false, narrowed := true }
def InterpForwardUptoSaid : Prop := interpForwardUptoRow.holds Tryz.pinned (OpenSpec.upto interpForwardSpec)

/-- 'backsteplaw16.InterpBackward', WHERE WHAT IT READS IS OF BULK AT MOST 1048576: true; the input reads as it did. -/
def interpBackwardUptoRow : OpenClaim := { program := "ytmbbaccjcekhkaagreat", sum := "5e7a1aaee1a3efea67d506cb4bf43af1b981e495e6ab4d8806c8cc7358c8cfb9", func := "backstep/backsteplaw16.InterpBackward", spec := "interpBackward", inPlace := ["internal/bytealg.IndexByteString", "slices.overlaps[int]"], unfollowed := true, recurses := true, loops := true, apart := false, narrowed := true }
def InterpBackwardUptoSaid : Prop := interpBackwardUptoRow.holds Tryz.pinned (OpenSpec.upto interpBackwardSpec)

/-- 'backsteplaw16.InterpProfile', WHERE WHAT IT READS IS OF BULK AT MOST 1048576: true; the input reads as it did. -/
def interpProfileUptoRow : OpenClaim := { program := "ytmbbaccjcekhkaagreat", sum := "5e7a1aaee1a3efea67d506cb4bf43af1b981e495e6ab4d8806c8cc7358c8cfb9", func := "backstep/backsteplaw16.InterpProfile", spec := "interpProfile", inPlace := ["internal/bytealg.IndexByteString", "slices.overlaps[int]"], unfollowed := true, recurses := true, loops := true, apart := false, narrowed := true }
def InterpProfileUptoSaid : Prop := interpProfileUptoRow.holds Tryz.pinned (OpenSpec.upto interpProfileSpec)

end Rows
end Go.Proofs.YtmbbaccjcekhkaaGreat
