/-
  NARROWER THAN 'FOR EVERY INPUT', by the rows' own cells (each row's printed sentence says how): InterpForward: loops · InterpBackward: loops · InterpAtomic: loops · InterpFuel: loops · InterpParts: loops · InterpInput: loops · InterpNothing: loops · InterpProfile: loops · InterpReverse: loops · InterpRepeat: loops.
  DERIVED. THE GIVEN ROWS OF THIS SEAT. 10 by the template 'for every input the law returns true; each argument reads behind the call as it read before'; 0 by the template 'total and deterministic' (their statements: YtgnfpcebmefhoaaGreatTotals.lean).
  GIVEN WITH THE SEED: the statements are not yours to turn. If you find one false, say at which input.
  Laid BY PROGRAM, IN A SANDBOX (cutbox-rows.mjs): the forced cells as the released guide's own fill.sh prints them over the translation 3d1e74e5bda97673… (all of the seat's roots in one cut). By AI agents, Wed Nov 11 2026. No macro, syntax, notation, axiom, sorry.
-/
import Derived.Test.YtgnfpcebmefhoaaGreatChecked
import GoSem.Claim
import GoSem.ClaimJoined
import GoSem.ClaimMapViews
import Derived.JoinedTies
import Derived.KernelRfl
namespace Go.Proofs.YtgnfpcebmefhoaaGreat
/- THE CELL 'sum', in the pinned program and in every row, IS THE sha256 OF THE DUMP (.gsa) THAT YtgnfpcebmefhoaaGreatProg.lean LOADS. Nothing in Lean hashes anything: it is a label: what it is worth is what the hold of that sum in a sandbox is worth. -/
noncomputable def Tryz.pinned : Pinned := { name := "ytgnfpcebmefhoaagreat", sum := "3d1e74e5bda97673600942675d2c64070a3ef30e6dba265559e06adf7eec17bc", checked := Tryz.checked }
namespace Rows
def none {H : Type} : Left H := { results := [], args := [] }

/-- 'backsteplaw16.InterpForward': WHATEVER THE INPUT: true; the input reads as it did. -/
def interpForwardSpec : ChangeSpec := { name := "interpForward", fn := fun _ => fun
  | [d1, d2, d3] => { results := [.lit (.bool true)], args := [d1, d2, d3] }
  | _ => none }
def interpForwardRow : OpenClaim := { program := "ytgnfpcebmefhoaagreat", sum := "3d1e74e5bda97673600942675d2c64070a3ef30e6dba265559e06adf7eec17bc", func := "backstep/backsteplaw16.InterpForward", spec := "interpForward", inPlace := ["internal/bytealg.IndexByteString", "slices.overlaps[int]"], unfollowed := true, recurses := true, loops := true, apart := false }
def InterpForwardSaid : Prop := interpForwardRow.holds Tryz.pinned (OpenSpec.ofChange interpForwardSpec)

/-- ITS FALSE NEIGHBOUR: 'it returns false'. Refute it at one input. -/
def interpForwardWrong : ChangeSpec := { name := "interpForward", fn := fun _ => fun
  | [d1, d2, d3] => { results := [.lit (.bool false)], args := [d1, d2, d3] }
  | _ => none }
def InterpForwardWrongFalsely : Prop := interpForwardRow.holds Tryz.pinned (OpenSpec.ofChange interpForwardWrong)

/-- 'backsteplaw16.InterpBackward': WHATEVER THE INPUT: true; the input reads as it did. -/
def interpBackwardSpec : ChangeSpec := { name := "interpBackward", fn := fun _ => fun
  | [d1, d2, d3] => { results := [.lit (.bool true)], args := [d1, d2, d3] }
  | _ => none }
def interpBackwardRow : OpenClaim := { program := "ytgnfpcebmefhoaagreat", sum := "3d1e74e5bda97673600942675d2c64070a3ef30e6dba265559e06adf7eec17bc", func := "backstep/backsteplaw16.InterpBackward", spec := "interpBackward", inPlace := ["internal/bytealg.IndexByteString", "slices.overlaps[int]"], unfollowed := true, recurses := true, loops := true, apart := false }
def InterpBackwardSaid : Prop := interpBackwardRow.holds Tryz.pinned (OpenSpec.ofChange interpBackwardSpec)

/-- ITS FALSE NEIGHBOUR: 'it returns false'. Refute it at one input. -/
def interpBackwardWrong : ChangeSpec := { name := "interpBackward", fn := fun _ => fun
  | [d1, d2, d3] => { results := [.lit (.bool false)], args := [d1, d2, d3] }
  | _ => none }
def InterpBackwardWrongFalsely : Prop := interpBackwardRow.holds Tryz.pinned (OpenSpec.ofChange interpBackwardWrong)

/-- 'backsteplaw16.InterpAtomic': WHATEVER THE INPUT: true; the input reads as it did. -/
def interpAtomicSpec : ChangeSpec := { name := "interpAtomic", fn := fun _ => fun
  | [d1, d2, d3] => { results := [.lit (.bool true)], args := [d1, d2, d3] }
  | _ => none }
def interpAtomicRow : OpenClaim := { program := "ytgnfpcebmefhoaagreat", sum := "3d1e74e5bda97673600942675d2c64070a3ef30e6dba265559e06adf7eec17bc", func := "backstep/backsteplaw16.InterpAtomic", spec := "interpAtomic", inPlace := ["internal/bytealg.IndexByteString", "slices.overlaps[int]"], unfollowed := true, recurses := true, loops := true, apart := false }
def InterpAtomicSaid : Prop := interpAtomicRow.holds Tryz.pinned (OpenSpec.ofChange interpAtomicSpec)

/-- ITS FALSE NEIGHBOUR: 'it returns false'. Refute it at one input. -/
def interpAtomicWrong : ChangeSpec := { name := "interpAtomic", fn := fun _ => fun
  | [d1, d2, d3] => { results := [.lit (.bool false)], args := [d1, d2, d3] }
  | _ => none }
def InterpAtomicWrongFalsely : Prop := interpAtomicRow.holds Tryz.pinned (OpenSpec.ofChange interpAtomicWrong)

/-- 'backsteplaw16.InterpFuel': WHATEVER THE INPUT: true; the input reads as it did. -/
def interpFuelSpec : ChangeSpec := { name := "interpFuel", fn := fun _ => fun
  | [d1, d2, d3, d4] => { results := [.lit (.bool true)], args := [d1, d2, d3, d4] }
  | _ => none }
def interpFuelRow : OpenClaim := { program := "ytgnfpcebmefhoaagreat", sum := "3d1e74e5bda97673600942675d2c64070a3ef30e6dba265559e06adf7eec17bc", func := "backstep/backsteplaw16.InterpFuel", spec := "interpFuel", inPlace := ["internal/bytealg.IndexByteString", "slices.overlaps[int]"], unfollowed := true, recurses := true, loops := true, apart := false }
def InterpFuelSaid : Prop := interpFuelRow.holds Tryz.pinned (OpenSpec.ofChange interpFuelSpec)

/-- ITS FALSE NEIGHBOUR: 'it returns false'. Refute it at one input. -/
def interpFuelWrong : ChangeSpec := { name := "interpFuel", fn := fun _ => fun
  | [d1, d2, d3, d4] => { results := [.lit (.bool false)], args := [d1, d2, d3, d4] }
  | _ => none }
def InterpFuelWrongFalsely : Prop := interpFuelRow.holds Tryz.pinned (OpenSpec.ofChange interpFuelWrong)

/-- 'backsteplaw16.InterpParts': WHATEVER THE INPUT: true; the input reads as it did. -/
def interpPartsSpec : ChangeSpec := { name := "interpParts", fn := fun _ => fun
  | [d1, d2, d3] => { results := [.lit (.bool true)], args := [d1, d2, d3] }
  | _ => none }
def interpPartsRow : OpenClaim := { program := "ytgnfpcebmefhoaagreat", sum := "3d1e74e5bda97673600942675d2c64070a3ef30e6dba265559e06adf7eec17bc", func := "backstep/backsteplaw16.InterpParts", spec := "interpParts", inPlace := ["internal/bytealg.IndexByteString", "slices.overlaps[int]"], unfollowed := true, recurses := true, loops := true, apart := false }
def InterpPartsSaid : Prop := interpPartsRow.holds Tryz.pinned (OpenSpec.ofChange interpPartsSpec)

/-- ITS FALSE NEIGHBOUR: 'it returns false'. Refute it at one input. -/
def interpPartsWrong : ChangeSpec := { name := "interpParts", fn := fun _ => fun
  | [d1, d2, d3] => { results := [.lit (.bool false)], args := [d1, d2, d3] }
  | _ => none }
def InterpPartsWrongFalsely : Prop := interpPartsRow.holds Tryz.pinned (OpenSpec.ofChange interpPartsWrong)

/-- 'backsteplaw16.InterpInput': WHATEVER THE INPUT: true; the input reads as it did. -/
def interpInputSpec : ChangeSpec := { name := "interpInput", fn := fun _ => fun
  | [d1, d2, d3] => { results := [.lit (.bool true)], args := [d1, d2, d3] }
  | _ => none }
def interpInputRow : OpenClaim := { program := "ytgnfpcebmefhoaagreat", sum := "3d1e74e5bda97673600942675d2c64070a3ef30e6dba265559e06adf7eec17bc", func := "backstep/backsteplaw16.InterpInput", spec := "interpInput", inPlace := ["internal/bytealg.IndexByteString", "slices.overlaps[int]"], unfollowed := true, recurses := true, loops := true, apart := false }
def InterpInputSaid : Prop := interpInputRow.holds Tryz.pinned (OpenSpec.ofChange interpInputSpec)

/-- ITS FALSE NEIGHBOUR: 'it returns false'. Refute it at one input. -/
def interpInputWrong : ChangeSpec := { name := "interpInput", fn := fun _ => fun
  | [d1, d2, d3] => { results := [.lit (.bool false)], args := [d1, d2, d3] }
  | _ => none }
def InterpInputWrongFalsely : Prop := interpInputRow.holds Tryz.pinned (OpenSpec.ofChange interpInputWrong)

/-- 'backsteplaw16.InterpNothing': WHATEVER THE INPUT: true; the input reads as it did. -/
def interpNothingSpec : ChangeSpec := { name := "interpNothing", fn := fun _ => fun
  | [d1, d2, d3] => { results := [.lit (.bool true)], args := [d1, d2, d3] }
  | _ => none }
def interpNothingRow : OpenClaim := { program := "ytgnfpcebmefhoaagreat", sum := "3d1e74e5bda97673600942675d2c64070a3ef30e6dba265559e06adf7eec17bc", func := "backstep/backsteplaw16.InterpNothing", spec := "interpNothing", inPlace := ["internal/bytealg.IndexByteString", "slices.overlaps[int]"], unfollowed := true, recurses := true, loops := true, apart := false }
def InterpNothingSaid : Prop := interpNothingRow.holds Tryz.pinned (OpenSpec.ofChange interpNothingSpec)

/-- ITS FALSE NEIGHBOUR: 'it returns false'. Refute it at one input. -/
def interpNothingWrong : ChangeSpec := { name := "interpNothing", fn := fun _ => fun
  | [d1, d2, d3] => { results := [.lit (.bool false)], args := [d1, d2, d3] }
  | _ => none }
def InterpNothingWrongFalsely : Prop := interpNothingRow.holds Tryz.pinned (OpenSpec.ofChange interpNothingWrong)

/-- 'backsteplaw16.InterpProfile': WHATEVER THE INPUT: true; the input reads as it did. -/
def interpProfileSpec : ChangeSpec := { name := "interpProfile", fn := fun _ => fun
  | [d1, d2, d3] => { results := [.lit (.bool true)], args := [d1, d2, d3] }
  | _ => none }
def interpProfileRow : OpenClaim := { program := "ytgnfpcebmefhoaagreat", sum := "3d1e74e5bda97673600942675d2c64070a3ef30e6dba265559e06adf7eec17bc", func := "backstep/backsteplaw16.InterpProfile", spec := "interpProfile", inPlace := ["internal/bytealg.IndexByteString", "slices.overlaps[int]"], unfollowed := true, recurses := true, loops := true, apart := false }
def InterpProfileSaid : Prop := interpProfileRow.holds Tryz.pinned (OpenSpec.ofChange interpProfileSpec)

/-- ITS FALSE NEIGHBOUR: 'it returns false'. Refute it at one input. -/
def interpProfileWrong : ChangeSpec := { name := "interpProfile", fn := fun _ => fun
  | [d1, d2, d3] => { results := [.lit (.bool false)], args := [d1, d2, d3] }
  | _ => none }
def InterpProfileWrongFalsely : Prop := interpProfileRow.holds Tryz.pinned (OpenSpec.ofChange interpProfileWrong)

/-- 'backsteplaw16.InterpReverse': WHATEVER THE INPUT: true; the input reads as it did. -/
def interpReverseSpec : ChangeSpec := { name := "interpReverse", fn := fun _ => fun
  | [d1, d2] => { results := [.lit (.bool true)], args := [d1, d2] }
  | _ => none }
def interpReverseRow : OpenClaim := { program := "ytgnfpcebmefhoaagreat", sum := "3d1e74e5bda97673600942675d2c64070a3ef30e6dba265559e06adf7eec17bc", func := "backstep/backsteplaw16.InterpReverse", spec := "interpReverse", inPlace := ["internal/bytealg.IndexByteString", "slices.overlaps[int]"], unfollowed := true, recurses := true, loops := true, apart := false }
def InterpReverseSaid : Prop := interpReverseRow.holds Tryz.pinned (OpenSpec.ofChange interpReverseSpec)

/-- ITS FALSE NEIGHBOUR: 'it returns false'. Refute it at one input. -/
def interpReverseWrong : ChangeSpec := { name := "interpReverse", fn := fun _ => fun
  | [d1, d2] => { results := [.lit (.bool false)], args := [d1, d2] }
  | _ => none }
def InterpReverseWrongFalsely : Prop := interpReverseRow.holds Tryz.pinned (OpenSpec.ofChange interpReverseWrong)

/-- 'backsteplaw16.InterpRepeat': WHATEVER THE INPUT: true; the input reads as it did. -/
def interpRepeatSpec : ChangeSpec := { name := "interpRepeat", fn := fun _ => fun
  | [d1, d2] => { results := [.lit (.bool true)], args := [d1, d2] }
  | _ => none }
def interpRepeatRow : OpenClaim := { program := "ytgnfpcebmefhoaagreat", sum := "3d1e74e5bda97673600942675d2c64070a3ef30e6dba265559e06adf7eec17bc", func := "backstep/backsteplaw16.InterpRepeat", spec := "interpRepeat", inPlace := ["internal/bytealg.IndexByteString", "slices.overlaps[int]"], unfollowed := true, recurses := true, loops := true, apart := false }
def InterpRepeatSaid : Prop := interpRepeatRow.holds Tryz.pinned (OpenSpec.ofChange interpRepeatSpec)

/-- ITS FALSE NEIGHBOUR: 'it returns false'. Refute it at one input. -/
def interpRepeatWrong : ChangeSpec := { name := "interpRepeat", fn := fun _ => fun
  | [d1, d2] => { results := [.lit (.bool false)], args := [d1, d2] }
  | _ => none }
def InterpRepeatWrongFalsely : Prop := interpRepeatRow.holds Tryz.pinned (OpenSpec.ofChange interpRepeatWrong)

/- THE SECOND FORM. 'bulk': how many values and letters a reading holds, each counted each time it is reached (what is shared counts as often as it is met; a slice's spare places count too). A statement '..UptoSaid' is the law's where the arguments, and the package variables that the reading takes, are together of bulk at most 1048576: NARROWER than '..Said'. Prove '..Said' where nothing that the law and all that it calls make is longer than what came in: it says more and counts as full. Else prove '..UptoSaid'. A law counts once. -/
mutual
def uptoBulk {H : Type} : DataW H → Nat
  | .lit (.string bytes) => bytes.length + 1
  | .lit _ => 1
  | .nil => 1
  | .ptr d => uptoBulk d + 1
  | .slice elems spare => uptoBulkAll elems + uptoBulkAll spare + 1
  | .agg parts => uptoBulkAll parts + 1
  | .iface _ d => uptoBulk d + 1
  | .map entries => uptoBulkEntries entries + 1
  | .held _ => 1
def uptoBulkAll {H : Type} : List (DataW H) → Nat
  | [] => 0
  | d :: r => uptoBulk d + uptoBulkAll r
def uptoBulkEntries {H : Type} : List (Lit × DataW H) → Nat
  | [] => 0
  | x :: r => uptoBulkEntry x + uptoBulkEntries r
def uptoBulkEntry {H : Type} : Lit × DataW H → Nat
  | (.string bytes, d) => bytes.length + uptoBulk d + 1
  | (_, d) => uptoBulk d + 1
 end
def uptoSmall : (H : Type) → List (DataW H) → Bool := fun _ ds => decide (uptoBulkAll ds ≤ 1048576)
def OpenSpec.upto (s : _root_.Go.ChangeSpec) : _root_.Go.OpenSpec := { _root_.Go.OpenSpec.ofChange s with cond := some uptoSmall }

/-- 'backsteplaw16.InterpForward', WHERE WHAT IT READS IS OF BULK AT MOST 1048576: true; the input reads as it did. -/
def interpForwardUptoRow : OpenClaim := { program := "ytgnfpcebmefhoaagreat", sum := "3d1e74e5bda97673600942675d2c64070a3ef30e6dba265559e06adf7eec17bc", func := "backstep/backsteplaw16.InterpForward", spec := "interpForward", inPlace := ["internal/bytealg.IndexByteString", "slices.overlaps[int]"], unfollowed := true, recurses := true, loops := true, apart := false, narrowed := true }
def InterpForwardUptoSaid : Prop := interpForwardUptoRow.holds Tryz.pinned (OpenSpec.upto interpForwardSpec)

/-- 'backsteplaw16.InterpBackward', WHERE WHAT IT READS IS OF BULK AT MOST 1048576: true; the input reads as it did. -/
def interpBackwardUptoRow : OpenClaim := { program := "ytgnfpcebmefhoaagreat", sum := "3d1e74e5bda97673600942675d2c64070a3ef30e6dba265559e06adf7eec17bc", func := "backstep/backsteplaw16.InterpBackward", spec := "interpBackward", inPlace := ["internal/bytealg.IndexByteString", "slices.overlaps[int]"], unfollowed := true, recurses := true, loops := true, apart := false, narrowed := true }
def InterpBackwardUptoSaid : Prop := interpBackwardUptoRow.holds Tryz.pinned (OpenSpec.upto interpBackwardSpec)

/-- 'backsteplaw16.InterpAtomic', WHERE WHAT IT READS IS OF BULK AT MOST 1048576: true; the input reads as it did. -/
def interpAtomicUptoRow : OpenClaim := { program := "ytgnfpcebmefhoaagreat", sum := "3d1e74e5bda97673600942675d2c64070a3ef30e6dba265559e06adf7eec17bc", func := "backstep/backsteplaw16.InterpAtomic", spec := "interpAtomic", inPlace := ["internal/bytealg.IndexByteString", "slices.overlaps[int]"], unfollowed := true, recurses := true, loops := true, apart := false, narrowed := true }
def InterpAtomicUptoSaid : Prop := interpAtomicUptoRow.holds Tryz.pinned (OpenSpec.upto interpAtomicSpec)

/-- 'backsteplaw16.InterpFuel', WHERE WHAT IT READS IS OF BULK AT MOST 1048576: true; the input reads as it did. -/
def interpFuelUptoRow : OpenClaim := { program := "ytgnfpcebmefhoaagreat", sum := "3d1e74e5bda97673600942675d2c64070a3ef30e6dba265559e06adf7eec17bc", func := "backstep/backsteplaw16.InterpFuel", spec := "interpFuel", inPlace := ["internal/bytealg.IndexByteString", "slices.overlaps[int]"], unfollowed := true, recurses := true, loops := true, apart := false, narrowed := true }
def InterpFuelUptoSaid : Prop := interpFuelUptoRow.holds Tryz.pinned (OpenSpec.upto interpFuelSpec)

/-- 'backsteplaw16.InterpParts', WHERE WHAT IT READS IS OF BULK AT MOST 1048576: true; the input reads as it did. -/
def interpPartsUptoRow : OpenClaim := { program := "ytgnfpcebmefhoaagreat", sum := "3d1e74e5bda97673600942675d2c64070a3ef30e6dba265559e06adf7eec17bc", func := "backstep/backsteplaw16.InterpParts", spec := "interpParts", inPlace := ["internal/bytealg.IndexByteString", "slices.overlaps[int]"], unfollowed := true, recurses := true, loops := true, apart := false, narrowed := true }
def InterpPartsUptoSaid : Prop := interpPartsUptoRow.holds Tryz.pinned (OpenSpec.upto interpPartsSpec)

/-- 'backsteplaw16.InterpInput', WHERE WHAT IT READS IS OF BULK AT MOST 1048576: true; the input reads as it did. -/
def interpInputUptoRow : OpenClaim := { program := "ytgnfpcebmefhoaagreat", sum := "3d1e74e5bda97673600942675d2c64070a3ef30e6dba265559e06adf7eec17bc", func := "backstep/backsteplaw16.InterpInput", spec := "interpInput", inPlace := ["internal/bytealg.IndexByteString", "slices.overlaps[int]"], unfollowed := true, recurses := true, loops := true, apart := false, narrowed := true }
def InterpInputUptoSaid : Prop := interpInputUptoRow.holds Tryz.pinned (OpenSpec.upto interpInputSpec)

/-- 'backsteplaw16.InterpNothing', WHERE WHAT IT READS IS OF BULK AT MOST 1048576: true; the input reads as it did. -/
def interpNothingUptoRow : OpenClaim := { program := "ytgnfpcebmefhoaagreat", sum := "3d1e74e5bda97673600942675d2c64070a3ef30e6dba265559e06adf7eec17bc", func := "backstep/backsteplaw16.InterpNothing", spec := "interpNothing", inPlace := ["internal/bytealg.IndexByteString", "slices.overlaps[int]"], unfollowed := true, recurses := true, loops := true, apart := false, narrowed := true }
def InterpNothingUptoSaid : Prop := interpNothingUptoRow.holds Tryz.pinned (OpenSpec.upto interpNothingSpec)

/-- 'backsteplaw16.InterpProfile', WHERE WHAT IT READS IS OF BULK AT MOST 1048576: true; the input reads as it did. -/
def interpProfileUptoRow : OpenClaim := { program := "ytgnfpcebmefhoaagreat", sum := "3d1e74e5bda97673600942675d2c64070a3ef30e6dba265559e06adf7eec17bc", func := "backstep/backsteplaw16.InterpProfile", spec := "interpProfile", inPlace := ["internal/bytealg.IndexByteString", "slices.overlaps[int]"], unfollowed := true, recurses := true, loops := true, apart := false, narrowed := true }
def InterpProfileUptoSaid : Prop := interpProfileUptoRow.holds Tryz.pinned (OpenSpec.upto interpProfileSpec)

/-- 'backsteplaw16.InterpReverse', WHERE WHAT IT READS IS OF BULK AT MOST 1048576: true; the input reads as it did. -/
def interpReverseUptoRow : OpenClaim := { program := "ytgnfpcebmefhoaagreat", sum := "3d1e74e5bda97673600942675d2c64070a3ef30e6dba265559e06adf7eec17bc", func := "backstep/backsteplaw16.InterpReverse", spec := "interpReverse", inPlace := ["internal/bytealg.IndexByteString", "slices.overlaps[int]"], unfollowed := true, recurses := true, loops := true, apart := false, narrowed := true }
def InterpReverseUptoSaid : Prop := interpReverseUptoRow.holds Tryz.pinned (OpenSpec.upto interpReverseSpec)

/-- 'backsteplaw16.InterpRepeat', WHERE WHAT IT READS IS OF BULK AT MOST 1048576: true; the input reads as it did. -/
def interpRepeatUptoRow : OpenClaim := { program := "ytgnfpcebmefhoaagreat", sum := "3d1e74e5bda97673600942675d2c64070a3ef30e6dba265559e06adf7eec17bc", func := "backstep/backsteplaw16.InterpRepeat", spec := "interpRepeat", inPlace := ["internal/bytealg.IndexByteString", "slices.overlaps[int]"], unfollowed := true, recurses := true, loops := true, apart := false, narrowed := true }
def InterpRepeatUptoSaid : Prop := interpRepeatUptoRow.holds Tryz.pinned (OpenSpec.upto interpRepeatSpec)

end Rows
end Go.Proofs.YtgnfpcebmefhoaaGreat
