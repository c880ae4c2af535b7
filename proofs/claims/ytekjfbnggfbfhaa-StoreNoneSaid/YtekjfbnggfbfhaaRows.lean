/-
  NARROWER THAN 'FOR EVERY INPUT', by the rows' own cells (each row's printed sentence says how): StoreFails: loops.
  DERIVED. THE GIVEN ROWS OF THIS SEAT. 6 by the template 'for every input the law returns true; each argument reads behind the call as it read before'; 0 by the template 'total and deterministic' (their statements: YtekjfbnggfbfhaaTotals.lean).
  GIVEN WITH THE SEED: the statements are not yours to turn. If you find one false, say at which input.
  Laid BY PROGRAM, IN A SANDBOX (cutbox-rows.mjs): the forced cells as the released guide's own fill.sh prints them over the translation bb2c6c534e5f1ae1… (all of the seat's roots in one cut). By AI agents, Wed Nov 11 2026. No macro, syntax, notation, axiom, sorry.
-/
import Derived.Test.YtekjfbnggfbfhaaChecked
import GoSem.Claim
import GoSem.ClaimJoined
import GoSem.ClaimMapViews
import Derived.JoinedTies
import Derived.KernelRfl
namespace Go.Proofs.Ytekjfbnggfbfhaa
/- THE CELL 'sum', in the pinned program and in every row, IS THE sha256 OF THE DUMP (.gsa) THAT YtekjfbnggfbfhaaProg.lean LOADS. Nothing in Lean hashes anything: it is a label: what it is worth is what the hold of that sum in a sandbox is worth. -/
noncomputable def Try.pinned : Pinned := { name := "ytekjfbnggfbfhaa", sum := "bb2c6c534e5f1ae121d2333578aca83f099a7098d874740e1aabb7d5dfb79745", checked := Try.checked }
namespace Rows
def none {H : Type} : Left H := { results := [], args := [] }

/-- 'backsteplaw14.StoreLimits': WHATEVER THE INPUT: true; the input reads as it did. -/
def storeLimitsSpec : ChangeSpec := { name := "storeLimits", fn := fun _ => fun
  | [d1, d2] => { results := [.lit (.bool true)], args := [d1, d2] }
  | _ => none }
def storeLimitsRow : OpenClaim := { program := "ytekjfbnggfbfhaa", sum := "bb2c6c534e5f1ae121d2333578aca83f099a7098d874740e1aabb7d5dfb79745", func := "backstep/backsteplaw14.StoreLimits", spec := "storeLimits", inPlace := ["internal/bytealg.IndexByteString", "slices.overlaps[int]"], unfollowed := true, recurses := true, apart := false }
def StoreLimitsSaid : Prop := storeLimitsRow.holds Try.pinned (OpenSpec.ofChange storeLimitsSpec)

/-- ITS FALSE NEIGHBOUR: 'it returns false'. Refute it at one input. -/
def storeLimitsWrong : ChangeSpec := { name := "storeLimits", fn := fun _ => fun
  | [d1, d2] => { results := [.lit (.bool false)], args := [d1, d2] }
  | _ => none }
def StoreLimitsWrongFalsely : Prop := storeLimitsRow.holds Try.pinned (OpenSpec.ofChange storeLimitsWrong)

/-- 'backsteplaw14.StoreParameters': WHATEVER THE INPUT: true; the input reads as it did. -/
def storeParametersSpec : ChangeSpec := { name := "storeParameters", fn := fun _ => fun
  | [d1, d2, d3, d4] => { results := [.lit (.bool true)], args := [d1, d2, d3, d4] }
  | _ => none }
def storeParametersRow : OpenClaim := { program := "ytekjfbnggfbfhaa", sum := "bb2c6c534e5f1ae121d2333578aca83f099a7098d874740e1aabb7d5dfb79745", func := "backstep/backsteplaw14.StoreParameters", spec := "storeParameters", inPlace := ["internal/bytealg.IndexByteString", "slices.overlaps[int]"], unfollowed := true, recurses := true, apart := false }
def StoreParametersSaid : Prop := storeParametersRow.holds Try.pinned (OpenSpec.ofChange storeParametersSpec)

/-- ITS FALSE NEIGHBOUR: 'it returns false'. Refute it at one input. -/
def storeParametersWrong : ChangeSpec := { name := "storeParameters", fn := fun _ => fun
  | [d1, d2, d3, d4] => { results := [.lit (.bool false)], args := [d1, d2, d3, d4] }
  | _ => none }
def StoreParametersWrongFalsely : Prop := storeParametersRow.holds Try.pinned (OpenSpec.ofChange storeParametersWrong)

/-- 'backsteplaw14.StoreDepth': WHATEVER THE INPUT: true; the input reads as it did. -/
def storeDepthSpec : ChangeSpec := { name := "storeDepth", fn := fun _ => fun
  | [d] => { results := [.lit (.bool true)], args := [d] }
  | _ => none }
def storeDepthRow : OpenClaim := { program := "ytekjfbnggfbfhaa", sum := "bb2c6c534e5f1ae121d2333578aca83f099a7098d874740e1aabb7d5dfb79745", func := "backstep/backsteplaw14.StoreDepth", spec := "storeDepth", inPlace := ["internal/bytealg.IndexByteString", "slices.overlaps[int]"], unfollowed := true, recurses := true, apart := false }
def StoreDepthSaid : Prop := storeDepthRow.holds Try.pinned (OpenSpec.ofChange storeDepthSpec)

/-- ITS FALSE NEIGHBOUR: 'it returns false'. Refute it at one input. -/
def storeDepthWrong : ChangeSpec := { name := "storeDepth", fn := fun _ => fun
  | [d] => { results := [.lit (.bool false)], args := [d] }
  | _ => none }
def StoreDepthWrongFalsely : Prop := storeDepthRow.holds Try.pinned (OpenSpec.ofChange storeDepthWrong)

/-- 'backsteplaw14.StoreLocals': WHATEVER THE INPUT: true; the input reads as it did. -/
def storeLocalsSpec : ChangeSpec := { name := "storeLocals", fn := fun _ => fun
  | [d1, d2, d3, d4] => { results := [.lit (.bool true)], args := [d1, d2, d3, d4] }
  | _ => none }
def storeLocalsRow : OpenClaim := { program := "ytekjfbnggfbfhaa", sum := "bb2c6c534e5f1ae121d2333578aca83f099a7098d874740e1aabb7d5dfb79745", func := "backstep/backsteplaw14.StoreLocals", spec := "storeLocals", inPlace := ["internal/bytealg.IndexByteString", "slices.overlaps[int]"], unfollowed := true, recurses := true, apart := false }
def StoreLocalsSaid : Prop := storeLocalsRow.holds Try.pinned (OpenSpec.ofChange storeLocalsSpec)

/-- ITS FALSE NEIGHBOUR: 'it returns false'. Refute it at one input. -/
def storeLocalsWrong : ChangeSpec := { name := "storeLocals", fn := fun _ => fun
  | [d1, d2, d3, d4] => { results := [.lit (.bool false)], args := [d1, d2, d3, d4] }
  | _ => none }
def StoreLocalsWrongFalsely : Prop := storeLocalsRow.holds Try.pinned (OpenSpec.ofChange storeLocalsWrong)

/-- 'backsteplaw14.StoreFails': WHATEVER THE INPUT: true; the input reads as it did. -/
def storeFailsSpec : ChangeSpec := { name := "storeFails", fn := fun _ => fun
  | [d1, d2, d3] => { results := [.lit (.bool true)], args := [d1, d2, d3] }
  | _ => none }
def storeFailsRow : OpenClaim := { program := "ytekjfbnggfbfhaa", sum := "bb2c6c534e5f1ae121d2333578aca83f099a7098d874740e1aabb7d5dfb79745", func := "backstep/backsteplaw14.StoreFails", spec := "storeFails", inPlace := ["internal/bytealg.IndexByteString", "slices.overlaps[int]"], unfollowed := true, recurses := true, loops := true, apart := false }
def StoreFailsSaid : Prop := storeFailsRow.holds Try.pinned (OpenSpec.ofChange storeFailsSpec)

/-- ITS FALSE NEIGHBOUR: 'it returns false'. Refute it at one input. -/
def storeFailsWrong : ChangeSpec := { name := "storeFails", fn := fun _ => fun
  | [d1, d2, d3] => { results := [.lit (.bool false)], args := [d1, d2, d3] }
  | _ => none }
def StoreFailsWrongFalsely : Prop := storeFailsRow.holds Try.pinned (OpenSpec.ofChange storeFailsWrong)

/-- 'backsteplaw14.StoreNone': WHATEVER THE INPUT: true; the input reads as it did. -/
def storeNoneSpec : ChangeSpec := { name := "storeNone", fn := fun _ => fun
  | [d1, d2, d3] => { results := [.lit (.bool true)], args := [d1, d2, d3] }
  | _ => none }
def storeNoneRow : OpenClaim := { program := "ytekjfbnggfbfhaa", sum := "bb2c6c534e5f1ae121d2333578aca83f099a7098d874740e1aabb7d5dfb79745", func := "backstep/backsteplaw14.StoreNone", spec := "storeNone", inPlace := ["internal/bytealg.IndexByteString", "slices.overlaps[int]"], unfollowed := true, recurses := true, apart := false }
def StoreNoneSaid : Prop := storeNoneRow.holds Try.pinned (OpenSpec.ofChange storeNoneSpec)

/-- ITS FALSE NEIGHBOUR: 'it returns false'. Refute it at one input. -/
def storeNoneWrong : ChangeSpec := { name := "storeNone", fn := fun _ => fun
  | [d1, d2, d3] => { results := [.lit (.bool false)], args := [d1, d2, d3] }
  | _ => none }
def StoreNoneWrongFalsely : Prop := storeNoneRow.holds Try.pinned (OpenSpec.ofChange storeNoneWrong)

/- THE SECOND FORM. 'bulk': how many values and letters a reading holds, each counted each time it is reached (what is shared counts as often as it is met; a slice's spare places count too). A statement '..UptoSaid' is the law's where the arguments, and the package variables that the reading takes, are together of bulk at most 1048576: NARROWER than '..Said'. Prove '..Said' where nothing that the law and all that it calls make is longer than what came in: it says more and counts as full. Else prove '..UptoSaid'. A law counts once. -/
mutual
def uptoBulk {H : Type} : DataW H → Nat
  | .lit (.string bytes) => bytes.length + 1
  | .lit _ => 1
  | .nil => 1
  | .ptr d => uptoBulk d + 1
  | .slice elems spare => uptoBulkAll elems + uptoBulkAll spare + 1
  | .agg parts => uptoBulkAll parts + 1
  | .iface _ d => uptoBulk d + 1
  | .map entries => uptoBulkEntries entries + 1
  | .held _ => 1
def uptoBulkAll {H : Type} : List (DataW H) → Nat
  | [] => 0
  | d :: r => uptoBulk d + uptoBulkAll r
def uptoBulkEntries {H : Type} : List (Lit × DataW H) → Nat
  | [] => 0
  | x :: r => uptoBulkEntry x + uptoBulkEntries r
def uptoBulkEntry {H : Type} : Lit × DataW H → Nat
  | (.string bytes, d) => bytes.length + uptoBulk d + 1
  | (_, d) => uptoBulk d + 1
 end
def uptoSmall : (H : Type) → List (DataW H) → Bool := fun _ ds => decide (uptoBulkAll ds ≤ 1048576)
def OpenSpec.upto (s : _root_.Go.ChangeSpec) : _root_.Go.OpenSpec := { _root_.Go.OpenSpec.ofChange s with cond := some uptoSmall }

/-- 'backsteplaw14.StoreLimits', WHERE WHAT IT READS IS OF BULK AT MOST 1048576: true; the input reads as it did. -/
def storeLimitsUptoRow : OpenClaim := { program := "ytekjfbnggfbfhaa", sum := "bb2c6c534e5f1ae121d2333578aca83f099a7098d874740e1aabb7d5dfb79745", func := "backstep/backsteplaw14.StoreLimits", spec := "storeLimits", inPlace := ["internal/bytealg.IndexByteString", "slices.overlaps[int]"], unfollowed := true, recurses := true, apart := false, narrowed := true }
def StoreLimitsUptoSaid : Prop := storeLimitsUptoRow.holds Try.pinned (OpenSpec.upto storeLimitsSpec)

/-- 'backsteplaw14.StoreParameters', WHERE WHAT IT READS IS OF BULK AT MOST 1048576: true; the input reads as it did. -/
def storeParametersUptoRow : OpenClaim := { program := "ytekjfbnggfbfhaa", sum := "bb2c6c534e5f1ae121d2333578aca83f099a7098d874740e1aabb7d5dfb79745", func := "backstep/backsteplaw14.StoreParameters", spec := "storeParameters", inPlace := ["internal/bytealg.IndexByteString", "slices.overlaps[int]"], unfollowed := true, recurses := true, apart := false, narrowed := true }
def StoreParametersUptoSaid : Prop := storeParametersUptoRow.holds Try.pinned (OpenSpec.upto storeParametersSpec)

/-- 'backsteplaw14.StoreDepth', WHERE WHAT IT READS IS OF BULK AT MOST 1048576: true; the input reads as it did. -/
def storeDepthUptoRow : OpenClaim := { program := "ytekjfbnggfbfhaa", sum := "bb2c6c534e5f1ae121d2333578aca83f099a7098d874740e1aabb7d5dfb79745", func := "backstep/backsteplaw14.StoreDepth", spec := "storeDepth", inPlace := ["internal/bytealg.IndexByteString", "slices.overlaps[int]"], unfollowed := true, recurses := true, apart := false, narrowed := true }
def StoreDepthUptoSaid : Prop := storeDepthUptoRow.holds Try.pinned (OpenSpec.upto storeDepthSpec)

/-- 'backsteplaw14.StoreLocals', WHERE WHAT IT READS IS OF BULK AT MOST 1048576: true; the input reads as it did. -/
def storeLocalsUptoRow : OpenClaim := { program := "ytekjfbnggfbfhaa", sum := "bb2c6c534e5f1ae121d2333578aca83f099a7098d874740e1aabb7d5dfb79745", func := "backstep/backsteplaw14.StoreLocals", spec := "storeLocals", inPlace := ["internal/bytealg.IndexByteString", "slices.overlaps[int]"], unfollowed := true, recurses := true, apart := false, narrowed := true }
def StoreLocalsUptoSaid : Prop := storeLocalsUptoRow.holds Try.pinned (OpenSpec.upto storeLocalsSpec)

/-- 'backsteplaw14.StoreFails', WHERE WHAT IT READS IS OF BULK AT MOST 1048576: true; the input reads as it did. -/
def storeFailsUptoRow : OpenClaim := { program := "ytekjfbnggfbfhaa", sum := "bb2c6c534e5f1ae121d2333578aca83f099a7098d874740e1aabb7d5dfb79745", func := "backstep/backsteplaw14.StoreFails", spec := "storeFails", inPlace := ["internal/bytealg.IndexByteString", "slices.overlaps[int]"], unfollowed := true, recurses := true, loops := true, apart := false, narrowed := true }
def StoreFailsUptoSaid : Prop := storeFailsUptoRow.holds Try.pinned (OpenSpec.upto storeFailsSpec)

/-- 'backsteplaw14.StoreNone', WHERE WHAT IT READS IS OF BULK AT MOST 1048576: true; the input reads as it did. -/
def storeNoneUptoRow : OpenClaim := { program := "ytekjfbnggfbfhaa", sum := "bb2c6c534e5f1ae121d2333578aca83f099a7098d874740e1aabb7d5dfb79745", func := "backstep/backsteplaw14.StoreNone", spec := "storeNone", inPlace := ["internal/bytealg.IndexByteString", "slices.overlaps[int]"], unfollowed := true, recurses := true, apart := false, narrowed := true }
def StoreNoneUptoSaid : Prop := storeNoneUptoRow.holds Try.pinned (OpenSpec.upto storeNoneSpec)

end Rows
end Go.Proofs.Ytekjfbnggfbfhaa
