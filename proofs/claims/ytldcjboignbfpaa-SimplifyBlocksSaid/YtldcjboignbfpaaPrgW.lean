/-
  Closed facts of the given program: how a program and a procedure are built.
-/
import Derived.Test.YtldcjboignbfpaaSpec
import Derived.Test.YtldcjboignbfpaaPi
namespace Go.Proofs.Ytldcjboignbfpaa
open Go.RowKit

theorem build38 (A : Option Addr) (l c : Nat) (k n : Int) (s : ByteArray) (A' : Option Addr) (l' c' : Nat) (w : World) : (Instr.build 38 #[(0, .slice A l c), (2, nv k n s A' l' c')]).run Try.prog w = .ok (pv A l c none 0 0 k n s A' l' c') w := by kernel_rfl
theorem prInfo : (Try.prog.info? 58).map (fun i => (i.zero, i.size, i.bytes)) = some (some (.agg #[.string ⟨#[]⟩, .slice none 0 0, .int .u8 0, .int .i64 0, .string ⟨#[]⟩, .slice none 0 0]), 6, 96) := by kernel_rfl
theorem buildP1 (a0 a1 a2 a3 a4 a5 : Value) (w : World) : (Instr.buildSlice 36 1 #[(0, .agg #[a0, a1, a2, a3, a4, a5])]).run Try.prog w = .ok (.slice (some ⟨w.heap.size, 0, none⟩) 1 1) (w.alloc (.cells #[a0, a1, a2, a3, a4, a5] 58)) := by kernel_rfl

theorem build58 (s0 : ByteArray) (A : Option Addr) (l c : Nat) (k n : Int) (s : ByteArray) (A' : Option Addr) (l' c' : Nat) (w : World) : (Instr.build 58 #[(0, .string s0), (1, .slice A l c), (2, nv k n s A' l' c')]).run Try.prog w = .ok (.agg #[.string s0, .slice A l c, .int .u8 k, .int .i64 n, .string s, .slice A' l' c']) w := by kernel_rfl

end Go.Proofs.Ytldcjboignbfpaa
