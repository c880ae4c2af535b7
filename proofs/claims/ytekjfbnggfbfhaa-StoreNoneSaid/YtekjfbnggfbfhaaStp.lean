/-
  The store, plainly: frames, cells by numbers, tapes. No program stands here.
-/
import Derived.Test.YtekjfbnggfbfhaaRowI
import Derived.Test.YtekjfbnggfbfhaaPi
namespace Go.Proofs.Ytekjfbnggfbfhaa
open Go Go.RowKit

/-- A frame: its variables, the numbers of their cells, how many of them are locals. -/
structure FR where
  vs : List VD
  cs : List Nat
  loc : Nat
/-- A store: the frame of the globals, the frames that were entered, the cells, the tapes. -/
structure ST where
  base : FR
  calls : List FR
  cell : Nat → List Int
  nc : Nat
  tin : List Int
  tout : List Int

/-- The last of the first j variables that has this name. -/
def lastI (vs : List VD) (s : ByteArray) : Nat → Option Nat
  | 0 => none
  | j + 1 => if (vs[j]?.elim false fun v => v.s.toList == s.toList) then some j else lastI vs s j
theorem lastI_succ {vs : List VD} {j : Nat} (h : j < vs.length) (s : ByteArray) : lastI vs s (j + 1) = if vs[j].s.toList == s.toList then some j else lastI vs s j := by simp [lastI, h]
theorem lastI_lt {vs : List VD} {s : ByteArray} : ∀ {j i : Nat}, lastI vs s j = some i → i < j
  | 0, _, h => by simp [lastI] at h
  | j + 1, i, h => by
    rw [lastI] at h
    split at h
    · injection h with h; omega
    · have := lastI_lt h; omega
/-- frame.find. -/
def FR.at (f : FR) (s : ByteArray) : Option Nat := lastI f.vs s f.vs.length
theorem FR.at_lt {f : FR} {s : ByteArray} {i : Nat} (h : f.at s = some i) : i < f.vs.length := lastI_lt h
/-- The current frame. -/
def ST.cur (S : ST) : FR := S.calls.getLast?.getD S.base
/-- The number of the cell of a visible name. -/
def ST.num (S : ST) (s : ByteArray) : Option Nat := (S.cur.at s).bind fun i => S.cur.cs[i]?
/-- The elements of a visible name. -/
def ST.look (S : ST) (s : ByteArray) : Option (List Int) := (S.num s).map S.cell

/-- What holds of a frame: kd tells the kind and the length of each cell. -/
structure FR.WF (kd : Nat → Int × Int) (nc : Nat) (f : FR) : Prop where
  len : f.cs.length = f.vs.length
  loc : f.loc ≤ f.vs.length
  lim : f.vs.length ≤ 4398046511000
  fld : ∀ v ∈ f.vs, FldV v
  num : ∀ c ∈ f.cs, c < nc
  kind : ∀ i (h : i < f.vs.length) (h' : i < f.cs.length), kd f.cs[i] = (f.vs[i].k, f.vs[i].n)
/-- What holds of a store. -/
structure ST.WF (S : ST) : Prop where
  ex : ∃ kd : Nat → Int × Int, S.base.WF kd S.nc ∧ (∀ f ∈ S.calls, f.WF kd S.nc) ∧ ∀ i, i < S.nc → ((kd i).1 = 1 → (S.cell i).length = 1) ∧ ((kd i).1 = 2 → ((S.cell i).length : Int) = (kd i).2) ∧ ((kd i).1 = 1 ∨ (kd i).1 = 2 ∨ (kd i).1 = 3)
  ncalls : S.calls.length ≤ 100
  cells : ∀ i, i < S.nc → (S.cell i).length ≤ 1000 ∧ ∀ x ∈ S.cell i, I64 x
  tin : S.tin.length ≤ 4096 ∧ ∀ x ∈ S.tin, I64 x
  tout : S.tout.length ≤ 4096 ∧ ∀ x ∈ S.tout, I64 x

end Go.Proofs.Ytekjfbnggfbfhaa
