/-
  The store in memory: a family of rows, each in a block of its own.
-/
import Derived.Test.YtekjfbnggfbfhaaStp
import Derived.Test.YtekjfbnggfbfhaaRws
namespace Go.Proofs.Ytekjfbnggfbfhaa
open Go Go.RowKit

/-- The rows of a store. x 0, x 1, x 2: a frame that is being built (its box, its variables, its cells). -/
inductive Res where
  | sb | tb | tin | tout | bv | bc | calls
  | fv (i : Nat) | fc (i : Nat) | cb (i : Nat) | ci (i : Nat) | x (i : Nat)
  deriving DecidableEq
/-- Where the rows lie. -/
structure Ph where
  sb : Nat
  tb : Nat
  vI : Value
  vO : Value
  vV : Value
  vC : Value
  vF : Value
  fV : Nat → Value
  fC : Nat → Value
  cb : Nat → Nat
  ci : Nat → Value

def flatV (vs : List VD) : List Value := vs.flatMap fun v => [.string v.s, .int .u8 v.k, .int .i64 v.n]
def flatI (l : List Int) : List Value := l.map (Value.int .i64)
def ptrs (cb : Nat → Nat) (cs : List Nat) : List Value := cs.map fun i => .pointer (some ⟨cb i, 0, none⟩)
def flatF (P : Ph) : Nat → List FR → List Value
  | _, [] => []
  | i, f :: fs => P.fV i :: P.fC i :: .int .i64 f.loc :: flatF P (i + 1) fs
/-- No row. -/
def nilR : RowD := ⟨.slice none 0 0, 0, 1, 0, []⟩
/-- A box as a row of one element. -/
abbrev boxV (b : Nat) : Value := .slice (some ⟨b, 0, none⟩) 1 1
def rows (P : Ph) (S : ST) : Res → RowD
  | .sb => ⟨boxV P.sb, 77, 5, 1, [P.vV, P.vC, .int .i64 S.base.loc, P.vF, .pointer (some ⟨P.tb, 0, none⟩)]⟩
  | .tb => ⟨boxV P.tb, 93, 2, 1, [P.vI, P.vO]⟩
  | .tin => ⟨P.vI, 3, 1, S.tin.length, flatI S.tin⟩
  | .tout => ⟨P.vO, 3, 1, S.tout.length, flatI S.tout⟩
  | .bv => ⟨P.vV, 24, 3, S.base.vs.length, flatV S.base.vs⟩
  | .bc => ⟨P.vC, 79, 1, S.base.cs.length, ptrs P.cb S.base.cs⟩
  | .calls => ⟨P.vF, 74, 3, S.calls.length, flatF P 0 S.calls⟩
  | .fv i => match S.calls[i]? with
    | none => nilR
    | some f => ⟨P.fV i, 24, 3, f.vs.length, flatV f.vs⟩
  | .fc i => match S.calls[i]? with
    | none => nilR
    | some f => ⟨P.fC i, 79, 1, f.cs.length, ptrs P.cb f.cs⟩
  | .cb i => if i < S.nc then ⟨boxV (P.cb i), 82, 1, 1, [P.ci i]⟩ else nilR
  | .ci i => if i < S.nc then ⟨P.ci i, 3, 1, (S.cell i).length, flatI (S.cell i)⟩ else nilR
  | .x _ => nilR
/-- The store S lies in W, from block n0 on, as P tells. -/
structure SR (W : World) (n0 : Nat) (P : Ph) (S : ST) : Prop where
  rws : Rws W n0 (rows P S)
  wf : S.WF

theorem flatF_len (P : Ph) : ∀ (i : Nat) (fs : List FR), (flatF P i fs).length = fs.length * 3
  | _, [] => rfl
  | i, f :: fs => by simp [flatF, flatF_len P (i + 1) fs]; omega
theorem flatF_get (P : Ph) : ∀ (fs : List FR) (i j : Nat) (h : j < fs.length), (flatF P i fs)[j * 3]? = some (P.fV (i + j)) ∧ (flatF P i fs)[j * 3 + 1]? = some (P.fC (i + j)) ∧ (flatF P i fs)[j * 3 + 2]? = some (.int .i64 fs[j].loc)
  | f :: fs, i, 0, _ => by simp [flatF]
  | f :: fs, i, j + 1, h => by
    have := flatF_get P fs (i + 1) j (by simpa using h)
    rw [show (j + 1) * 3 = j * 3 + 1 + 1 + 1 by omega, show i + (j + 1) = i + 1 + j by omega]
    simp only [flatF, List.getElem?_cons_succ, List.getElem_cons_succ]
    exact this
theorem flatV_len (vs : List VD) : (flatV vs).length = vs.length * 3 := by
  induction vs with
  | nil => rfl
  | cons v vs ih => simp [flatV] at *; omega
theorem flatV_get : ∀ (vs : List VD) (i : Nat) (h : i < vs.length), (flatV vs)[i * 3]? = some (.string vs[i].s) ∧ (flatV vs)[i * 3 + 1]? = some (.int .u8 vs[i].k) ∧ (flatV vs)[i * 3 + 2]? = some (.int .i64 vs[i].n)
  | v :: vs, 0, _ => by simp [flatV]
  | v :: vs, i + 1, h => by
    have := flatV_get vs i (by simpa using h)
    rw [show (i + 1) * 3 = i * 3 + 1 + 1 + 1 by omega]
    simp only [flatV, List.flatMap_cons, List.cons_append, List.nil_append, List.getElem?_cons_succ, List.getElem_cons_succ]
    exact this

end Go.Proofs.Ytekjfbnggfbfhaa
