/-
  The plain functions on trees that the packages ast, inverter and simplify compute, and plain facts on them.
-/
import Derived.Test.YtekjfbnggfbfhaaName
namespace Go.Proofs.Ytekjfbnggfbfhaa
open Go.RowKit

mutual
def size : T → Nat
  | .nd _ _ _ ks => 1 + sizes ks
def sizes : List T → Nat
  | [] => 0
  | t :: ts => size t + sizes ts
end
theorem sizes_take (ks : List T) (i : Nat) (h : i < ks.length) : sizes (ks.take (i + 1)) = sizes (ks.take i) + size ks[i] := by
  induction ks generalizing i with
  | nil => simp at h
  | cons t ts ih =>
    cases i with
    | zero => simp [sizes]
    | succ i => simp [sizes, ih i (by simpa using h)]; omega

theorem wrap_add (a b : Int) : wrap64 (wrap64 a + wrap64 b) = wrap64 (a + b) := by
  unfold wrap64; omega

def plainB (n : Int) (s : ByteArray) : Bool := n == 0 && s.toList.isEmpty
def namedB (n : Int) (s : ByteArray) : Bool := n == 0 && nameB s

/-- Each child passes its test: the i-th the test p i. -/
def kidsFrom (p : Nat → T → Bool) : Nat → List T → Bool
  | _, [] => true
  | i, t :: ts => p i t && kidsFrom p (i + 1) ts
def kidsB (m : Nat) (p : Nat → T → Bool) (ks : List T) : Bool := decide (ks.length = m) && kidsFrom p 0 ks
theorem kidsFrom_iff (p : Nat → T → Bool) : ∀ (i : Nat) (ks : List T), kidsFrom p i ks = true ↔ ∀ j (h : j < ks.length), p (i + j) ks[j] = true
  | i, [] => by simp [kidsFrom]
  | i, t :: ts => by
    rw [kidsFrom, Bool.and_eq_true, kidsFrom_iff p (i + 1) ts]
    constructor
    · rintro ⟨h1, h2⟩ j hj
      cases j with
      | zero => simpa using h1
      | succ j => have := h2 j (by simpa using hj); simpa [Nat.add_assoc, Nat.add_comm 1 j] using this
    · intro h
      exact ⟨h 0 (Nat.zero_lt_succ _), fun j hj => by have := h (j + 1) (by simpa using hj); simpa [Nat.add_assoc, Nat.add_comm 1 j] using this⟩
theorem kidsB_true {m : Nat} {p : Nat → T → Bool} {ks : List T} (hl : ks.length = m) (h : ∀ j (hj : j < ks.length), p j ks[j] = true) : kidsB m p ks = true := by
  simp only [kidsB, hl, decide_true, Bool.true_and]
  rw [kidsFrom_iff]
  intro j hj
  simpa using h j hj
theorem kidsB_false {m : Nat} {p : Nat → T → Bool} {ks : List T} {j : Nat} (hj : j < ks.length) (h : p j ks[j] = false) : kidsB m p ks = false := by
  have : kidsFrom p 0 ks = false := by
    rw [Bool.eq_false_iff, ne_eq, kidsFrom_iff]
    intro hh
    have := hh j hj
    simp [h] at this
  simp [kidsB, this]
theorem kidsB_len {m : Nat} {p : Nat → T → Bool} {ks : List T} (hl : ks.length ≠ m) : kidsB m p ks = false := by simp [kidsB, hl]

mutual
/-- ast.IsExpr. -/
def isE : T → Bool
  | .nd k n s ks =>
    if k = 1 then decide (0 ≤ n) && s.toList.isEmpty && decide (ks.length = 0)
    else if k = 2 ∨ k = 4 ∨ k = 5 then namedB n s && decide (ks.length = 0)
    else if k = 3 then namedB n s && (decide (ks.length = 1) && isEs ks)
    else if k = 6 ∨ k = 7 then plainB n s && (decide (ks.length = 1) && isEs ks)
    else if 8 ≤ k ∧ k ≤ 23 then plainB n s && (decide (ks.length = 2) && isEs ks)
    else false
def isEs : List T → Bool
  | [] => true
  | t :: ts => isE t && isEs ts
end
theorem isEs_eq : ∀ (i : Nat) (ks : List T), isEs ks = kidsFrom (fun _ => isE) i ks
  | _, [] => by simp [isEs, kidsFrom]
  | i, t :: ts => by simp [isEs, kidsFrom, isEs_eq (i + 1) ts]
/-- ast.IsPlace. -/
def isP (t : T) : Bool := (t.k == 2 || t.k == 3) && isE t
/-- ast.isVar. -/
def isV (t : T) : Bool := t.k == 2 && isE t

mutual
/-- ast.IsStmt. -/
def isS : T → Bool
  | .nd k n s ks =>
    if k = 40 ∨ k = 41 ∨ k = 42 ∨ k = 56 then plainB n s && kidsB 2 (fun i => if i = 0 then isP else isE) ks
    else if k = 43 then plainB n s && kidsB 2 (fun _ => isP) ks
    else if k = 44 ∨ k = 45 then namedB n s && kidsB 1 (fun _ => isP) ks
    else if k = 46 ∨ k = 47 ∨ k = 48 ∨ k = 49 then plainB n s && kidsB 1 (fun _ => isP) ks
    else if k = 50 ∨ k = 51 then namedB n s && decide (ks.length ≤ 8) && kidsFrom (fun _ => isV) 0 ks
    else if k = 52 ∨ k = 53 then plainB n s && (decide (ks.length = 4) && isEB 0 ks)
    else if k = 54 then namedB n s && (decide (ks.length = 3) && isEB 4 ks)
    else if k = 55 then namedB n s && (decide (ks.length = 1) && isEB 7 ks)
    else false
/-- ast.IsBlock. -/
def isB : T → Bool
  | .nd k n s ks => decide (k = 57) && plainB n s && isSs ks
def isSs : List T → Bool
  | [] => true
  | t :: ts => isS t && isSs ts
/-- Children of an If or a From (from place 0), of a Local (from place 4), of a LocalStack (from place 7). -/
def isEB : Nat → List T → Bool
  | _, [] => true
  | i, t :: ts => (if i = 0 ∨ i = 3 ∨ i = 4 ∨ i = 6 then isE t else isB t) && isEB (i + 1) ts
end
theorem isSs_eq : ∀ (i : Nat) (ks : List T), isSs ks = kidsFrom (fun _ => isS) i ks
  | _, [] => by simp [isSs, kidsFrom]
  | i, t :: ts => by simp [isSs, kidsFrom, isSs_eq (i + 1) ts]
def pEB (d i : Nat) (t : T) : Bool := if d + i = 0 ∨ d + i = 3 ∨ d + i = 4 ∨ d + i = 6 then isE t else isB t
theorem isEB_eq (d : Nat) : ∀ (i : Nat) (ks : List T), isEB (d + i) ks = kidsFrom (pEB d) i ks
  | _, [] => by simp [isEB, kidsFrom]
  | i, t :: ts => by
    have := isEB_eq d (i + 1) ts
    simp only [isEB, kidsFrom, pEB]
    rw [← this, Nat.add_assoc]

end Go.Proofs.Ytekjfbnggfbfhaa
