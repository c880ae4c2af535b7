/-
  The store in memory: the current frame is put anew. No program stands here but the types' numbers.
-/
import Derived.Test.YtekjfbnggfbfhaaSy
namespace Go.Proofs.Ytekjfbnggfbfhaa
open Go Go.RowKit

/-- The store with another current frame. -/
def ST.setCur (S : ST) (f : FR) : ST := if S.calls.length = 0 then { S with base := f } else { S with calls := S.calls.set (S.calls.length - 1) f }
/-- The rows of the current frame: who holds it, at which offset, its variables, its cells. -/
def hI (S : ST) : Res := if S.calls.length = 0 then .sb else .calls
def oI (S : ST) : Nat := if S.calls.length = 0 then 0 else (S.calls.length - 1) * 3
def vI (S : ST) : Res := if S.calls.length = 0 then .bv else .fv (S.calls.length - 1)
def cI (S : ST) : Res := if S.calls.length = 0 then .bc else .fc (S.calls.length - 1)
def Ph.setCur (P : Ph) (S : ST) (vv vc : Value) : Ph := if S.calls.length = 0 then { P with vV := vv, vC := vc } else { P with fV := fun i => if i = S.calls.length - 1 then vv else P.fV i, fC := fun i => if i = S.calls.length - 1 then vc else P.fC i }

theorem flatF_set {P P' : Ph} {vv vc : Value} {f : FR} : ∀ (fs : List FR) (i j : Nat), j < fs.length → (∀ q, q ≠ i + j → P'.fV q = P.fV q ∧ P'.fC q = P.fC q) → P'.fV (i + j) = vv → P'.fC (i + j) = vc →
    flatF P' i (fs.set j f) = (((flatF P i fs).set (j * 3) vv).set (j * 3 + 1) vc).set (j * 3 + 2) (.int .i64 f.loc)
  | g :: fs, i, 0, _, h, h1, h2 => by
    have hr : flatF P' (i + 1) fs = flatF P (i + 1) fs := by
      have key : ∀ (l : List FR) (q : Nat), i < q → flatF P' q l = flatF P q l := by
        intro l
        induction l with
        | nil => intro q _; rfl
        | cons a l ih => intro q hq; simp [flatF, (h q (by omega)).1, (h q (by omega)).2, ih (q + 1) (by omega)]
      exact key fs (i + 1) (by omega)
    simp only [Nat.add_zero] at h1 h2
    simp [flatF, h1, h2, hr]
  | g :: fs, i, j + 1, hj, h, h1, h2 => by
    have ih := flatF_set (P := P) (P' := P') (vv := vv) (vc := vc) (f := f) fs (i + 1) j (by simpa using hj) (fun q hq => h q (by omega)) (by rw [show i + 1 + j = i + (j + 1) by omega]; exact h1) (by rw [show i + 1 + j = i + (j + 1) by omega]; exact h2)
    rw [show (j + 1) * 3 = j * 3 + 1 + 1 + 1 by omega]
    simp only [List.set_cons_succ, flatF, (h i (by omega)).1, (h i (by omega)).2, ih]

theorem rows_setCur (P : Ph) (S : ST) (f : FR) (vv vc : Value) : rows (P.setCur S vv vc) (S.setCur f) =
    updR (updR (updR (rows P S) (vI S) ⟨vv, 24, 3, f.vs.length, flatV f.vs⟩) (cI S) ⟨vc, 79, 1, f.cs.length, ptrs P.cb f.cs⟩) (hI S)
      { rows P S (hI S) with xs := (((rows P S (hI S)).xs.set (oI S) vv).set (oI S + 1) vc).set (oI S + 2) (.int .i64 f.loc) } := by
  by_cases h0 : S.calls.length = 0
  · simp only [Ph.setCur, ST.setCur, hI, vI, cI, oI, h0, if_true]
    have hc : S.calls = [] := List.length_eq_zero_iff.1 h0
    funext r
    cases r <;> simp [updR, rows, hc, flatF]
  · obtain ⟨m, hm⟩ : ∃ m, S.calls.length = m + 1 := ⟨S.calls.length - 1, by omega⟩
    have hm1 : S.calls.length - 1 = m := by omega
    simp only [Ph.setCur, ST.setCur, hI, vI, cI, oI, h0, if_false, hm1]
    funext r
    cases r with
    | calls =>
      have hq : ∀ q, q ≠ 0 + m → ({ P with fV := fun i => if i = m then vv else P.fV i, fC := fun i => if i = m then vc else P.fC i } : Ph).fV q = P.fV q ∧ ({ P with fV := fun i => if i = m then vv else P.fV i, fC := fun i => if i = m then vc else P.fC i } : Ph).fC q = P.fC q := fun q h => by
        have h' : q ≠ m := by omega
        simp [h']
      have := flatF_set (P := P) (P' := { P with fV := fun i => if i = m then vv else P.fV i, fC := fun i => if i = m then vc else P.fC i }) (vv := vv) (vc := vc) (f := f) S.calls 0 m (by omega) hq (by simp) (by simp)
      simp only [updR, if_true, rows, List.length_set, this]
    | fv i =>
      by_cases e : i = m
      · subst e
        simp [updR, rows, hm]
      · have e' : m ≠ i := Ne.symm e
        simp [updR, rows, e, e']
    | fc i =>
      by_cases e : i = m
      · subst e
        simp [updR, rows, hm]
      · have e' : m ≠ i := Ne.symm e
        simp [updR, rows, e, e']
    | sb => simp [updR, rows]
    | tb => simp [updR, rows]
    | tin => simp [updR, rows]
    | tout => simp [updR, rows]
    | bv => simp [updR, rows]
    | bc => simp [updR, rows]
    | cb i => simp [updR, rows]
    | ci i => simp [updR, rows]
    | x i => simp [updR, rows]

end Go.Proofs.Ytekjfbnggfbfhaa
