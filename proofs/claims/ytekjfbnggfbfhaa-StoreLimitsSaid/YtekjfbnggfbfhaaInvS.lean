/-
  The inverse of a tree, plainly: what inverter.invert computes; facts on it.
-/
import Derived.Test.YtekjfbnggfbfhaaSpec
import Derived.Test.YtekjfbnggfbfhaaOwn
namespace Go.Proofs.Ytekjfbnggfbfhaa
open Go.RowKit

/-- inverter.exchanged. -/
def exch (k : Int) : Int :=
  if k = 40 then 41 else if k = 41 then 40 else if k = 44 then 45 else if k = 45 then 44 else if k = 46 then 47 else if k = 47 then 46
  else if k = 48 then 49 else if k = 49 then 48 else if k = 50 then 51 else if k = 51 then 50 else k
/-- The first and the last of a list change places. -/
def swapEnds (l : List T) : List T := match l with
  | [] => []
  | a :: r => ((a :: r).set 0 ((a :: r).getLast (by simp))).set r.length a
mutual
/-- inverter.invert. -/
def inv (keep : Bool) : T → T
  | .nd k n s ks =>
    if k = 57 then .nd k n s (invs keep true ks).reverse
    else if k = 52 ∨ k = 53 ∨ k = 54 then .nd k n s (swapEnds (invs keep false ks))
    else if k = 50 ∨ k = 51 then .nd (if keep then k else exch k) n s (invs keep false ks)
    else .nd (exch k) n s (invs keep false ks)
def invs (keep all : Bool) : List T → List T
  | [] => []
  | t :: ts => (if all || t.k == 57 then inv keep t else t) :: invs keep all ts
end
def invK (keep all : Bool) (t : T) : T := if all || t.k == 57 then inv keep t else t
theorem invs_map (keep all : Bool) : ∀ ks : List T, invs keep all ks = ks.map (invK keep all)
  | [] => by simp [invs]
  | t :: ts => by simp [invs, invs_map keep all ts, invK]
theorem exch_bd (k : Int) (h : 0 ≤ k ∧ k < 256) : 0 ≤ exch k ∧ exch k < 256 := by unfold exch; repeat' split <;> omega

/-- Of a valid statement the children that are blocks are valid blocks. -/
theorem isE_k (t : T) (h : isE t = true) : t.k ≤ 23 := by
  cases t with
  | nd k n s ks =>
    rw [isE] at h
    simp only [T.k_nd]
    repeat' split at h
    all_goals first | omega | (simp at h)
theorem isP_k (t : T) (h : isP t = true) : t.k ≠ 57 := by
  have : isE t = true := by simp only [isP, Bool.and_eq_true] at h; exact h.2
  have := isE_k t this
  omega
theorem isV_k (t : T) (h : isV t = true) : t.k ≠ 57 := by
  have : isE t = true := by simp only [isV, Bool.and_eq_true] at h; exact h.2
  have := isE_k t this
  omega
theorem isS_kids (k n : Int) (s : ByteArray) (ks : List T) (h : isS (.nd k n s ks) = true) : ∀ t ∈ ks, t.k = 57 → isB t = true := by
  have key : ∀ (p : Nat → T → Bool) (i : Nat), (∀ j t, p j t = true → t.k = 57 → isB t = true) → kidsFrom p i ks = true → ∀ t ∈ ks, t.k = 57 → isB t = true := by
    intro p i hp hk t ht hk57
    obtain ⟨q, hq, rfl⟩ := List.getElem_of_mem ht
    exact hp _ _ ((kidsFrom_iff p i ks).1 hk q hq) hk57
  have kP : ∀ t, isP t = true → t.k = 57 → isB t = true := fun t h1 h2 => absurd h2 (isP_k t h1)
  have kE : ∀ t, isE t = true → t.k = 57 → isB t = true := fun t h1 h2 => by have := isE_k t h1; omega
  have kV : ∀ t, isV t = true → t.k = 57 → isB t = true := fun t h1 h2 => absurd h2 (isV_k t h1)
  have kEB : ∀ d j t, pEB d j t = true → t.k = 57 → isB t = true := by
    intro d j t h1 h2
    unfold pEB at h1
    split at h1
    · exact kE t h1 h2
    · exact h1
  rw [isS] at h
  repeat' split at h
  · simp only [kidsB, Bool.and_eq_true] at h
    exact key _ 0 (fun j t hj => by split at hj; exact kP t hj; exact kE t hj) h.2.2
  · simp only [kidsB, Bool.and_eq_true] at h; exact key _ 0 (fun j t => kP t) h.2.2
  · simp only [kidsB, Bool.and_eq_true] at h; exact key _ 0 (fun j t => kP t) h.2.2
  · simp only [kidsB, Bool.and_eq_true] at h; exact key _ 0 (fun j t => kP t) h.2.2
  · simp only [Bool.and_eq_true] at h; exact key _ 0 (fun j t => kV t) h.2
  · simp only [Bool.and_eq_true] at h; exact key (pEB 0) 0 (kEB 0) (by rw [← isEB_eq]; exact h.2.2)
  · simp only [Bool.and_eq_true] at h; exact key (pEB 4) 0 (kEB 4) (by rw [← isEB_eq]; exact h.2.2)
  · simp only [Bool.and_eq_true] at h; exact key (pEB 7) 0 (kEB 7) (by rw [← isEB_eq]; exact h.2.2)
  · cases h
theorem isB_kids (k n : Int) (s : ByteArray) (ks : List T) (h : isB (.nd k n s ks) = true) : k = 57 ∧ ∀ t ∈ ks, isS t = true := by
  rw [isB] at h
  simp only [Bool.and_eq_true, decide_eq_true_eq] at h
  refine ⟨h.1.1, fun t ht => ?_⟩
  obtain ⟨q, hq, rfl⟩ := List.getElem_of_mem ht
  exact (kidsFrom_iff _ 0 ks).1 (by rw [← isSs_eq]; exact h.2) q hq
theorem isS_not57 (k n : Int) (s : ByteArray) (ks : List T) (h : isS (.nd k n s ks) = true) : k ≠ 57 := by
  rintro rfl
  rw [isS] at h
  simp at h
/-- An If, a From, a Local has a child. -/
theorem isS_len (k n : Int) (s : ByteArray) (ks : List T) (h : isS (.nd k n s ks) = true) (hk : k = 52 ∨ k = 53 ∨ k = 54) : 0 < ks.length := by
  rw [isS] at h
  rcases hk with rfl | rfl | rfl <;> simp at h <;> omega

/-- Valid: a statement or a block. -/
def okT (t : T) : Prop := isS t = true ∨ isB t = true
theorem okT_kid (k n : Int) (s : ByteArray) (ks : List T) (h : okT (.nd k n s ks)) (t : T) (ht : t ∈ ks) (hb : k = 57 ∨ t.k = 57) : okT t := by
  rcases h with h | h
  · rcases hb with hb | hb
    · exact absurd hb (isS_not57 k n s ks h)
    · exact .inr (isS_kids k n s ks h t ht hb)
  · exact .inl ((isB_kids k n s ks h).2 t ht)
theorem okT_len (k n : Int) (s : ByteArray) (ks : List T) (h : okT (.nd k n s ks)) (hk : k = 52 ∨ k = 53 ∨ k = 54) : 0 < ks.length := by
  rcases h with h | h
  · exact isS_len k n s ks h hk
  · have := (isB_kids k n s ks h).1; omega
theorem okT_len2 (k n : Int) (s : ByteArray) (ks : List T) (h : okT (.nd k n s ks)) (hk : k = 52 ∨ k = 53 ∨ k = 54) : 1 < ks.length := by
  rcases h with h | h
  · rw [isS] at h
    rcases hk with rfl | rfl | rfl <;> simp at h <;> omega
  · have := (isB_kids k n s ks h).1; omega
theorem swapEnds_eq (l : List T) (h : 0 < l.length) : swapEnds l = (l.set 0 l[l.length - 1]).set (l.length - 1) l[0] := by
  cases l with
  | nil => simp at h
  | cons a r => simp [swapEnds, List.getLast_eq_getElem]

theorem inv_swap (keep : Bool) (k n : Int) (s : ByteArray) (ks : List T) (k57 : ¬ k = 57) (k52 : k = 52 ∨ k = 53 ∨ k = 54) (h0 : 0 < (ks.map (invK keep (k == 57))).length) (hm : ks.length - 1 < (ks.map (invK keep (k == 57))).length) :
    inv keep (.nd k n s ks) = .nd k n s (((ks.map (invK keep (k == 57))).set 0 (ks.map (invK keep (k == 57)))[ks.length - 1]).set (ks.length - 1) (ks.map (invK keep (k == 57)))[0]) := by
  have e : (k == 57) = false := by simpa using k57
  have e1 : invs keep false ks = ks.map (invK keep (k == 57)) := by rw [invs_map, e]
  rw [inv, if_neg k57, if_pos k52, e1, swapEnds_eq _ h0]
  simp

end Go.Proofs.Ytekjfbnggfbfhaa
