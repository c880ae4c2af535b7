/-
  The plain law of canceling: the inverse of a statement, the simplified form of a block; no program stands here.
-/
import Derived.Test.YtldcjboignbfpaaSimpS
namespace Go.Proofs.Ytldcjboignbfpaa
open Go.RowKit

theorem snocInd {p : List T → Prop} (h0 : p []) (h1 : ∀ l a, p l → p (l ++ [a])) : ∀ l, p l := by
  intro l
  rw [← List.reverse_reverse l]
  induction l.reverse with
  | nil => exact h0
  | cons a r ih => rw [List.reverse_cons]; exact h1 _ _ ih

theorem exch_exch (k : Int) : exch (exch k) = k := by
  unfold exch
  repeat' split
  all_goals first | omega | rfl
theorem isS_exch (k n : Int) (s : ByteArray) (ks : List T) : isS (.nd (exch k) n s ks) = isS (.nd k n s ks) := by
  by_cases h40 : k = 40
  · subst h40; simp [exch, isS]
  by_cases h41 : k = 41
  · subst h41; simp [exch, isS]
  by_cases h44 : k = 44
  · subst h44; simp [exch, isS]
  by_cases h45 : k = 45
  · subst h45; simp [exch, isS]
  by_cases h46 : k = 46
  · subst h46; simp [exch, isS]
  by_cases h47 : k = 47
  · subst h47; simp [exch, isS]
  by_cases h48 : k = 48
  · subst h48; simp [exch, isS]
  by_cases h49 : k = 49
  · subst h49; simp [exch, isS]
  by_cases h50 : k = 50
  · subst h50; simp [exch, isS]
  by_cases h51 : k = 51
  · subst h51; simp [exch, isS]
  have e : exch k = k := by unfold exch; simp [h40, h41, h44, h45, h46, h47, h48, h49, h50, h51]
  rw [e]

/-- The four makes of a valid statement. -/
theorem isS_cases {k n : Int} {s : ByteArray} {ks : List T} (h : isS (.nd k n s ks) = true) :
    ((k ≠ 52 ∧ k ≠ 53 ∧ k ≠ 54 ∧ k ≠ 55 ∧ k ≠ 57) ∧ ∀ t ∈ ks, t.k ≠ 57) ∨
    ((k = 52 ∨ k = 53) ∧ plainB n s = true ∧ ∃ a b c d, ks = [a, b, c, d] ∧ isE a = true ∧ isB b = true ∧ isB c = true ∧ isE d = true) ∨
    (k = 54 ∧ namedB n s = true ∧ ∃ a b c, ks = [a, b, c] ∧ isE a = true ∧ isB b = true ∧ isE c = true) ∨
    (k = 55 ∧ namedB n s = true ∧ ∃ b, ks = [b] ∧ isB b = true) := by
  have key : ∀ (p : Nat → T → Bool), (∀ j t, p j t = true → t.k ≠ 57) → kidsFrom p 0 ks = true → ∀ t ∈ ks, t.k ≠ 57 := by
    intro p hp hk t ht
    obtain ⟨q, hq, rfl⟩ := List.getElem_of_mem ht
    exact hp _ _ ((kidsFrom_iff p 0 ks).1 hk q hq)
  have kE : ∀ t, isE t = true → t.k ≠ 57 := fun t h1 => by have := isE_k t h1; omega
  rw [isS] at h
  repeat' split at h
  · simp only [kidsB, Bool.and_eq_true] at h
    exact .inl ⟨by omega, key _ (fun j t hj => by split at hj; exact isP_k t hj; exact kE t hj) h.2.2⟩
  · simp only [kidsB, Bool.and_eq_true] at h; exact .inl ⟨by omega, key _ (fun j t => isP_k t) h.2.2⟩
  · simp only [kidsB, Bool.and_eq_true] at h; exact .inl ⟨by omega, key _ (fun j t => isP_k t) h.2.2⟩
  · simp only [kidsB, Bool.and_eq_true] at h; exact .inl ⟨by omega, key _ (fun j t => isP_k t) h.2.2⟩
  · simp only [Bool.and_eq_true] at h; exact .inl ⟨by omega, key _ (fun j t => isV_k t) h.2⟩
  · rename_i hk
    simp only [Bool.and_eq_true, decide_eq_true_eq] at h
    obtain ⟨h1, h2, h3⟩ := h
    match ks, h2 with
    | [a, b, c, d], _ =>
      simp only [isEB, Bool.and_eq_true, Bool.and_true] at h3
      simp at h3
      exact .inr (.inl ⟨hk, h1, a, b, c, d, rfl, h3.1, h3.2.1, h3.2.2.1, h3.2.2.2⟩)
  · rename_i hk
    simp only [Bool.and_eq_true, decide_eq_true_eq] at h
    obtain ⟨h1, h2, h3⟩ := h
    match ks, h2 with
    | [a, b, c], _ =>
      simp only [isEB, Bool.and_eq_true, Bool.and_true] at h3
      simp at h3
      exact .inr (.inr (.inl ⟨hk, h1, a, b, c, rfl, h3.1, h3.2.1, h3.2.2⟩))
  · rename_i hk
    simp only [Bool.and_eq_true, decide_eq_true_eq] at h
    obtain ⟨h1, h2, h3⟩ := h
    match ks, h2 with
    | [b], _ =>
      simp only [isEB, Bool.and_eq_true, Bool.and_true] at h3
      simp at h3
      exact .inr (.inr (.inr ⟨hk, h1, b, rfl, h3⟩))
  · cases h
theorem isS_if {k n : Int} {s : ByteArray} {a b c d : T} (hk : k = 52 ∨ k = 53) (hp : plainB n s = true) (ha : isE a = true) (hb : isB b = true) (hc : isB c = true) (hd : isE d = true) : isS (.nd k n s [a, b, c, d]) = true := by
  rcases hk with rfl | rfl <;> simp [isS, isEB, hp, ha, hb, hc, hd]
theorem isS_local {n : Int} {s : ByteArray} {a b c : T} (hp : namedB n s = true) (ha : isE a = true) (hb : isB b = true) (hc : isE c = true) : isS (.nd 54 n s [a, b, c]) = true := by
  simp [isS, isEB, hp, ha, hb, hc]
theorem isS_lstack {n : Int} {s : ByteArray} {b : T} (hp : namedB n s = true) (hb : isB b = true) : isS (.nd 55 n s [b]) = true := by
  simp [isS, isEB, hp, hb]
theorem isB_iff (k n : Int) (s : ByteArray) (ks : List T) : isB (.nd k n s ks) = true ↔ k = 57 ∧ plainB n s = true ∧ ∀ t ∈ ks, isS t = true := by
  rw [isB]
  simp only [Bool.and_eq_true, decide_eq_true_eq, and_assoc]
  refine and_congr Iff.rfl (and_congr Iff.rfl ?_)
  rw [isSs_eq 0, kidsFrom_iff]
  constructor
  · intro h t ht
    obtain ⟨q, hq, rfl⟩ := List.getElem_of_mem ht
    exact h q hq
  · intro h q hq
    exact h _ (List.getElem_mem hq)
theorem isB_k {t : T} (h : isB t = true) : t.k = 57 := by cases t; exact ((isB_iff _ _ _ _).1 h).1
theorem isE_57 {t : T} (h : isE t = true) : (t.k == 57) = false := by have := isE_k t h; simp; omega
theorem invK_E {all : Bool} {t : T} (h : isE t = true) : invK false false t = t := by simp [invK, isE_57 h]
theorem invK_B {t : T} (h : isB t = true) : invK false false t = inv false t := by simp [invK, isB_k h]
theorem map_invK {ks : List T} (h : ∀ t ∈ ks, t.k ≠ 57) : ks.map (invK false false) = ks := by
  conv => rhs; rw [← List.map_id ks]
  refine List.map_congr_left fun t ht => ?_
  have : (t.k == 57) = false := by simpa using h t ht
  simp [invK, this]

theorem inv_simple {k n : Int} {s : ByteArray} {ks : List T} (hk : k ≠ 52 ∧ k ≠ 53 ∧ k ≠ 54 ∧ k ≠ 55 ∧ k ≠ 57) (h : ∀ t ∈ ks, t.k ≠ 57) : inv false (.nd k n s ks) = .nd (exch k) n s ks := by
  rw [inv, if_neg (by omega), if_neg (by omega), invs_map, map_invK h]
  split <;> rfl
theorem inv_if {k n : Int} {s : ByteArray} {a b c d : T} (hk : k = 52 ∨ k = 53) (ha : isE a = true) (hb : isB b = true) (hc : isB c = true) (hd : isE d = true) : inv false (.nd k n s [a, b, c, d]) = .nd k n s [d, inv false b, inv false c, a] := by
  rw [inv, if_neg (by omega), if_pos (by omega), invs_map]
  simp [invK_E (all := false) ha, invK_B hb, invK_B hc, invK_E (all := false) hd, swapEnds]
theorem inv_local {n : Int} {s : ByteArray} {a b c : T} (ha : isE a = true) (hb : isB b = true) (hc : isE c = true) : inv false (.nd 54 n s [a, b, c]) = .nd 54 n s [c, inv false b, a] := by
  rw [inv, if_neg (by omega), if_pos (by omega), invs_map]
  simp [invK_E (all := false) ha, invK_B hb, invK_E (all := false) hc, swapEnds]
theorem inv_lstack {n : Int} {s : ByteArray} {b : T} (hb : isB b = true) : inv false (.nd 55 n s [b]) = .nd 55 n s [inv false b] := by
  rw [inv, if_neg (by omega), if_neg (by omega), if_neg (by omega), invs_map]
  simp [invK_B hb, exch]
theorem inv_block (n : Int) (s : ByteArray) (ks : List T) : inv false (.nd 57 n s ks) = .nd 57 n s (ks.map (inv false)).reverse := by
  rw [inv, if_pos rfl, invs_map]
  congr 2

/-- The inverse of what is valid is valid, and its inverse is what it was. -/
theorem inv_both (t : T) : (isS t = true → isS (inv false t) = true ∧ inv false (inv false t) = t) ∧ (isB t = true → isB (inv false t) = true ∧ inv false (inv false t) = t) := by
  induction t using T.ind with
  | _ k n s ks ih =>
  constructor
  · intro h
    rcases isS_cases h with ⟨hk, hks⟩ | ⟨hk, hp, a, b, c, d, rfl, ha, hb, hc, hd⟩ | ⟨rfl, hp, a, b, c, rfl, ha, hb, hc⟩ | ⟨rfl, hp, b, rfl, hb⟩
    · rw [inv_simple hk hks]
      have hk' : exch k ≠ 52 ∧ exch k ≠ 53 ∧ exch k ≠ 54 ∧ exch k ≠ 55 ∧ exch k ≠ 57 := by
        unfold exch
        repeat' split
        all_goals omega
      rw [inv_simple hk' hks, exch_exch, isS_exch]
      exact ⟨h, rfl⟩
    · obtain ⟨b1, b2⟩ := (ih b (by simp)).2 hb
      obtain ⟨c1, c2⟩ := (ih c (by simp)).2 hc
      rw [inv_if hk ha hb hc hd, inv_if hk hd b1 c1 ha, b2, c2]
      exact ⟨isS_if hk hp hd b1 c1 ha, rfl⟩
    · obtain ⟨b1, b2⟩ := (ih b (by simp)).2 hb
      rw [inv_local ha hb hc, inv_local hc b1 ha, b2]
      exact ⟨isS_local hp hc b1 ha, rfl⟩
    · obtain ⟨b1, b2⟩ := (ih b (by simp)).2 hb
      rw [inv_lstack hb, inv_lstack b1, b2]
      exact ⟨isS_lstack hp b1, rfl⟩
  · intro h
    obtain ⟨rfl, hp, hks⟩ := (isB_iff _ _ _ _).1 h
    rw [inv_block, inv_block]
    refine ⟨(isB_iff _ _ _ _).2 ⟨rfl, hp, fun t ht => ?_⟩, ?_⟩
    · rw [List.mem_reverse, List.mem_map] at ht
      obtain ⟨u, hu, rfl⟩ := ht
      exact ((ih u hu).1 (hks u hu)).1
    · rw [List.map_reverse, List.reverse_reverse, List.map_map]
      congr 1
      conv => rhs; rw [← List.map_id ks]
      exact List.map_congr_left fun u hu => ((ih u hu).1 (hks u hu)).2
theorem isS_inv {t : T} (h : isS t = true) : isS (inv false t) = true := ((inv_both t).1 h).1
theorem inv_inv {t : T} (h : isS t = true) : inv false (inv false t) = t := ((inv_both t).1 h).2
theorem isB_inv {t : T} (h : isB t = true) : isB (inv false t) = true := ((inv_both t).2 h).1
theorem invB_inv {t : T} (h : isB t = true) : inv false (inv false t) = t := ((inv_both t).2 h).2

theorem canc_iff (a b : T) : canc a b = true ↔ isS a = true ∧ isS b = true ∧ a.k ≠ 56 ∧ b = inv false a := by
  unfold canc
  simp only [Bool.and_eq_true, Bool.not_eq_true', beq_eq_false_iff_ne, and_assoc, ← teq_iff]
theorem canc_inv {a b : T} (ha : isS a = true) (hb : isS b = true) : canc (inv false a) (inv false b) = canc b a := by
  rw [Bool.eq_iff_iff, canc_iff, canc_iff]
  constructor
  · rintro ⟨_, _, h3, h4⟩
    rw [inv_inv ha] at h4
    have : inv false a = b := by rw [← h4, inv_inv hb]
    exact ⟨hb, ha, by rw [← this]; exact h3, h4.symm⟩
  · rintro ⟨_, _, h3, h4⟩
    subst h4
    rw [inv_inv hb]
    exact ⟨hb, ha, h3, rfl⟩
theorem canc_self {a : T} (ha : isS a = true) (h : a.k ≠ 56) : canc a (inv false a) = true := (canc_iff _ _).2 ⟨ha, isS_inv ha, h, rfl⟩
theorem canc_twice {a b c : T} (h1 : canc c a = true) (h2 : canc a b = true) : b = c := by
  obtain ⟨hc, _, _, rfl⟩ := (canc_iff _ _).1 h1
  obtain ⟨_, _, _, rfl⟩ := (canc_iff _ _).1 h2
  exact inv_inv hc

/-- No two neighbours cancel. -/
def Red (l : List T) : Prop := ∀ i (h : i + 1 < l.length), canc (l[i]'(by omega)) l[i + 1] = false
theorem Red.nil : Red [] := fun i h => by simp at h
theorem Red.one (t : T) : Red [t] := fun i h => by simp at h
theorem Red.init {l : List T} {t : T} (h : Red (l ++ [t])) : Red l := fun i hi => by
  have := h i (by simp; omega)
  rw [List.getElem_append_left (by omega), List.getElem_append_left hi] at this
  exact this
theorem Red.last {l : List T} {a t : T} (h : Red (l ++ [a] ++ [t])) : canc a t = false := by
  have := h l.length (by simp)
  rw [List.getElem_append_left (by simp), List.getElem_append_right (by simp)] at this
  simpa using this
theorem Red.snoc {l : List T} {a t : T} (h : Red (l ++ [a])) (hc : canc a t = false) : Red (l ++ [a] ++ [t]) := by
  intro i hi
  by_cases e : i = l.length
  · subst e
    rw [List.getElem_append_left (by simp), List.getElem_append_right (by simp)]
    simpa using hc
  · have hi' : i + 1 < (l ++ [a]).length := by simp at hi ⊢; omega
    have := h i hi'
    rw [List.getElem_append_left (Nat.lt_of_succ_lt hi'), List.getElem_append_left hi']
    exact this
theorem Red.step {acc : List T} (t : T) (h : Red acc) : Red (stepC acc t) := by
  rcases List.eq_nil_or_concat acc with rfl | ⟨l, a, rfl⟩
  · exact Red.one t
  · rw [List.concat_eq_append] at *
    cases hc : canc a t
    · rw [stepC_push hc]; exact h.snoc hc
    · rw [stepC_pop hc]; exact h.init
theorem Red.foldl {acc : List T} (l : List T) (h : Red acc) : Red (l.foldl stepC acc) := by
  induction l generalizing acc with
  | nil => exact h
  | cons t l ih => exact ih (h.step t)
theorem Red.foldC (l : List T) : Red (foldC l) := Red.foldl l Red.nil
theorem step_cancel {acc : List T} {a b : T} (h : Red acc) (hc : canc a b = true) : stepC (stepC acc a) b = acc := by
  rcases List.eq_nil_or_concat acc with rfl | ⟨l, c, rfl⟩
  · have := stepC_pop (acc := []) hc
    simpa [stepC_nil] using this
  · rw [List.concat_eq_append] at *
    cases h1 : canc c a
    · rw [stepC_push h1, stepC_pop hc]
    · rw [stepC_pop h1]
      have e := canc_twice h1 hc
      subst e
      rcases List.eq_nil_or_concat l with rfl | ⟨l', d, rfl⟩
      · rfl
      · rw [List.concat_eq_append] at *
        rw [stepC_push h.last]
theorem foldl_foldC {acc : List T} (h : Red acc) (l : List T) : (foldC l).foldl stepC acc = l.foldl stepC acc := by
  induction l using snocInd with
  | h0 => rfl
  | h1 l a ih =>
    rw [foldC_snoc, List.foldl_append, List.foldl_cons, List.foldl_nil, ← ih]
    generalize hf : foldC l = f
    rcases List.eq_nil_or_concat f with rfl | ⟨m, b, rfl⟩
    · rfl
    · rw [List.concat_eq_append]
      cases hc : canc b a
      · rw [stepC_push hc, List.foldl_append (l := m ++ [b])]; rfl
      · rw [stepC_pop hc, List.foldl_append]
        exact (step_cancel (Red.foldl m h) hc).symm
theorem foldC_red {l : List T} (h : Red l) : foldC l = l := by
  induction l using snocInd with
  | h0 => rfl
  | h1 l a ih =>
    rw [foldC_snoc, ih h.init]
    rcases List.eq_nil_or_concat l with rfl | ⟨m, b, rfl⟩
    · rfl
    · rw [List.concat_eq_append] at *
      rw [stepC_push h.last]
theorem foldC_append (l m : List T) : foldC (l ++ m) = m.foldl stepC (foldC l) := by simp [foldC, List.foldl_append]

theorem foldC_mem {l : List T} : ∀ t ∈ foldC l, t ∈ l := by
  induction l using snocInd with
  | h0 => intro t ht; exact ht
  | h1 l a ih =>
    intro t ht
    rw [foldC_snoc] at ht
    unfold stepC at ht
    split at ht
    · split at ht
      · exact List.mem_append_left _ (ih t (List.dropLast_subset _ ht))
      · rcases List.mem_append.1 ht with ht | ht
        · exact List.mem_append_left _ (ih t ht)
        · exact List.mem_append_right _ ht
    · exact List.mem_append_right _ ht

theorem Red.rev {l : List T} (hs : ∀ t ∈ l, isS t = true) (h : Red l) : Red (l.map (inv false)).reverse := by
  intro i hi
  have hl : i + 1 < l.length := by simpa using hi
  rw [List.getElem_reverse, List.getElem_reverse]
  simp only [List.getElem_map, List.length_map]
  rw [canc_inv (hs _ (List.getElem_mem _)) (hs _ (List.getElem_mem _))]
  have := h (l.length - 1 - (i + 1)) (by omega)
  have e : l.length - 1 - (i + 1) + 1 = l.length - 1 - i := by omega
  simp only [e] at this
  exact this

/-- The simplified form of the inverse list is the inverse of the simplified form. -/
theorem foldC_rev (l : List T) (hs : ∀ t ∈ l, isS t = true) : foldC (l.map (inv false)).reverse = ((foldC l).map (inv false)).reverse := by
  induction l using snocInd with
  | h0 => rfl
  | h1 l a ih =>
    have ha := hs a (by simp)
    have hl : ∀ t ∈ l, isS t = true := fun t ht => hs t (by simp [ht])
    have hr : ∀ t ∈ foldC l, isS t = true := fun t ht => hl t (foldC_mem t ht)
    have ih' := ih hl
    have e1 : ((l ++ [a]).map (inv false)).reverse = inv false a :: (l.map (inv false)).reverse := by simp
    rw [e1]
    have e2 : foldC (inv false a :: (l.map (inv false)).reverse) = ((l.map (inv false)).reverse).foldl stepC [inv false a] := rfl
    rw [e2, ← foldl_foldC (Red.one _), ih', foldC_snoc]
    have hrd := Red.foldC l
    generalize foldC l = r at *
    rcases List.eq_nil_or_concat r with rfl | ⟨m, b, rfl⟩
    · rfl
    · rw [List.concat_eq_append] at *
      have hb := hr b (by simp)
      have hm : ∀ t ∈ m, isS t = true := fun t ht => hr t (by simp [ht])
      cases hc : canc b a
      · rw [stepC_push hc]
        have hrev := Red.rev (l := m ++ [b] ++ [a]) (fun t ht => by
          rcases List.mem_append.1 ht with ht | ht
          · exact hr t ht
          · rw [List.mem_singleton.1 ht]; exact ha) (hrd.snoc hc)
        have e3 : ((m ++ [b] ++ [a]).map (inv false)).reverse = inv false a :: ((m ++ [b]).map (inv false)).reverse := by simp
        rw [e3] at hrev ⊢
        exact foldC_red hrev
      · rw [stepC_pop hc]
        have e4 : ((m ++ [b]).map (inv false)).reverse = inv false b :: (m.map (inv false)).reverse := by simp
        rw [e4, List.foldl_cons]
        have e5 : stepC [inv false a] (inv false b) = [] := by
          have : canc (inv false a) (inv false b) = true := by rw [canc_inv ha hb]; exact hc
          exact stepC_pop (acc := []) this
        rw [e5]
        exact foldC_red (Red.rev hm hrd.init)

/-- A list and its inverse: nothing is left. -/
theorem foldC_empties (l : List T) (hs : ∀ t ∈ l, isS t = true ∧ t.k ≠ 56) : foldC (l ++ (l.map (inv false)).reverse) = [] := by
  induction l using snocInd with
  | h0 => rfl
  | h1 l a ih =>
    have ha := hs a (by simp)
    have e1 : (l ++ [a]) ++ ((l ++ [a]).map (inv false)).reverse = (l ++ [a]) ++ ([inv false a] ++ (l.map (inv false)).reverse) := by simp
    rw [e1, foldC_append, List.foldl_append, foldC_snoc]
    simp only [List.foldl_cons, List.foldl_nil]
    rw [step_cancel (Red.foldC l) (canc_self ha.1 ha.2), ← foldC_append]
    exact ih fun t ht => hs t (by simp [ht])
/-- A pair that cancels may be inserted anywhere. -/
theorem foldC_inserts (l m : List T) {a b : T} (hc : canc a b = true) : foldC (l ++ [a, b] ++ m) = foldC (l ++ m) := by
  rw [foldC_append, foldC_append l m, foldC_append]
  simp only [List.foldl_cons, List.foldl_nil]
  rw [step_cancel (Red.foldC l) hc]

theorem stm_k (t : T) : (stm t).k = t.k := by cases t; rw [stm]; rfl
theorem skF_E {t : T} (h : isE t = true) : skF t = t := by simp [skF, isE_57 h]
theorem skF_B {t : T} (h : isB t = true) : skF t = simp t := by simp [skF, isB_k h]
theorem map_skF {ks : List T} (h : ∀ t ∈ ks, t.k ≠ 57) : ks.map skF = ks := by
  conv => rhs; rw [← List.map_id ks]
  refine List.map_congr_left fun t ht => ?_
  have : (t.k == 57) = false := by simpa using h t ht
  simp [skF, this]
theorem plainB_0 : plainB 0 ⟨#[]⟩ = true := by simp [plainB, Go.ByteArray.toList_eq]
theorem stm_nd (k n : Int) (s : ByteArray) (ks : List T) : stm (.nd k n s ks) = .nd k n s (ks.map skF) := by rw [stm, sks_map]
theorem simp_nd (k n : Int) (s : ByteArray) (ks : List T) : simp (.nd k n s ks) = .nd 57 0 ⟨#[]⟩ (foldC (ks.map stm)) := by rw [simp, stms_map]
theorem plainB_eq {n : Int} {s : ByteArray} (h : plainB n s = true) : n = 0 ∧ s = ⟨#[]⟩ := by
  simp only [plainB, Bool.and_eq_true, beq_iff_eq, List.isEmpty_iff] at h
  refine ⟨h.1, ba_inj ?_⟩
  rw [h.2]; simp [Go.ByteArray.toList_eq]

/-- Simplifying keeps what is valid valid, and commutes with the inverse. -/
theorem simp_both (t : T) : (isS t = true → isS (stm t) = true ∧ stm (inv false t) = inv false (stm t)) ∧ (isB t = true → isB (simp t) = true ∧ simp (inv false t) = inv false (simp t)) := by
  induction t using T.ind with
  | _ k n s ks ih =>
  constructor
  · intro h
    rcases isS_cases h with ⟨hk, hks⟩ | ⟨hk, hp, a, b, c, d, rfl, ha, hb, hc, hd⟩ | ⟨rfl, hp, a, b, c, rfl, ha, hb, hc⟩ | ⟨rfl, hp, b, rfl, hb⟩
    · rw [inv_simple hk hks, stm_nd, stm_nd, map_skF hks, inv_simple hk hks]
      exact ⟨h, rfl⟩
    · obtain ⟨b1, b2⟩ := (ih b (by simp)).2 hb
      obtain ⟨c1, c2⟩ := (ih c (by simp)).2 hc
      rw [inv_if hk ha hb hc hd, stm_nd, stm_nd]
      simp only [List.map_cons, List.map_nil, skF_E ha, skF_B hb, skF_B hc, skF_E hd, skF_B (isB_inv hb), skF_B (isB_inv hc)]
      rw [inv_if hk ha b1 c1 hd, b2, c2]
      exact ⟨isS_if hk hp ha b1 c1 hd, rfl⟩
    · obtain ⟨b1, b2⟩ := (ih b (by simp)).2 hb
      rw [inv_local ha hb hc, stm_nd, stm_nd]
      simp only [List.map_cons, List.map_nil, skF_E ha, skF_B hb, skF_E hc, skF_B (isB_inv hb)]
      rw [inv_local ha b1 hc, b2]
      exact ⟨isS_local hp ha b1 hc, rfl⟩
    · obtain ⟨b1, b2⟩ := (ih b (by simp)).2 hb
      rw [inv_lstack hb, stm_nd, stm_nd]
      simp only [List.map_cons, List.map_nil, skF_B hb, skF_B (isB_inv hb)]
      rw [inv_lstack b1, b2]
      exact ⟨isS_lstack hp b1, rfl⟩
  · intro h
    obtain ⟨rfl, hp, hks⟩ := (isB_iff _ _ _ _).1 h
    have hst : ∀ t ∈ ks.map stm, isS t = true := fun t ht => by
      obtain ⟨u, hu, rfl⟩ := List.mem_map.1 ht
      exact ((ih u hu).1 (hks u hu)).1
    rw [inv_block, simp_nd, simp_nd, inv_block]
    refine ⟨(isB_iff _ _ _ _).2 ⟨rfl, plainB_0, fun t ht => hst t (foldC_mem t ht)⟩, ?_⟩
    congr 1
    rw [← foldC_rev _ hst]
    congr 1
    rw [List.map_reverse, List.map_map, List.map_map]
    congr 1
    exact List.map_congr_left fun u hu => ((ih u hu).1 (hks u hu)).2
theorem isS_stm {t : T} (h : isS t = true) : isS (stm t) = true := ((simp_both t).1 h).1
theorem stm_inv {t : T} (h : isS t = true) : stm (inv false t) = inv false (stm t) := ((simp_both t).1 h).2
theorem isB_simp {t : T} (h : isB t = true) : isB (simp t) = true := ((simp_both t).2 h).1
theorem simp_inv {t : T} (h : isB t = true) : simp (inv false t) = inv false (simp t) := ((simp_both t).2 h).2

end Go.Proofs.Ytldcjboignbfpaa
