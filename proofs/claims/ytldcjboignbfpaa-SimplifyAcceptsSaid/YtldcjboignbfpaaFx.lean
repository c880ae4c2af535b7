/-
  Plain facts on the simplified form: it is valid, no greater, not simplified any further, and none of its blocks holds two adjacent statements that cancel.
-/
import Derived.Test.YtldcjboignbfpaaPure
import Derived.Test.YtldcjboignbfpaaPrg
import Derived.Test.YtldcjboignbfpaaSml
import Derived.Test.YtldcjboignbfpaaWk
namespace Go.Proofs.Ytldcjboignbfpaa
open Go.RowKit

theorem mem_pos {x : T} : ∀ {l : List T}, x ∈ pos l ↔ ∃ t ∈ l, x ∈ po t
  | [] => by simp [pos]
  | t :: ts => by simp [pos, mem_pos (l := ts)]

/-! ### Limits -/
theorem lims_eq : ∀ (ks : List T), (∀ t ∈ ks, ∀ d l, lim t d l = if dep t ≤ d ∧ size t ≤ l then some (l - size t) else none) → ∀ d l, lims ks d l = if deps ks ≤ d ∧ sizes ks ≤ l then some (l - sizes ks) else none
  | [], _, d, l => by simp [lims, deps, sizes]
  | t :: ts, h, d, l => by
    have e1 : deps (t :: ts) = max (dep t) (deps ts) := by rw [deps]
    have e2 : sizes (t :: ts) = size t + sizes ts := by rw [sizes]
    rw [lims, h t (by simp) d l]
    by_cases h1 : dep t ≤ d ∧ size t ≤ l
    · rw [if_pos h1]
      simp only
      rw [lims_eq ts (fun u hu => h u (by simp [hu])) d (l - size t)]
      by_cases h2 : deps ts ≤ d ∧ sizes ts ≤ l - size t
      · rw [if_pos h2, if_pos ⟨by omega, by omega⟩]; congr 1; omega
      · rw [if_neg h2, if_neg (by omega)]
    · rw [if_neg h1]; simp only; rw [if_neg (by omega)]
theorem lim_eq (t : T) : ∀ d l, lim t d l = if dep t ≤ d ∧ size t ≤ l then some (l - size t) else none := by
  induction t using T.ind with
  | _ k n s ks ih =>
  intro d l
  have e1 : dep (.nd k n s ks) = 1 + deps ks := by rw [dep]
  have e2 : size (.nd k n s ks) = 1 + sizes ks := by rw [size]
  rw [lim]
  by_cases h : d = 0 ∨ l = 0
  · rw [if_pos h, if_neg (by omega)]
  · rw [if_neg h, lims_eq ks ih]
    by_cases h2 : deps ks ≤ d - 1 ∧ sizes ks ≤ l - 1
    · rw [if_pos h2, if_pos ⟨by omega, by omega⟩]; congr 1; omega
    · rw [if_neg h2, if_neg (by omega)]
theorem isBodyB_iff (t : T) : isBodyB t = true ↔ (dep t ≤ 80 ∧ size t ≤ 2000) ∧ isB t = true := by
  unfold isBodyB
  rw [lim_eq, Bool.and_eq_true]
  by_cases h : dep t ≤ 80 ∧ size t ≤ 2000
  · rw [if_pos h]; simp [h]
  · rw [if_neg h]; simp [h]

/-! ### Sizes -/
theorem sizes_append : ∀ a b : List T, sizes (a ++ b) = sizes a + sizes b
  | [], b => by simp [sizes]
  | t :: ts, b => by simp [sizes, sizes_append ts b]; omega
theorem deps_le {ks : List T} {d : Nat} (h : ∀ t ∈ ks, dep t ≤ d) : deps ks ≤ d := by
  induction ks with
  | nil => simp [deps]
  | cons t ts ih =>
    simp only [deps]
    have h1 := h t (by simp)
    have h2 := ih fun u hu => h u (by simp [hu])
    omega
theorem stepC_sizes (acc : List T) (t : T) : sizes (stepC acc t) ≤ sizes acc + size t := by
  rcases List.eq_nil_or_concat acc with rfl | ⟨m, b, rfl⟩
  · simp [stepC_nil, sizes]
  · rw [List.concat_eq_append]
    cases hc : canc b t
    · rw [stepC_push hc]; simp [sizes_append, sizes]; omega
    · rw [stepC_pop hc]; simp [sizes_append, sizes]; omega
theorem foldC_sizes (l : List T) : sizes (foldC l) ≤ sizes l := by
  induction l using snocInd with
  | h0 => simp [foldC, sizes]
  | h1 l a ih =>
    rw [foldC_snoc, sizes_append]
    have := stepC_sizes (foldC l) a
    simp only [sizes] at *
    omega
theorem sizes_map {f : T → T} : ∀ {ks : List T}, (∀ t ∈ ks, size (f t) ≤ size t) → sizes (ks.map f) ≤ sizes ks
  | [], _ => by simp [sizes]
  | t :: ts, h => by
    have h1 := h t (by simp)
    have h2 := sizes_map (ks := ts) fun u hu => h u (by simp [hu])
    simp only [List.map_cons, sizes]
    omega
theorem simp_less (t : T) : (size (stm t) ≤ size t ∧ dep (stm t) ≤ dep t) ∧ (size (simp t) ≤ size t ∧ dep (simp t) ≤ dep t) := by
  induction t using T.ind with
  | _ k n s ks ih =>
  constructor
  · rw [stm_nd]
    have h1 : sizes (ks.map skF) ≤ sizes ks := sizes_map fun t ht => by
      unfold skF; split
      · exact (ih t ht).2.1
      · exact Nat.le_refl _
    have h2 : deps (ks.map skF) ≤ deps ks := deps_le fun u hu => by
      obtain ⟨t, ht, rfl⟩ := List.mem_map.1 hu
      refine Nat.le_trans ?_ (dep_le ht)
      unfold skF; split
      · exact (ih t ht).2.2
      · exact Nat.le_refl _
    simp only [size, dep]
    omega
  · rw [simp_nd]
    have h1 : sizes (ks.map stm) ≤ sizes ks := sizes_map fun t ht => (ih t ht).1.1
    have h3 := foldC_sizes (ks.map stm)
    have h2 : deps (foldC (ks.map stm)) ≤ deps ks := deps_le fun u hu => by
      obtain ⟨t, ht, rfl⟩ := List.mem_map.1 (foldC_mem u hu)
      exact Nat.le_trans (ih t ht).1.2 (dep_le ht)
    simp only [size, dep]
    omega

/-! ### Once is enough -/
theorem simp_k (t : T) : (simp t).k = 57 := by cases t; rw [simp_nd]; rfl
theorem simp_twice (t : T) : stm (stm t) = stm t ∧ simp (simp t) = simp t := by
  induction t using T.ind with
  | _ k n s ks ih =>
  constructor
  · rw [stm_nd, stm_nd, List.map_map]
    congr 1
    refine List.map_congr_left fun t ht => ?_
    simp only [Function.comp]
    by_cases h : t.k = 57
    · have e : skF t = simp t := by simp [skF, h]
      rw [e]
      have : skF (simp t) = simp (simp t) := by simp [skF, simp_k]
      rw [this, (ih t ht).2]
    · have e : skF t = t := by simp [skF, h]
      rw [e, e]
  · rw [simp_nd, simp_nd]
    have e : (foldC (ks.map stm)).map stm = foldC (ks.map stm) := by
      conv => rhs; rw [← List.map_id (foldC (ks.map stm))]
      refine List.map_congr_left fun u hu => ?_
      obtain ⟨t, ht, rfl⟩ := List.mem_map.1 (foldC_mem u hu)
      exact (ih t ht).1
    rw [e, foldC_red (Red.foldC _)]

/-! ### The blocks of the simplified form -/
theorem isE_kids {k n : Int} {s : ByteArray} {ks : List T} (h : isE (.nd k n s ks) = true) : ∀ t ∈ ks, isE t = true := by
  have key : isEs ks = true → ∀ t ∈ ks, isE t = true := by
    intro h t ht
    rw [isEs_eq 0, kidsFrom_iff] at h
    obtain ⟨i, hi, rfl⟩ := List.getElem_of_mem ht
    exact h i hi
  have nil : decide (ks.length = 0) = true → ∀ t ∈ ks, isE t = true := by
    intro h t ht
    have : ks = [] := by simpa using h
    rw [this] at ht; cases ht
  rw [isE] at h
  split at h
  · simp only [Bool.and_eq_true] at h; exact nil h.2
  split at h
  · simp only [Bool.and_eq_true] at h; exact nil h.2
  split at h
  · simp only [Bool.and_eq_true] at h; exact key h.2.2
  split at h
  · simp only [Bool.and_eq_true] at h; exact key h.2.2
  split at h
  · simp only [Bool.and_eq_true] at h; exact key h.2.2
  · cases h
theorem isE_po (t : T) (h : isE t = true) : ∀ x ∈ po t, x.k ≠ 57 := by
  induction t using T.ind with
  | _ k n s ks ih =>
  intro x hx
  simp only [po, List.mem_cons] at hx
  rcases hx with rfl | hx
  · have := isE_57 h; simpa using this
  · obtain ⟨t, ht, hx⟩ := mem_pos.1 hx
    exact ih t ht (isE_kids h t ht) x hx
theorem isP_E {t : T} (h : isP t = true) : isE t = true := by unfold isP at h; simp only [Bool.and_eq_true] at h; exact h.2
theorem isV_E {t : T} (h : isV t = true) : isE t = true := by unfold isV at h; simp only [Bool.and_eq_true] at h; exact h.2
theorem kidsB_mem {m : Nat} {p : Nat → T → Bool} {ks : List T} (h : kidsB m p ks = true) {t : T} (ht : t ∈ ks) : ∃ i, p i t = true := by
  unfold kidsB at h
  simp only [Bool.and_eq_true] at h
  have := (kidsFrom_iff p 0 ks).1 h.2
  obtain ⟨i, hi, rfl⟩ := List.getElem_of_mem ht
  exact ⟨0 + i, this i hi⟩
theorem isEB_mem {d : Nat} {ks : List T} (h : isEB d ks = true) {t : T} (ht : t ∈ ks) : isE t = true ∨ isB t = true := by
  have h' : isEB (d + 0) ks = true := h
  rw [isEB_eq d 0] at h'
  have := (kidsFrom_iff _ 0 ks).1 h'
  obtain ⟨i, hi, rfl⟩ := List.getElem_of_mem ht
  have h2 := this i hi
  unfold pEB at h2
  split at h2
  · exact .inl h2
  · exact .inr h2
theorem isS_EB {k n : Int} {s : ByteArray} {ks : List T} (h : isS (.nd k n s ks) = true) : k ≠ 57 ∧ ∀ t ∈ ks, isE t = true ∨ isB t = true := by
  rw [isS] at h
  split at h
  · rename_i hk
    simp only [Bool.and_eq_true] at h
    refine ⟨by omega, fun t ht => ?_⟩
    obtain ⟨i, hi⟩ := kidsB_mem h.2 ht
    split at hi
    · exact .inl (isP_E hi)
    · exact .inl hi
  split at h
  · rename_i hk
    simp only [Bool.and_eq_true] at h
    refine ⟨by omega, fun t ht => ?_⟩
    obtain ⟨i, hi⟩ := kidsB_mem h.2 ht
    exact .inl (isP_E hi)
  split at h
  · rename_i hk
    simp only [Bool.and_eq_true] at h
    refine ⟨by omega, fun t ht => ?_⟩
    obtain ⟨i, hi⟩ := kidsB_mem h.2 ht
    exact .inl (isP_E hi)
  split at h
  · rename_i hk
    simp only [Bool.and_eq_true] at h
    refine ⟨by omega, fun t ht => ?_⟩
    obtain ⟨i, hi⟩ := kidsB_mem h.2 ht
    exact .inl (isP_E hi)
  split at h
  · rename_i hk
    simp only [Bool.and_eq_true] at h
    refine ⟨by omega, fun t ht => ?_⟩
    have := (kidsFrom_iff _ 0 ks).1 h.2
    obtain ⟨i, hi, rfl⟩ := List.getElem_of_mem ht
    exact .inl (isV_E (this i hi))
  split at h
  · rename_i hk
    simp only [Bool.and_eq_true] at h
    exact ⟨by omega, fun t ht => isEB_mem h.2.2 ht⟩
  split at h
  · rename_i hk
    simp only [Bool.and_eq_true] at h
    exact ⟨by omega, fun t ht => isEB_mem h.2.2 ht⟩
  split at h
  · rename_i hk
    simp only [Bool.and_eq_true] at h
    exact ⟨by omega, fun t ht => isEB_mem h.2.2 ht⟩
  · cases h

/-- No block in t holds two adjacent statements that cancel. -/
def NC (t : T) : Prop := ∀ x ∈ po t, x.k = 57 → Red x.ks
theorem simp_NC (t : T) : (isS t = true → NC (stm t)) ∧ (isB t = true → NC (simp t)) := by
  induction t using T.ind with
  | _ k n s ks ih =>
  constructor
  · intro h x hx hk
    obtain ⟨hk57, hkids⟩ := isS_EB h
    rw [stm_nd] at hx
    simp only [po, List.mem_cons] at hx
    rcases hx with rfl | hx
    · exact absurd hk hk57
    · obtain ⟨u, hu, hx⟩ := mem_pos.1 hx
      obtain ⟨t, ht, rfl⟩ := List.mem_map.1 hu
      rcases hkids t ht with h | h
      · rw [skF_E h] at hx
        exact absurd hk (isE_po t h x hx)
      · rw [skF_B h] at hx
        exact (ih t ht).2 h x hx hk
  · intro h x hx hk
    obtain ⟨_, _, hks⟩ := (isB_iff _ _ _ _).1 h
    rw [simp_nd] at hx
    simp only [po, List.mem_cons] at hx
    rcases hx with rfl | hx
    · exact Red.foldC _
    · obtain ⟨u, hu, hx⟩ := mem_pos.1 hx
      obtain ⟨t, ht, rfl⟩ := List.mem_map.1 (foldC_mem u hu)
      exact (ih t ht).1 (hks t ht) x hx hk

/-! ### Programs -/
theorem body_simp {t : T} (h : isBodyB t = true) : isBodyB (simp t) = true := by
  rw [isBodyB_iff] at h ⊢
  have := (simp_less t).2
  exact ⟨⟨by omega, by omega⟩, isB_simp h.2⟩
theorem valid_simp {p : PG} (h : validB p = true) : validB (progF p) = true := by
  rw [progF_yes h]
  unfold validB at h ⊢
  simp only [Bool.and_eq_true, List.length_map, List.all_map] at h ⊢
  refine ⟨⟨h.1.1, ?_⟩, body_simp h.2⟩
  rw [List.all_eq_true]
  intro r hr
  have := (List.all_eq_true.1 h.1.2) r hr
  simp only [Function.comp, mapR]
  unfold procB at this ⊢
  simp only [Bool.and_eq_true] at this ⊢
  exact ⟨this.1, body_simp this.2⟩
theorem progF_twice {p : PG} (h : validB p = true) : progF (progF p) = progF p := by
  rw [progF_yes (valid_simp h), progF_yes h]
  simp only [List.map_map]
  congr 1
  · refine List.map_congr_left fun r _ => ?_
    simp only [Function.comp, mapR, (simp_twice r.b).2]
  · exact (simp_twice p.m).2

end Go.Proofs.Ytldcjboignbfpaa
