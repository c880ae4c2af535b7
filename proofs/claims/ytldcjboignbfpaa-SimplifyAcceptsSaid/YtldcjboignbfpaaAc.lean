/-
  Simplification keeps an accepted program accepted: the plain law. No program stands here.
-/
import Derived.Test.YtldcjboignbfpaaCq
import Derived.Test.YtldcjboignbfpaaFx
import Derived.Test.YtldcjboignbfpaaPrg
namespace Go.Proofs.Ytldcjboignbfpaa
open Go

theorem idxP_map (f : T → T) (ps : List PR) (s : ByteArray) : idxP (ps.map (mapR f)) s = idxP ps s := by
  unfold idxP
  rw [List.findIdx?_map]
  rfl
theorem procE_map (f : T → T) (ps : List PR) (s : ByteArray) : procE (ps.map (mapR f)) s = procE ps s := by
  unfold procE
  rw [idxP_map]
theorem faultE_map (f : T → T) (ps : List PR) (k : Int) (s : ByteArray) (l : Nat) (vs : List VD) : faultE (ps.map (mapR f)) k s l vs = faultE ps k s l vs := by
  unfold faultE
  rw [idxP_map]
  cases idxP ps s with
  | none => rfl
  | some i =>
    simp only [List.getElem?_map]
    cases ps[i]? with
    | none => rfl
    | some r => rfl
theorem argE_map (f : T → T) (ps : List PR) (s : ByteArray) (l i : Nat) (m : ByteArray) (vs : List VD) : argE (ps.map (mapR f)) s l i m vs = argE ps s l i m vs := by
  unfold argE
  rw [idxP_map]
  cases idxP ps s with
  | none => rfl
  | some j =>
    simp only [List.getElem?_map]
    cases ps[j]? with
    | none => rfl
    | some r => rfl
theorem cntA_map (f : T → T) (ps : List PR) (s : ByteArray) (l : Nat) (vs : List VD) : ∀ (ks : List T) (i : Nat), cntA (ps.map (mapR f)) s l i ks vs = cntA ps s l i ks vs
  | [], _ => by simp [cntA]
  | t :: ts, i => by rw [cntA, cntA, argE_map, cntA_map f ps s l vs ts]
theorem cntK_map (f : T → T) (ps : List PR) (k : Int) (s : ByteArray) : ∀ (ks : List T), (∀ t ∈ ks, ∀ vs, cntV (ps.map (mapR f)) t vs = cntV ps t vs) → ∀ (i : Nat) (vs : List VD), cntK (ps.map (mapR f)) k s i ks vs = cntK ps k s i ks vs
  | [], _, _, _ => by simp [cntK]
  | t :: ts, h, i, vs => by rw [cntK, cntK, h t List.mem_cons_self, cntK_map f ps k s ts (fun t ht => h t (List.mem_cons_of_mem _ ht))]
theorem cntV_map (f : T → T) (ps : List PR) (t : T) : ∀ vs, cntV (ps.map (mapR f)) t vs = cntV ps t vs := by
  induction t using T.ind with
  | _ k n s ks ih =>
    intro vs
    rw [cntV, cntV, faultE_map, cntA_map, cntK_map f ps k s ks ih]

theorem cntK_zero (ps : List PR) (k : Int) (s : ByteArray) (vs : List VD) : ∀ (ks : List T) (i : Nat), cntK ps k s i ks vs = 0 ↔ ∀ j (h : j < ks.length), cntV ps ks[j] (innerV k s (i + j) vs) = 0
  | [], i => by simp [cntK]
  | t :: ts, i => by
    rw [cntK, Nat.add_eq_zero_iff, cntK_zero ps k s vs ts (i + 1)]
    constructor
    · rintro ⟨h1, h2⟩ j hj
      rcases j with _ | j
      · simpa using h1
      · have := h2 j (by simpa using hj)
        rw [show i + 1 + j = i + (j + 1) by omega] at this
        simpa using this
    · intro h
      refine ⟨h 0 (by simp), fun j hj => ?_⟩
      have := h (j + 1) (by simpa using hj)
      rw [show i + 1 + j = i + (j + 1) by omega]
      simpa using this
theorem innerV_57 (s : ByteArray) (i : Nat) (vs : List VD) : innerV 57 s i vs = vs := by simp [innerV]
theorem cntV_57 (ps : List PR) (n : Int) (s : ByteArray) (ks : List T) (vs : List VD) : cntV ps (.nd 57 n s ks) vs = 0 ↔ ∀ t ∈ ks, cntV ps t vs = 0 := by
  rw [cntV, if_neg (by omega)]
  have hf : faultE ps 57 s ks.length vs = 0 := by simp [faultE]
  rw [hf, Nat.add_eq_zero_iff, cntK_zero]
  simp only [innerV_57, one1, if_true, true_and]
  constructor
  · intro h t ht
    obtain ⟨j, hj, rfl⟩ := List.getElem_of_mem ht
    exact h j hj
  · intro h j hj
    exact h _ (List.getElem_mem hj)

theorem cnt_simp (ps : List PR) (t : T) : (isS t = true → ∀ vs, cntV ps t vs = 0 → cntV ps (stm t) vs = 0) ∧ (isB t = true → ∀ vs, cntV ps t vs = 0 → cntV ps (simp t) vs = 0) := by
  induction t using T.ind with
  | _ k n s ks ih =>
    refine ⟨fun h vs h0 => ?_, fun h vs h0 => ?_⟩
    · have hEB := (isS_EB h).2
      rcases isS_cases h with ⟨_, h1⟩ | h1
      · rw [stm_nd, map_skF h1]; exact h0
      · have hk : ¬ (k = 50 ∨ k = 51) := by rcases h1 with ⟨h1, _⟩ | ⟨h1, _⟩ | ⟨h1, _⟩ <;> omega
        rw [stm_nd]
        rw [cntV, if_neg hk, Nat.add_eq_zero_iff, cntK_zero] at h0 ⊢
        refine ⟨by simpa using h0.1, fun j hj => ?_⟩
        have hj' : j < ks.length := by simpa using hj
        have h2 := h0.2 j hj'
        rw [List.getElem_map]
        rcases hEB _ (List.getElem_mem hj') with h3 | h3
        · rw [skF_E h3]; exact h2
        · rw [skF_B h3]; exact (ih _ (List.getElem_mem hj')).2 h3 _ h2
    · obtain ⟨rfl, _, h1⟩ := (isB_iff _ _ _ _).1 h
      rw [simp_nd, cntV_57]
      rw [cntV_57] at h0
      intro t ht
      have := foldC_mem t ht
      obtain ⟨u, hu, rfl⟩ := List.mem_map.1 this
      exact (ih u hu).1 (h1 u hu) vs (h0 u hu)

theorem rejN_zero (l : List T) : rejN l = 0 ↔ ∀ x ∈ l, rejE x = 0 := by
  unfold rejN
  rw [List.length_eq_zero_iff, List.filter_eq_nil_iff]
  simp
theorem rejE_57 (n : Int) (s : ByteArray) (ks : List T) : rejE (.nd 57 n s ks) = 0 := by rw [rejE_nd]; simp
theorem po_nd (k n : Int) (s : ByteArray) (ks : List T) : po (.nd k n s ks) = .nd k n s ks :: pos ks := by rw [po]
theorem rejE_stm {k n : Int} {s : ByteArray} {ks : List T} (h : isS (.nd k n s ks) = true) : rejE (stm (.nd k n s ks)) = rejE (.nd k n s ks) := by
  rw [stm_nd]
  rcases isS_cases h with ⟨_, h1⟩ | ⟨hk, _, a, b, c, d, rfl, ha, hb, hc, hd⟩ | ⟨rfl, _⟩ | ⟨rfl, _⟩
  · rw [map_skF h1]
  · have h0 : kid (.nd k n s ([a, b, c, d].map skF)) 0 = kid (.nd k n s [a, b, c, d]) 0 := by simp [kid, skF_E ha]
    have h3 : kid (.nd k n s ([a, b, c, d].map skF)) 3 = kid (.nd k n s [a, b, c, d]) 3 := by simp [kid, skF_E hd]
    rw [rejE_nd, rejE_nd, h0, h3]
    rcases hk with rfl | rfl <;> simp
  · rw [rejE_nd, rejE_nd]; simp
  · rw [rejE_nd, rejE_nd]; simp
theorem rej_simp (t : T) : (isS t = true → (∀ x ∈ po t, rejE x = 0) → ∀ x ∈ po (stm t), rejE x = 0) ∧ (isB t = true → (∀ x ∈ po t, rejE x = 0) → ∀ x ∈ po (simp t), rejE x = 0) := by
  induction t using T.ind with
  | _ k n s ks ih =>
    have hkid : (∀ x ∈ po (.nd k n s ks), rejE x = 0) → ∀ t ∈ ks, ∀ x ∈ po t, rejE x = 0 := fun h t ht x hx => h x (by rw [po_nd]; exact List.mem_cons_of_mem _ (mem_pos.2 ⟨t, ht, hx⟩))
    refine ⟨fun h h0 x hx => ?_, fun h h0 x hx => ?_⟩
    · have hEB := (isS_EB h).2
      have hs := rejE_stm h
      rw [stm_nd] at hx hs
      rw [po_nd, List.mem_cons] at hx
      rcases hx with rfl | hx
      · rw [hs]; exact h0 _ (by rw [po_nd]; exact List.mem_cons_self)
      · obtain ⟨t, ht, hx⟩ := mem_pos.1 hx
        obtain ⟨u, hu, rfl⟩ := List.mem_map.1 ht
        rcases hEB u hu with h3 | h3
        · rw [skF_E h3] at hx; exact hkid h0 u hu x hx
        · rw [skF_B h3] at hx; exact (ih u hu).2 h3 (hkid h0 u hu) x hx
    · obtain ⟨rfl, _, h1⟩ := (isB_iff _ _ _ _).1 h
      rw [simp_nd, po_nd, List.mem_cons] at hx
      rcases hx with rfl | hx
      · exact rejE_57 _ _ _
      · obtain ⟨t, ht, hx⟩ := mem_pos.1 hx
        obtain ⟨u, hu, rfl⟩ := List.mem_map.1 (foldC_mem t ht)
        exact (ih u hu).1 (h1 u hu) (hkid h0 u hu) x hx

theorem prcN_zero (ps : List PR) : ∀ j, j ≤ ps.length → (prcN ps j = 0 ↔ ∀ q (h : q < ps.length), q < j → prcE ps q ps[q] = 0)
  | 0, _ => by simp [prcN]
  | j + 1, hj => by
    rw [prcN_succ (by omega), Nat.add_eq_zero_iff, prcN_zero ps j (by omega)]
    constructor
    · rintro ⟨h1, h2⟩ q hq hqj
      by_cases e : q < j
      · exact h1 q hq e
      · obtain rfl : q = j := by omega
        exact h2
    · exact fun h => ⟨fun q hq hqj => h q hq (by omega), h j (by omega) (by omega)⟩
theorem chk_simp {p : PG} (hv : validB p = true) (h : chkN p = 0) : chkN (progF p) = 0 := by
  obtain ⟨hb, hm, _⟩ := valid_bodies hv
  rw [progF_yes hv]
  unfold chkN at h ⊢
  simp only [Nat.add_eq_zero_iff] at h ⊢
  refine ⟨⟨h.1.1, ?_⟩, ?_⟩
  · rw [prcN_zero _ _ (Nat.le_refl _)]
    have h2 := (prcN_zero _ _ (Nat.le_refl _)).1 h.1.2
    intro q hq _
    have hq' : q < p.prs.length := by simpa using hq
    have h3 := h2 q hq' hq'
    unfold prcE at h3 ⊢
    simp only [List.getElem_map, procE_map, cntV_map, Nat.add_eq_zero_iff] at h3 ⊢
    exact ⟨h3.1, (cnt_simp p.prs p.prs[q].b).2 ((isBodyB_iff _).1 (hb _ (List.getElem_mem hq'))).2 _ h3.2⟩
  · rw [cntV_map]
    exact (cnt_simp p.prs p.m).2 ((isBodyB_iff _).1 hm).2 _ h.2
theorem rjT_simp {p : PG} (hv : validB p = true) (h : rjT p = 0) : rjT (progF p) = 0 := by
  obtain ⟨hb, hm, _⟩ := valid_bodies hv
  rw [progF_yes hv]
  unfold rjT rjP at h ⊢
  rw [Nat.add_eq_zero_iff] at h ⊢
  have key : ∀ t, isBodyB t = true → rejN (po t) = 0 → rejN (po (simp t)) = 0 := fun t ht h0 => by
    rw [rejN_zero] at h0 ⊢
    exact (rej_simp t).2 ((isBodyB_iff _).1 ht).2 h0
  refine ⟨?_, key _ hm h.2⟩
  have h1 := h.1
  simp only [List.map_map]
  have : ∀ l : List PR, (∀ r ∈ l, isBodyB r.b = true) → (l.map fun r => rejN (po r.b)).sum = 0 → (l.map ((fun r => rejN (po r.b)) ∘ mapR simp)).sum = 0 := by
    intro l
    induction l with
    | nil => intro _ _; rfl
    | cons r l ih =>
      intro hl h0
      simp only [List.map_cons, List.sum_cons, Nat.add_eq_zero_iff] at h0 ⊢
      exact ⟨key _ (hl r List.mem_cons_self) h0.1, ih (fun r hr => hl r (List.mem_cons_of_mem _ hr)) h0.2⟩
  exact this _ hb h1
theorem ok_simp {p : PG} (h : okB p = true) : okB (progF p) = true := by
  unfold okB at h ⊢
  simp only [Bool.and_eq_true, decide_eq_true_eq] at h ⊢
  exact ⟨⟨valid_simp h.1.1, chk_simp h.1.1 h.1.2⟩, rjT_simp h.1.1 h.2⟩

end Go.Proofs.Ytldcjboignbfpaa
