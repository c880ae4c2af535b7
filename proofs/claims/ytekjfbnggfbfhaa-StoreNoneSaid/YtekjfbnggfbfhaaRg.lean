/-
  A region that draws its order and in the end stores into a cell that it has loaded: two conditions on the world, one for the whole region, one till operation k has come up. No program stands here.
-/
import Derived.WalkKit
import Derived.Deep.RegionHeld3
namespace Go.Proofs.Ytekjfbnggfbfhaa
open Go

section
variable {P : Program} {ops : Array Oper} {Q : Exit → Act → World → Prop} {md : Region.Mode} {S1 S2 : World → Prop} {k : Nat}

/-- Whatever order is picked; behind every operation S1 holds, and S2 as long as k has not come up. -/
def wpG (P : Program) (md : Region.Mode) (ops : Array Oper) (Q : Exit → Act → World → Prop) (S1 S2 : World → Prop) (k : Nat) : Nat → Array Bool → Act → World → Prop
  | 0, listed, a, w => Region.ready md ops listed = [] ∧ Q .normal a w
  | fuel + 1, listed, a, w =>
    (Region.ready md ops listed = [] → Q .normal a w) ∧
    ∀ i ∈ Region.ready md ops listed, wpOp P ops Q i (fun a' w' => (S1 w' ∧ ((listed.setIfInBounds i true).getD k true = false → S2 w')) ∧ wpG P md ops Q S1 S2 k fuel (listed.setIfInBounds i true) a' w') a w

theorem wpAny_of_G : ∀ (fuel : Nat) (listed : Array Bool) (a : Act) (w : World), wpG P md ops Q S1 S2 k fuel listed a w → wpAny P md ops Q fuel listed a w
  | 0, _, _, _, h => h
  | fuel + 1, _, _, _, h => ⟨h.1, fun i hi => wpOp_mono (fun a' w' h' => wpAny_of_G fuel _ a' w' h'.2) (h.2 i hi)⟩

theorem wpG_first1 {i : Nat} {oi : Oper} {v : Value} (hi : ops[i]? = some oi) (hsel : ∀ (j : Nat) (o : Oper) cs b, ops[j]? = some o → o.op ≠ .select cs b)
    (hQ : ∀ c a w, Q (.panic c) (a.put oi.dst v) w → Q (.panic c) a w) (hik : i ≠ k) :
    ∀ (fuel : Nat) (listed : Array Bool) (a : Act) (w : World),
      (∀ j oj, ops[j]? = some oj → j ≠ i → listed.getD j true = false → (∀ e ∈ oj.after, Region.binds md e = true → e.on ≠ i) → oi.apart ops oj = true) →
      i ∈ Region.ready md ops listed → YieldsIf P ops S1 oi v a → S1 w → (listed.getD k true = false → S2 w) →
      wpG P md ops Q S1 S2 k fuel (listed.setIfInBounds i true) (a.put oi.dst v) w → wpG P md ops Q S1 S2 k (fuel + 1) listed a w := by
  intro fuel
  induction fuel with
  | zero =>
    intro listed a w hfree hr hy hS1 HH H
    refine ⟨fun h => (by rw [h] at hr; cases hr), fun j hj => ?_⟩
    by_cases hji : j = i
    · subst hji; exact hy.wpOp hi hS1 ⟨⟨hS1, fun h => HH (by rw [getD_set_ne true hik] at h; exact h)⟩, H⟩
    · have := ready_mono hj hji
      rw [H.1] at this
      cases this
  | succ fuel ih =>
    intro listed a w hfree hr hy hS1 HH H
    refine ⟨fun h => (by rw [h] at hr; cases hr), fun j hj => ?_⟩
    by_cases hji : j = i
    · subst hji; exact hy.wpOp hi hS1 ⟨⟨hS1, fun h => HH (by rw [getD_set_ne true hik] at h; exact h)⟩, H⟩
    · have h1 := H.2 j (ready_mono hj hji)
      obtain ⟨hjun, oj, hoj, hall⟩ := mem_ready.1 hj
      have hnot : ∀ e ∈ oj.after, Region.binds md e = true → e.on ≠ i := fun e he hb heq => by
        have h1 := hall e he hb
        have h0 := (mem_ready.1 hr).1
        rw [heq] at h1
        rcases Nat.lt_or_ge i listed.size with h' | h'
        · simp [h'] at h0 h1; rw [h0] at h1; cases h1
        · simp [Array.getElem?_eq_none h'] at h1
      have h2 := wpOp_putIf hoj (hfree j oj hoj hji hjun hnot) (fun cs b => hsel i oi cs b hi) (fun cs b => hsel j oj cs b hoj) hQ hy h1
      have hfree' : ∀ k ok, ops[k]? = some ok → k ≠ i → (listed.setIfInBounds j true).getD k true = false →
          (∀ e ∈ ok.after, Region.binds md e = true → e.on ≠ i) → oi.apart ops ok = true := fun k ok hk hki hun hno => by
        refine hfree k ok hk hki ?_ hno
        by_cases hjk : j = k
        · subst hjk; exact hjun
        · rw [getD_set_ne true hjk] at hun; exact hun
      have hsame : ((listed.setIfInBounds i true).setIfInBounds j true).getD k true = (listed.setIfInBounds j true).getD k true := by
        rw [Array.setIfInBounds_comm _ _ (Ne.symm hji), getD_set_ne true hik]
      refine wpOp_mono (fun a' w' h3 => ?_) h2
      obtain ⟨hy', ⟨hs1, hs2⟩, hW⟩ := h3
      rw [hsame] at hs2
      refine ⟨⟨hs1, hs2⟩, ih (listed.setIfInBounds j true) a' w' hfree' (ready_mono hr (Ne.symm hji)) hy' hs1 hs2 ?_⟩
      rw [Array.setIfInBounds_comm _ _ hji]
      exact hW

theorem wpG_first2 {i : Nat} {oi : Oper} {v : Value} (hi : ops[i]? = some oi) (hsel : ∀ (j : Nat) (o : Oper) cs b, ops[j]? = some o → o.op ≠ .select cs b)
    (hQ : ∀ c a w, Q (.panic c) (a.put oi.dst v) w → Q (.panic c) a w) (hik : i ≠ k) (hwait : ∃ ok, ops[k]? = some ok ∧ ∃ e ∈ ok.after, Region.binds md e = true ∧ e.on = i) :
    ∀ (fuel : Nat) (listed : Array Bool) (a : Act) (w : World),
      (∀ j oj, ops[j]? = some oj → j ≠ i → listed.getD j true = false → (∀ e ∈ oj.after, Region.binds md e = true → e.on ≠ i) → oi.apart ops oj = true) →
      i ∈ Region.ready md ops listed → YieldsIf P ops S2 oi v a → S1 w → (listed.getD k true = false ∧ S2 w) →
      wpG P md ops Q S1 S2 k fuel (listed.setIfInBounds i true) (a.put oi.dst v) w → wpG P md ops Q S1 S2 k (fuel + 1) listed a w := by
  intro fuel
  induction fuel with
  | zero =>
    intro listed a w hfree hr hy hS1 HH H
    refine ⟨fun h => (by rw [h] at hr; cases hr), fun j hj => ?_⟩
    by_cases hji : j = i
    · subst hji; exact hy.wpOp hi HH.2 ⟨⟨hS1, fun h => HH.2⟩, H⟩
    · have := ready_mono hj hji
      rw [H.1] at this
      cases this
  | succ fuel ih =>
    intro listed a w hfree hr hy hS1 HH H
    refine ⟨fun h => (by rw [h] at hr; cases hr), fun j hj => ?_⟩
    by_cases hji : j = i
    · subst hji; exact hy.wpOp hi HH.2 ⟨⟨hS1, fun h => HH.2⟩, H⟩
    · have h1 := H.2 j (ready_mono hj hji)
      obtain ⟨hjun, oj, hoj, hall⟩ := mem_ready.1 hj
      have hnot : ∀ e ∈ oj.after, Region.binds md e = true → e.on ≠ i := fun e he hb heq => by
        have h1 := hall e he hb
        have h0 := (mem_ready.1 hr).1
        rw [heq] at h1
        rcases Nat.lt_or_ge i listed.size with h' | h'
        · simp [h'] at h0 h1; rw [h0] at h1; cases h1
        · simp [Array.getElem?_eq_none h'] at h1
      have h2 := wpOp_putIf hoj (hfree j oj hoj hji hjun hnot) (fun cs b => hsel i oi cs b hi) (fun cs b => hsel j oj cs b hoj) hQ hy h1
      have hfree' : ∀ k ok, ops[k]? = some ok → k ≠ i → (listed.setIfInBounds j true).getD k true = false →
          (∀ e ∈ ok.after, Region.binds md e = true → e.on ≠ i) → oi.apart ops ok = true := fun k ok hk hki hun hno => by
        refine hfree k ok hk hki ?_ hno
        by_cases hjk : j = k
        · subst hjk; exact hjun
        · rw [getD_set_ne true hjk] at hun; exact hun
      have hsame : ((listed.setIfInBounds i true).setIfInBounds j true).getD k true = (listed.setIfInBounds j true).getD k true := by
        rw [Array.setIfInBounds_comm _ _ (Ne.symm hji), getD_set_ne true hik]
      have hjk : j ≠ k := fun e' => by
        obtain ⟨ok, hok, e, he, hb, heq⟩ := hwait
        rw [← e', hoj] at hok
        injection hok with hok
        subst hok
        exact hnot e he hb heq
      have hlk' : (listed.setIfInBounds j true).getD k true = false := by rw [getD_set_ne true hjk]; exact HH.1
      refine wpOp_mono (fun a' w' h3 => ?_) h2
      obtain ⟨hy', ⟨hs1, hs2⟩, hW⟩ := h3
      have hS2' := hs2 (by rw [hsame]; exact hlk')
      refine ⟨⟨hs1, fun _ => hS2'⟩, ih (listed.setIfInBounds j true) a' w' hfree' (ready_mono hr (Ne.symm hji)) hy' hs1 ⟨hlk', hS2'⟩ ?_⟩
      rw [Array.setIfInBounds_comm _ _ hji]
      exact hW

/-- An operation that yields in every world that meets S1 (while k has not come up). -/
theorem wpG_take1 {i : Nat} {oi : Oper} {v : Value} {fuel : Nat} {listed : Array Bool} {a : Act} {w : World} (hi : ops[i]? = some oi)
    (hs : Region.noSelect ops = true) (hf : Region.free md ops listed i = true) (hr : (Region.ready md ops listed).contains i = true) (hik : i ≠ k)
    (hQ : ∀ c a w, Q (.panic c) (a.put oi.dst v) w → Q (.panic c) a w) (hy : YieldsIf P ops S1 oi v a) (hS : S1 w ∧ S2 w)
    (h : wpG P md ops Q S1 S2 k fuel (listed.setIfInBounds i true) (a.put oi.dst v) w) : wpG P md ops Q S1 S2 k (fuel + 1) listed a w :=
  wpG_first1 hi (Region.noSelect_spec hs) hQ hik fuel listed a w (Region.free_spec hi hf) (by simpa using hr) hy hS.1 (fun _ => hS.2) h

/-- An operation that yields in every world that meets S2, and that k waits for. -/
theorem wpG_take2 {i : Nat} {oi ok : Oper} {v : Value} {fuel : Nat} {listed : Array Bool} {a : Act} {w : World} (hi : ops[i]? = some oi)
    (hs : Region.noSelect ops = true) (hf : Region.free md ops listed i = true) (hr : (Region.ready md ops listed).contains i = true) (hik : i ≠ k)
    (hok : ops[k]? = some ok) (hwait : ok.after.any (fun e => Region.binds md e && e.on == i) = true) (hlk : listed.getD k true = false)
    (hQ : ∀ c a w, Q (.panic c) (a.put oi.dst v) w → Q (.panic c) a w) (hy : YieldsIf P ops S2 oi v a) (hS : S1 w ∧ S2 w)
    (h : wpG P md ops Q S1 S2 k fuel (listed.setIfInBounds i true) (a.put oi.dst v) w) : wpG P md ops Q S1 S2 k (fuel + 1) listed a w :=
  wpG_first2 hi (Region.noSelect_spec hs) hQ hik ⟨ok, hok, by
    obtain ⟨i', hi', h'⟩ := Array.any_iff_exists.1 hwait
    simp only [Bool.and_eq_true, beq_iff_eq] at h'
    exact ⟨_, Array.getElem_mem _, h'.2.2.1, h'.2.2.2⟩⟩ fuel listed a w (Region.free_spec hi hf) (by simpa using hr) hy hS.1 ⟨hlk, hS.2⟩ h

/-- One operation may come up, and k has not. -/
theorem wpG_one {i : Nat} {o : Oper} {fuel : Nat} {listed : Array Bool} {a : Act} {w : World} (hr : Region.ready md ops listed = [i]) (ho : ops[i]? = some o)
    (h : ∀ K' : Act → World → Prop, Shut (∀ a w, S1 w ∧ S2 w → wpG P md ops Q S1 S2 k fuel (listed.setIfInBounds i true) a w → K' a w) → if Region.wanted o (yielded ops a.tmps) = true then Oper.wp P o a w K' Q else K' (a.put o.dst undef) w) :
    wpG P md ops Q S1 S2 k (fuel + 1) listed a w := by
  refine ⟨(fun h0 => by rw [hr] at h0; cases h0), fun j hj => ?_⟩
  rw [hr] at hj
  simp only [List.mem_singleton] at hj
  subst hj
  exact wpOp_step ho fun K' hK => h K' fun a w hS hW => hK a w ⟨⟨hS.1, fun _ => hS.2⟩, hW⟩
/-- k comes up, or has come up. -/
theorem wpG_past {i : Nat} {o : Oper} {fuel : Nat} {listed : Array Bool} {a : Act} {w : World} (hr : Region.ready md ops listed = [i]) (ho : ops[i]? = some o) (hk : (listed.setIfInBounds i true).getD k true = true)
    (h : ∀ K' : Act → World → Prop, Shut (∀ a w, S1 w → wpG P md ops Q S1 S2 k fuel (listed.setIfInBounds i true) a w → K' a w) → if Region.wanted o (yielded ops a.tmps) = true then Oper.wp P o a w K' Q else K' (a.put o.dst undef) w) :
    wpG P md ops Q S1 S2 k (fuel + 1) listed a w := by
  refine ⟨(fun h0 => by rw [hr] at h0; cases h0), fun j hj => ?_⟩
  rw [hr] at hj
  simp only [List.mem_singleton] at hj
  subst hj
  exact wpOp_step ho fun K' hK => h K' fun a w hS hW => hK a w ⟨⟨hS, fun h => by rw [hk] at h; cases h⟩, hW⟩
theorem wpG_done {fuel : Nat} {listed : Array Bool} {a : Act} {w : World} (hr : Region.ready md ops listed = []) (h : Q .normal a w) : wpG P md ops Q S1 S2 k fuel listed a w := by
  cases fuel with
  | zero => exact ⟨hr, h⟩
  | succ fuel => exact ⟨fun _ => h, fun i hi => by rw [hr] at hi; cases hi⟩
theorem wp_region_G {id : Nat} {a : Act} {w : World} (S1 S2 : World → Prop) (k : Nat) (hm : P.follows .mixedOrders = true)
    (h : wpG P .any ops Q S1 S2 k ops.size (Array.replicate ops.size false) a w.drew) : (Code.region id ops true).wp P Q a w :=
  wp_region_any hm (wpAny_of_G _ _ _ _ h)
end
end Go.Proofs.Ytekjfbnggfbfhaa

/-
  A region that draws its order: an operation that reads what operation k turns, where k waits for it by way of others. No program stands here.
-/
namespace Go.Proofs.Ytekjfbnggfbfhaa
open Go

section
variable {P : Program} {ops : Array Oper} {Q : Exit → Act → World → Prop} {md : Region.Mode} {S1 S2 : World → Prop} {k : Nat}

/-- Operation m waits for operation p. -/
def waitsB (md : Region.Mode) (ops : Array Oper) (m p : Nat) : Bool := match ops[m]? with
  | some o => o.after.any fun e => Region.binds md e && e.on == p
  | none => false
/-- The first of the list waits for p, each next one for the one before. -/
def chainB (md : Region.Mode) (ops : Array Oper) : Nat → List Nat → Bool
  | _, [] => true
  | p, m :: r => waitsB md ops m p && chainB md ops m r
theorem waitsB_ex {m p : Nat} (h : waitsB md ops m p = true) : ∃ o, ops[m]? = some o ∧ ∃ e ∈ o.after, Region.binds md e = true ∧ e.on = p := by
  unfold waitsB at h
  cases ho : ops[m]? with
  | none => rw [ho] at h; cases h
  | some o =>
    rw [ho] at h
    obtain ⟨i', hi', h'⟩ := Array.any_iff_exists.1 h
    simp only [Bool.and_eq_true, beq_iff_eq] at h'
    exact ⟨o, rfl, _, Array.getElem_mem _, h'.2.2.1, h'.2.2.2⟩
theorem chainB_ex : ∀ {L : List Nat} {p : Nat}, chainB md ops p L = true → ∀ m ∈ L, ∃ q, (q = p ∨ q ∈ L) ∧ waitsB md ops m q = true
  | [], _, _, _, hm => by cases hm
  | x :: r, p, h, m, hm => by
    simp only [chainB, Bool.and_eq_true] at h
    rcases List.mem_cons.1 hm with rfl | hm
    · exact ⟨p, .inl rfl, h.1⟩
    · obtain ⟨q, hq, hw⟩ := chainB_ex h.2 m hm
      refine ⟨q, .inr ?_, hw⟩
      rcases hq with rfl | hq
      · exact List.mem_cons_self ..
      · exact List.mem_cons_of_mem _ hq

theorem wpG_firstC {i : Nat} {oi : Oper} {v : Value} (hi : ops[i]? = some oi) (hsel : ∀ (j : Nat) (o : Oper) cs b, ops[j]? = some o → o.op ≠ .select cs b)
    (hQ : ∀ c a w, Q (.panic c) (a.put oi.dst v) w → Q (.panic c) a w) (ms : List Nat) (hik : i ∉ ms ++ [k]) (hch : chainB md ops i (ms ++ [k]) = true) :
    ∀ (fuel : Nat) (listed : Array Bool) (a : Act) (w : World),
      (∀ j oj, ops[j]? = some oj → j ≠ i → listed.getD j true = false → (∀ e ∈ oj.after, Region.binds md e = true → e.on ≠ i) → oi.apart ops oj = true) →
      i ∈ Region.ready md ops listed → YieldsIf P ops S2 oi v a → S1 w → ((∀ m ∈ ms ++ [k], listed.getD m true = false) ∧ S2 w) →
      wpG P md ops Q S1 S2 k fuel (listed.setIfInBounds i true) (a.put oi.dst v) w → wpG P md ops Q S1 S2 k (fuel + 1) listed a w := by
  have hik' : i ≠ k := fun e => hik (by simp [e])
  intro fuel
  induction fuel with
  | zero =>
    intro listed a w hfree hr hy hS1 HH H
    refine ⟨fun h => (by rw [h] at hr; cases hr), fun j hj => ?_⟩
    by_cases hji : j = i
    · subst hji; exact hy.wpOp hi HH.2 ⟨⟨hS1, fun h => HH.2⟩, H⟩
    · have := ready_mono hj hji
      rw [H.1] at this
      cases this
  | succ fuel ih =>
    intro listed a w hfree hr hy hS1 HH H
    refine ⟨fun h => (by rw [h] at hr; cases hr), fun j hj => ?_⟩
    by_cases hji : j = i
    · subst hji; exact hy.wpOp hi HH.2 ⟨⟨hS1, fun h => HH.2⟩, H⟩
    · have h1 := H.2 j (ready_mono hj hji)
      obtain ⟨hjun, oj, hoj, hall⟩ := mem_ready.1 hj
      have hun : ∀ p, listed.getD p true = false → ∀ e ∈ oj.after, Region.binds md e = true → e.on ≠ p := fun p h0 e he hb heq => by
        have h1 := hall e he hb
        rw [heq] at h1
        rcases Nat.lt_or_ge p listed.size with h' | h'
        · simp [h'] at h0 h1; rw [h0] at h1; cases h1
        · simp [Array.getElem?_eq_none h'] at h1
      have hnot : ∀ e ∈ oj.after, Region.binds md e = true → e.on ≠ i := hun i (mem_ready.1 hr).1
      have h2 := wpOp_putIf hoj (hfree j oj hoj hji hjun hnot) (fun cs b => hsel i oi cs b hi) (fun cs b => hsel j oj cs b hoj) hQ hy h1
      have hfree' : ∀ k ok, ops[k]? = some ok → k ≠ i → (listed.setIfInBounds j true).getD k true = false →
          (∀ e ∈ ok.after, Region.binds md e = true → e.on ≠ i) → oi.apart ops ok = true := fun k ok hk hki hun hno => by
        refine hfree k ok hk hki ?_ hno
        by_cases hjk : j = k
        · subst hjk; exact hjun
        · rw [getD_set_ne true hjk] at hun; exact hun
      have hsame : ((listed.setIfInBounds i true).setIfInBounds j true).getD k true = (listed.setIfInBounds j true).getD k true := by
        rw [Array.setIfInBounds_comm _ _ (Ne.symm hji), getD_set_ne true hik']
      have hjm : ∀ m ∈ ms ++ [k], j ≠ m := fun m hm e' => by
        obtain ⟨q, hq, hw⟩ := chainB_ex hch m hm
        obtain ⟨om, hom, e, he, hb, heq⟩ := waitsB_ex hw
        rw [← e', hoj] at hom
        injection hom with hom
        subst hom
        refine hun q ?_ e he hb heq
        rcases hq with rfl | hq
        · exact (mem_ready.1 hr).1
        · exact HH.1 q hq
      have hlk' : ∀ m ∈ ms ++ [k], (listed.setIfInBounds j true).getD m true = false := fun m hm => by rw [getD_set_ne true (hjm m hm)]; exact HH.1 m hm
      refine wpOp_mono (fun a' w' h3 => ?_) h2
      obtain ⟨hy', ⟨hs1, hs2⟩, hW⟩ := h3
      have hS2' := hs2 (by rw [hsame]; exact hlk' k (by simp))
      refine ⟨⟨hs1, fun _ => hS2'⟩, ih (listed.setIfInBounds j true) a' w' hfree' (ready_mono hr (Ne.symm hji)) hy' hs1 ⟨hlk', hS2'⟩ ?_⟩
      rw [Array.setIfInBounds_comm _ _ hji]
      exact hW

/-- An operation that yields in every world that meets S2, and that k waits for by way of ms. -/
theorem wpG_takeC {i : Nat} {oi : Oper} {v : Value} {fuel : Nat} {listed : Array Bool} {a : Act} {w : World} (ms : List Nat) (hi : ops[i]? = some oi)
    (hs : Region.noSelect ops = true) (hf : Region.free md ops listed i = true) (hr : (Region.ready md ops listed).contains i = true) (hik : (ms ++ [k]).contains i = false)
    (hch : chainB md ops i (ms ++ [k]) = true) (hlk : (ms ++ [k]).all (fun m => !listed.getD m true) = true)
    (hQ : ∀ c a w, Q (.panic c) (a.put oi.dst v) w → Q (.panic c) a w) (hy : YieldsIf P ops S2 oi v a) (hS : S1 w ∧ S2 w)
    (h : wpG P md ops Q S1 S2 k fuel (listed.setIfInBounds i true) (a.put oi.dst v) w) : wpG P md ops Q S1 S2 k (fuel + 1) listed a w :=
  wpG_firstC hi (Region.noSelect_spec hs) hQ ms (by simpa using hik) hch fuel listed a w (Region.free_spec hi hf) (by simpa using hr) hy hS.1 ⟨fun m hm => by simpa using List.all_eq_true.1 hlk m hm, hS.2⟩ h
/-- An operation that yields in every world that meets S1, behind k. -/
theorem wpG_takeP {i : Nat} {oi : Oper} {v : Value} {fuel : Nat} {listed : Array Bool} {a : Act} {w : World} (hi : ops[i]? = some oi)
    (hs : Region.noSelect ops = true) (hf : Region.free md ops listed i = true) (hr : (Region.ready md ops listed).contains i = true) (hik : i ≠ k) (hlk : listed.getD k true = true)
    (hQ : ∀ c a w, Q (.panic c) (a.put oi.dst v) w → Q (.panic c) a w) (hy : YieldsIf P ops S1 oi v a) (hS : S1 w)
    (h : wpG P md ops Q S1 S2 k fuel (listed.setIfInBounds i true) (a.put oi.dst v) w) : wpG P md ops Q S1 S2 k (fuel + 1) listed a w :=
  wpG_first1 hi (Region.noSelect_spec hs) hQ hik fuel listed a w (Region.free_spec hi hf) (by simpa using hr) hy hS (fun e => by rw [hlk] at e; cases e) h
end
end Go.Proofs.Ytekjfbnggfbfhaa
