/-
  The inverse of a tree, plainly: what inverter.invert computes; facts on it.
-/
import Derived.Test.YtekjfbnggfbfhaaSpec
import Derived.Test.YtekjfbnggfbfhaaOwn
namespace Go.Proofs.Ytekjfbnggfbfhaa
open Go.RowKit

/-- inverter.exchanged. -/
def exch (k : Int) : Int :=
  if k = 40 then 41 else if k = 41 then 40 else if k = 44 then 45 else if k = 45 then 44 else if k = 46 then 47 else if k = 47 then 46
  else if k = 48 then 49 else if k = 49 then 48 else if k = 50 then 51 else if k = 51 then 50 else k
/-- The first and the last of a list change places. -/
def swapEnds (l : List T) : List T := match l with
  | [] => []
  | a :: r => ((a :: r).set 0 ((a :: r).getLast (by simp))).set r.length a
mutual
/-- inverter.invert. -/
def inv (keep : Bool) : T → T
  | .nd k n s ks =>
    if k = 57 then .nd k n s (invs keep true ks).reverse
    else if k = 52 ∨ k = 53 ∨ k = 54 then .nd k n s (swapEnds (invs keep false ks))
    else if k = 50 ∨ k = 51 then .nd (if keep then k else exch k) n s (invs keep false ks)
    else .nd (exch k) n s (invs keep false ks)
def invs (keep all : Bool) : List T → List T
  | [] => []
  | t :: ts => (if all || t.k == 57 then inv keep t else t) :: invs keep all ts
end
def invK (keep all : Bool) (t : T) : T := if all || t.k == 57 then inv keep t else t
theorem invs_map (keep all : Bool) : ∀ ks : List T, invs keep all ks = ks.map (invK keep all)
  | [] => by simp [invs]
  | t :: ts => by simp [invs, invs_map keep all ts, invK]
theorem exch_bd (k : Int) (h : 0 ≤ k ∧ k < 256) : 0 ≤ exch k ∧ exch k < 256 := by unfold exch; repeat' split <;> omega

/-- Of a valid statement the children that are blocks are valid blocks. -/
theorem isE_k (t : T) (h : isE t = true) : t.k ≤ 23 := by
  cases t with
  | nd k n s ks =>
    rw [isE] at h
    simp only [T.k_nd]
    repeat' split at h
    all_goals first | omega | (simp at h)
theorem isP_k (t : T) (h : isP t = true) : t.k ≠ 57 := by
  have : isE t = true := by simp only [isP, Bool.and_eq_true] at h; exact h.2
  have := isE_k t this
  omega
theorem isV_k (t : T) (h : isV t = true) : t.k ≠ 57 := by
  have : isE t = true := by simp only [isV, Bool.and_eq_true] at h; exact h.2
  have := isE_k t this
  omega
theorem isS_kids (k n : Int) (s : ByteArray) (ks : List T) (h : isS (.nd k n s ks) = true) : ∀ t ∈ ks, t.k = 57 → isB t = true := by
  have key : ∀ (p : Nat → T → Bool) (i : Nat), (∀ j t, p j t = true → t.k = 57 → isB t = true) → kidsFrom p i ks = true → ∀ t ∈ ks, t.k = 57 → isB t = true := by
    intro p i hp hk t ht hk57
    obtain ⟨q, hq, rfl⟩ := List.getElem_of_mem ht
    exact hp _ _ ((kidsFrom_iff p i ks).1 hk q hq) hk57
  have kP : ∀ t, isP t = true → t.k = 57 → isB t = true := fun t h1 h2 => absurd h2 (isP_k t h1)
  have kE : ∀ t, isE t = true → t.k = 57 → isB t = true := fun t h1 h2 => by have := isE_k t h1; omega
  have kV : ∀ t, isV t = true → t.k = 57 → isB t = true := fun t h1 h2 => absurd h2 (isV_k t h1)
  have kEB : ∀ d j t, pEB d j t = true → t.k = 57 → isB t = true := by
    intro d j t h1 h2
    unfold pEB at h1
    split at h1
    · exact kE t h1 h2
    · exact h1
  rw [isS] at h
  repeat' split at h
  · simp only [kidsB, Bool.and_eq_true] at h
    exact key _ 0 (fun j t hj => by split at hj; exact kP t hj; exact kE t hj) h.2.2
  · simp only [kidsB, Bool.and_eq_true] at h; exact key _ 0 (fun j t => kP t) h.2.2
  · simp only [kidsB, Bool.and_eq_true] at h; exact key _ 0 (fun j t => kP t) h.2.2
  · simp only [kidsB, Bool.and_eq_true] at h; exact key _ 0 (fun j t => kP t) h.2.2
  · simp only [Bool.and_eq_true] at h; exact key _ 0 (fun j t => kV t) h.2
  · simp only [Bool.and_eq_true] at h; exact key (pEB 0) 0 (kEB 0) (by rw [← isEB_eq]; exact h.2.2)
  · simp only [Bool.and_eq_true] at h; exact key (pEB 4) 0 (kEB 4) (by rw [← isEB_eq]; exact h.2.2)
  · simp only [Bool.and_eq_true] at h; exact key (pEB 7) 0 (kEB 7) (by rw [← isEB_eq]; exact h.2.2)
  · cases h
theorem isB_kids (k n : Int) (s : ByteArray) (ks : List T) (h : isB (.nd k n s ks) = true) : k = 57 ∧ ∀ t ∈ ks, isS t = true := by
  rw [isB] at h
  simp only [Bool.and_eq_true, decide_eq_true_eq] at h
  refine ⟨h.1.1, fun t ht => ?_⟩
  obtain ⟨q, hq, rfl⟩ := List.getElem_of_mem ht
  exact (kidsFrom_iff _ 0 ks).1 (by rw [← isSs_eq]; exact h.2) q hq
theorem isS_not57 (k n : Int) (s : ByteArray) (ks : List T) (h : isS (.nd k n s ks) = true) : k ≠ 57 := by
  rintro rfl
  rw [isS] at h
  simp at h
/-- An If, a From, a Local has a child. -/
theorem isS_len (k n : Int) (s : ByteArray) (ks : List T) (h : isS (.nd k n s ks) = true) (hk : k = 52 ∨ k = 53 ∨ k = 54) : 0 < ks.length := by
  rw [isS] at h
  rcases hk with rfl | rfl | rfl <;> simp at h <;> omega

/-- Valid: a statement or a block. -/
def okT (t : T) : Prop := isS t = true ∨ isB t = true
theorem okT_kid (k n : Int) (s : ByteArray) (ks : List T) (h : okT (.nd k n s ks)) (t : T) (ht : t ∈ ks) (hb : k = 57 ∨ t.k = 57) : okT t := by
  rcases h with h | h
  · rcases hb with hb | hb
    · exact absurd hb (isS_not57 k n s ks h)
    · exact .inr (isS_kids k n s ks h t ht hb)
  · exact .inl ((isB_kids k n s ks h).2 t ht)
theorem okT_len (k n : Int) (s : ByteArray) (ks : List T) (h : okT (.nd k n s ks)) (hk : k = 52 ∨ k = 53 ∨ k = 54) : 0 < ks.length := by
  rcases h with h | h
  · exact isS_len k n s ks h hk
  · have := (isB_kids k n s ks h).1; omega
theorem okT_len2 (k n : Int) (s : ByteArray) (ks : List T) (h : okT (.nd k n s ks)) (hk : k = 52 ∨ k = 53 ∨ k = 54) : 1 < ks.length := by
  rcases h with h | h
  · rw [isS] at h
    rcases hk with rfl | rfl | rfl <;> simp at h <;> omega
  · have := (isB_kids k n s ks h).1; omega
theorem swapEnds_eq (l : List T) (h : 0 < l.length) : swapEnds l = (l.set 0 l[l.length - 1]).set (l.length - 1) l[0] := by
  cases l with
  | nil => simp at h
  | cons a r => simp [swapEnds, List.getLast_eq_getElem]

theorem inv_swap (keep : Bool) (k n : Int) (s : ByteArray) (ks : List T) (k57 : ¬ k = 57) (k52 : k = 52 ∨ k = 53 ∨ k = 54) (h0 : 0 < (ks.map (invK keep (k == 57))).length) (hm : ks.length - 1 < (ks.map (invK keep (k == 57))).length) :
    inv keep (.nd k n s ks) = .nd k n s (((ks.map (invK keep (k == 57))).set 0 (ks.map (invK keep (k == 57)))[ks.length - 1]).set (ks.length - 1) (ks.map (invK keep (k == 57)))[0]) := by
  have e : (k == 57) = false := by simpa using k57
  have e1 : invs keep false ks = ks.map (invK keep (k == 57)) := by rw [invs_map, e]
  rw [inv, if_neg k57, if_pos k52, e1, swapEnds_eq _ h0]
  simp

end Go.Proofs.Ytekjfbnggfbfhaa

/-
  What a call that makes a node out of a node holds in memory as it goes: a box with the new node, a row of the new children.
-/
namespace Go.Proofs.Ytekjfbnggfbfhaa
open Go.RowKit

abbrev ZC : Array Value := #[.int .u8 0, .int .i64 0, .string ⟨#[]⟩, .slice none 0 0]
/-- Block gm: the box of the new node; block gr: the row of its children L; below: as w was, with the argument's box and the result's. -/
structure InvSt (w wx : World) (E : TypeId) (k n : Int) (s : ByteArray) (A : Option Addr) (l c : Nat) (k' : Int) (gm gr : Nat) (L : List T) : Prop where
  box : wx.heap[gm]? = some (.cells #[.int .u8 k', .int .i64 n, .string s, .slice (some ⟨gr, 0, none⟩) l l] E (0, 0))
  own : OwnN wx (w.heap.size + 2) E (fun b => w.heap.size + 2 ≤ b ∧ b ≠ gm) (.slice (some ⟨gr, 0, none⟩) l l) L
  lo : w.heap.size + 2 ≤ gm
  ne : gm ≠ gr
  low : Below (w.heap.size + 2) ((w.alloc (.cells #[.int .u8 k, .int .i64 n, .string s, .slice A l c] E)).alloc (.cells ZC E)) wx

section
variable {w wx w' : World} {E : TypeId} {k n : Int} {s : ByteArray} {A : Option Addr} {l c : Nat} {k' : Int} {gm gr : Nat} {L : List T}

theorem cell_of_blk {b i : Nat} {cs : Array Value} {e : TypeId} {f : Nat × Nat} {u : Value} (h : wx.heap[b]? = some (.cells cs e f)) (hu : cs[i]? = some u) : wx.cell? ⟨b, i, none⟩ = some u := by
  simp only [World.cell?, h]; simpa using hu
theorem frozen_of_blk {b i : Nat} {cs : Array Value} {e : TypeId} (h : wx.heap[b]? = some (.cells cs e (0, 0))) : wx.frozen? ⟨b, i, none⟩ = false := by
  simp [World.frozen?, h]
theorem blk_lt {b : Nat} {o : Obj} (h : wx.heap[b]? = some o) : b < wx.heap.size := (Array.getElem?_eq_some_iff.1 h).1

theorem cell_st4 {w1 : World} {g b o p0 p1 p2 p3 : Nat} {u u0 u1 u2 u3 : Value} (hne : b ≠ g) (h : w1.cell? ⟨b, o, none⟩ = some u) :
    ((((w1.setCell ⟨g, p0, none⟩ u0).setCell ⟨g, p1, none⟩ u1).setCell ⟨g, p2, none⟩ u2).setCell ⟨g, p3, none⟩ u3).cell? ⟨b, o, none⟩ = some u := by
  have e : ∀ (W : World) (p : Nat) (x : Value), (W.setCell ⟨g, p, none⟩ x).cell? ⟨b, o, none⟩ = W.cell? ⟨b, o, none⟩ := fun W p x => World.cell?_setCell_other W _ _ x (fun h => hne (by injection h with h; exact h.symm))
  rw [e, e, e, e]; exact h
theorem InvSt.later (h : InvSt w wx E k n s A l c k' gm gr L) (hb : Below wx.heap.size wx w') : InvSt w w' E k n s A l c k' gm gr L :=
  ⟨(hb.block gm (blk_lt h.box)).trans h.box, h.own.later hb, h.lo, h.ne, h.low.trans (hb.mono (by have := h.low.size; simpa using this))⟩
theorem InvSt.arg (h : InvSt w wx E k n s A l c k' gm gr L) : wx.heap[w.heap.size]? = some (.cells #[.int .u8 k, .int .i64 n, .string s, .slice A l c] E (0, 0)) := by
  rw [h.low.block _ (by omega), Below.heap_alloc _ _ _ (by simp)]; exact heap_alloc_new w _
theorem InvSt.res (h : InvSt w wx E k n s A l c k' gm gr L) : wx.heap[w.heap.size + 1]? = some (.cells ZC E (0, 0)) := by
  rw [h.low.block _ (by omega)]
  have := heap_alloc_new (w.alloc (.cells #[.int .u8 k, .int .i64 n, .string s, .slice A l c] E)) (.cells ZC E)
  simpa using this
theorem InvSt.below (h : InvSt w wx E k n s A l c k' gm gr L) : Below w.heap.size w wx := (((Below.refl _ _).alloc (Nat.le_refl _) _).alloc (by simp) _).trans (h.low.mono (by omega))
theorem InvSt.size (h : InvSt w wx E k n s A l c k' gm gr L) : w.heap.size + 2 ≤ wx.heap.size := by have := h.low.size; simpa using this
theorem InvSt.grlo (h : InvSt w wx E k n s A l c k' gm gr L) : w.heap.size + 2 ≤ gr ∧ gr < wx.heap.size := ⟨h.own.len.2.2.1, h.own.len.2.2.2⟩

/-- The two orders in which the box and the row are made. -/
theorem InvSt.start1 (w : World) (E : TypeId) (k n : Int) (s : ByteArray) (A : Option Addr) (l c : Nat) (hl : l ≤ LK) :
    InvSt w (((((w.alloc (.cells #[.int .u8 k, .int .i64 n, .string s, .slice A l c] E)).alloc (.cells ZC E)).alloc (.cells (madeCells ZC (l * 4)) E)).alloc (.cells #[.int .u8 k, .int .i64 n, .string s, .slice (some ⟨w.heap.size + 1 + 1, 0, none⟩) l l] E)).drew) E k n s A l c k (w.heap.size + 1 + 1 + 1) (w.heap.size + 1 + 1) (List.replicate l zeroT) := by
  have hm := own_made ((w.alloc (.cells #[.int .u8 k, .int .i64 n, .string s, .slice A l c] E)).alloc (.cells ZC E)) (w.heap.size + 2) E (fun b => w.heap.size + 2 ≤ b ∧ b ≠ w.heap.size + 1 + 1 + 1) l (by simp) hl
  refine ⟨?_, ?_, by omega, by omega, ?_⟩
  · have := heap_alloc_new (((w.alloc (.cells #[.int .u8 k, .int .i64 n, .string s, .slice A l c] E)).alloc (.cells ZC E)).alloc (.cells (madeCells ZC (l * 4)) E)) (.cells #[.int .u8 k, .int .i64 n, .string s, .slice (some ⟨w.heap.size + 1 + 1, 0, none⟩) l l] E)
    simp only [World.size_alloc] at this
    exact this
  · have := (hm.later ((Below.refl _ _).alloc (Nat.le_refl _) (.cells #[.int .u8 k, .int .i64 n, .string s, .slice (some ⟨w.heap.size + 1 + 1, 0, none⟩) l l] E))).drew
    simp only [World.size_alloc] at this
    exact this
  · exact (((Below.refl _ _).alloc (by simp) _).alloc (by simp) _).drew
theorem InvSt.start2 (w : World) (E : TypeId) (k n : Int) (s : ByteArray) (A : Option Addr) (l c : Nat) (hl : l ≤ LK) :
    InvSt w (((((w.alloc (.cells #[.int .u8 k, .int .i64 n, .string s, .slice A l c] E)).alloc (.cells ZC E)).alloc (.cells #[.int .u8 k, .int .i64 n, .string s, .slice (some ⟨w.heap.size + 1 + 1 + 1, 0, none⟩) l l] E)).alloc (.cells (madeCells ZC (l * 4)) E)).drew) E k n s A l c k (w.heap.size + 1 + 1) (w.heap.size + 1 + 1 + 1) (List.replicate l zeroT) := by
  have hm := own_made (((w.alloc (.cells #[.int .u8 k, .int .i64 n, .string s, .slice A l c] E)).alloc (.cells ZC E)).alloc (.cells #[.int .u8 k, .int .i64 n, .string s, .slice (some ⟨w.heap.size + 1 + 1 + 1, 0, none⟩) l l] E)) (w.heap.size + 2) E (fun b => w.heap.size + 2 ≤ b ∧ b ≠ w.heap.size + 1 + 1) l (by simp) hl
  refine ⟨?_, ?_, by omega, by omega, ?_⟩
  · have := heap_alloc_new ((w.alloc (.cells #[.int .u8 k, .int .i64 n, .string s, .slice A l c] E)).alloc (.cells ZC E)) (.cells #[.int .u8 k, .int .i64 n, .string s, .slice (some ⟨w.heap.size + 1 + 1 + 1, 0, none⟩) l l] E)
    have h2 := Below.heap_alloc (((w.alloc (.cells #[.int .u8 k, .int .i64 n, .string s, .slice A l c] E)).alloc (.cells ZC E)).alloc (.cells #[.int .u8 k, .int .i64 n, .string s, .slice (some ⟨w.heap.size + 1 + 1 + 1, 0, none⟩) l l] E)) (.cells (madeCells ZC (l * 4)) E) (w.heap.size + 1 + 1) (by simp)
    exact h2.trans (by simpa using this)
  · have := hm.drew
    simp only [World.size_alloc] at this
    exact this
  · exact (((Below.refl _ _).alloc (by simp) _).alloc (by simp) _).drew

/-- 'm.Kids[i] = x'. -/
theorem InvSt.store (h : InvSt w wx E k n s A l c k' gm gr L) {i : Nat} (hi : i < L.length) {t : T} {k1 n1 : Int} {s1 : ByteArray} {A1 : Option Addr} {l1 c1 : Nat}
    (ht : NV wx (fun b => (w.heap.size + 2 ≤ b ∧ b ≠ gm) ∧ some b ≠ some gr) t (nv k1 n1 s1 A1 l1 c1)) :
    InvSt w ((((wx.setCell ⟨gr, i * 4, none⟩ (.int .u8 k1)).setCell ⟨gr, i * 4 + 1, none⟩ (.int .i64 n1)).setCell ⟨gr, i * 4 + 2, none⟩ (.string s1)).setCell ⟨gr, i * 4 + 3, none⟩ (.slice A1 l1 c1)) E k n s A l c k' gm gr (L.set i t) := by
  have hg := h.grlo
  refine ⟨?_, h.own.set4 hi ht, h.lo, h.ne, (((h.low.setCell hg.1 _).setCell hg.1 _).setCell hg.1 _).setCell hg.1 _⟩
  rw [Below.heap_setCell _ _ _ _ h.ne, Below.heap_setCell _ _ _ _ h.ne, Below.heap_setCell _ _ _ _ h.ne, Below.heap_setCell _ _ _ _ h.ne]
  exact h.box
/-- Only the row has turned. -/
theorem InvSt.rowed (h : InvSt w wx E k n s A l c k' gm gr L) {L' : List T} (ho : OwnN w' (w.heap.size + 2) E (fun b => w.heap.size + 2 ≤ b ∧ b ≠ gm) (.slice (some ⟨gr, 0, none⟩) l l) L') (hg : wx.grownBy w' (some gr)) : InvSt w w' E k n s A l c k' gm gr L' :=
  ⟨(hg.block gm (blk_lt h.box) (fun e => h.ne (by injection e))).trans h.box, ho, h.lo, h.ne, h.low.grown hg h.size (fun g e => by injection e with e; rw [← e]; exact h.grlo.1)⟩
/-- 'm.Kind = x'. -/
theorem InvSt.kind (h : InvSt w wx E k n s A l c k' gm gr L) (k2 : Int) : InvSt w (wx.setCell ⟨gm, 0, none⟩ (.int .u8 k2)) E k n s A l c k2 gm gr L := by
  refine ⟨?_, h.own.grown (row := some gm) (only_set (only_refl _ _) rfl _) (fun g e => ?_), h.lo, h.ne, h.low.setCell h.lo _⟩
  · have := heap_setCell_same wx gm 0 _ E (.int .u8 k2) h.box
    simpa using this
  · injection e with e
    subst e
    exact ⟨fun hh => hh.2 rfl, by simp [Value.ownBlock]; exact fun e => h.ne e.symm⟩
/-- What is handed back. -/
theorem InvSt.result (h : InvSt w wx E k n s A l c k' gm gr L) (hf : Fld k' n s) :
    NV ((((wx.setCell ⟨w.heap.size + 1, 0, none⟩ (.int .u8 k')).setCell ⟨w.heap.size + 1, 1, none⟩ (.int .i64 n)).setCell ⟨w.heap.size + 1, 2, none⟩ (.string s)).setCell ⟨w.heap.size + 1, 3, none⟩ (.slice (some ⟨gr, 0, none⟩) l l)) (From w.heap.size) (.nd k' n s L) (nv k' n s (some ⟨gr, 0, none⟩) l l) ∧
    Below w.heap.size w ((((wx.setCell ⟨w.heap.size + 1, 0, none⟩ (.int .u8 k')).setCell ⟨w.heap.size + 1, 1, none⟩ (.int .i64 n)).setCell ⟨w.heap.size + 1, 2, none⟩ (.string s)).setCell ⟨w.heap.size + 1, 3, none⟩ (.slice (some ⟨gr, 0, none⟩) l l)) := by
  obtain ⟨A2, c2, e, hc, hr, _⟩ := h.own.row
  injection e with e1 e2 e3
  subst e1 e3
  have hlo := h.lo
  refine ⟨?_, (((h.below.setCell (by simp) _).setCell (by simp) _).setCell (by simp) _).setCell (by simp) _⟩
  rw [e2]
  refine NV.shut hf h.own.lk (by omega) (hr.keep (fun b hb _ => ?_) fun b hb _ => ?_)
  · rcases hb with hb | hb
    · exact Nat.le_trans (by omega) hb.1
    · have := (h.own.block b hb).1; exact Nat.le_trans (by omega) this
  · have hb' : w.heap.size + 2 ≤ b := by
      rcases hb with hb | hb
      · exact hb.1
      · exact (h.own.block b hb).1
    rw [Below.heap_setCell _ _ _ _ (by simp; omega), Below.heap_setCell _ _ _ _ (by simp; omega), Below.heap_setCell _ _ _ _ (by simp; omega), Below.heap_setCell _ _ _ _ (by simp; omega)]
end

/-- What the row holds after j rounds. -/
def fillTo (f : T → T) (ks : List T) (j : Nat) : List T := (ks.take j).map f ++ List.replicate (ks.length - j) zeroT
theorem fillTo_zero (f : T → T) (ks : List T) : fillTo f ks 0 = List.replicate ks.length zeroT := by simp [fillTo]
theorem fillTo_all (f : T → T) (ks : List T) : fillTo f ks ks.length = ks.map f := by simp [fillTo]
theorem fillTo_len (f : T → T) (ks : List T) (j : Nat) (h : j ≤ ks.length) : (fillTo f ks j).length = ks.length := by simp [fillTo]; omega
theorem fillTo_set (f : T → T) (ks : List T) (j : Nat) (h : j < ks.length) : (fillTo f ks j).set j (f ks[j]) = fillTo f ks (j + 1) := by
  unfold fillTo
  have hl : ((ks.take j).map f).length = j := by simp; omega
  rw [List.set_append_right _ _ (by omega), hl, Nat.sub_self, List.take_succ_eq_append_getElem h, List.map_append, List.append_assoc]
  congr 1
  obtain ⟨d, hd⟩ : ∃ d, ks.length - j = d + 1 := ⟨ks.length - j - 1, by omega⟩
  rw [hd, show ks.length - (j + 1) = d by omega]
  simp [List.replicate_succ]

theorem nodeInfo : (Try.prog.info? 36).map (fun i => (i.zero, i.size, i.bytes)) = some (some (.agg #[.int .u8 0, .int .i64 0, .string ⟨#[]⟩, .slice none 0 0]), 4, 56) := by kernel_rfl

theorem build1 (u0 u1 u2 u3 : Value) (w : World) : (Instr.buildSlice 34 1 #[(0, .agg #[u0, u1, u2, u3])]).run Try.prog w = .ok (.slice (some ⟨w.heap.size, 0, none⟩) 1 1) (w.alloc (.cells #[u0, u1, u2, u3] 36)) := by kernel_rfl

/-- A call hands back a node that reads as t, in memory of its own. -/
def NewNode (w : World) (t : T) (e : Ending) (w' : World) : Prop := ∃ k n s A l c, e = .returned (nv k n s A l c) ∧ NV w' (From w.heap.size) t (nv k n s A l c) ∧ Below w.heap.size w w'

end Go.Proofs.Ytekjfbnggfbfhaa
