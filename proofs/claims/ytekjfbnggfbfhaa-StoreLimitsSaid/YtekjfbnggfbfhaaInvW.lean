/-
  What a call that makes a node out of a node holds in memory as it goes: a box with the new node, a row of the new children.
-/
import Derived.Test.YtekjfbnggfbfhaaInvS
namespace Go.Proofs.Ytekjfbnggfbfhaa
open Go.RowKit

abbrev ZC : Array Value := #[.int .u8 0, .int .i64 0, .string ⟨#[]⟩, .slice none 0 0]
/-- Block gm: the box of the new node; block gr: the row of its children L; below: as w was, with the argument's box and the result's. -/
structure InvSt (w wx : World) (E : TypeId) (k n : Int) (s : ByteArray) (A : Option Addr) (l c : Nat) (k' : Int) (gm gr : Nat) (L : List T) : Prop where
  box : wx.heap[gm]? = some (.cells #[.int .u8 k', .int .i64 n, .string s, .slice (some ⟨gr, 0, none⟩) l l] E (0, 0))
  own : OwnN wx (w.heap.size + 2) E (fun b => w.heap.size + 2 ≤ b ∧ b ≠ gm) (.slice (some ⟨gr, 0, none⟩) l l) L
  lo : w.heap.size + 2 ≤ gm
  ne : gm ≠ gr
  low : Below (w.heap.size + 2) ((w.alloc (.cells #[.int .u8 k, .int .i64 n, .string s, .slice A l c] E)).alloc (.cells ZC E)) wx

section
variable {w wx w' : World} {E : TypeId} {k n : Int} {s : ByteArray} {A : Option Addr} {l c : Nat} {k' : Int} {gm gr : Nat} {L : List T}

theorem cell_of_blk {b i : Nat} {cs : Array Value} {e : TypeId} {f : Nat × Nat} {u : Value} (h : wx.heap[b]? = some (.cells cs e f)) (hu : cs[i]? = some u) : wx.cell? ⟨b, i, none⟩ = some u := by
  simp only [World.cell?, h]; simpa using hu
theorem frozen_of_blk {b i : Nat} {cs : Array Value} {e : TypeId} (h : wx.heap[b]? = some (.cells cs e (0, 0))) : wx.frozen? ⟨b, i, none⟩ = false := by
  simp [World.frozen?, h]
theorem blk_lt {b : Nat} {o : Obj} (h : wx.heap[b]? = some o) : b < wx.heap.size := (Array.getElem?_eq_some_iff.1 h).1

theorem cell_st4 {w1 : World} {g b o p0 p1 p2 p3 : Nat} {u u0 u1 u2 u3 : Value} (hne : b ≠ g) (h : w1.cell? ⟨b, o, none⟩ = some u) :
    ((((w1.setCell ⟨g, p0, none⟩ u0).setCell ⟨g, p1, none⟩ u1).setCell ⟨g, p2, none⟩ u2).setCell ⟨g, p3, none⟩ u3).cell? ⟨b, o, none⟩ = some u := by
  have e : ∀ (W : World) (p : Nat) (x : Value), (W.setCell ⟨g, p, none⟩ x).cell? ⟨b, o, none⟩ = W.cell? ⟨b, o, none⟩ := fun W p x => World.cell?_setCell_other W _ _ x (fun h => hne (by injection h with h; exact h.symm))
  rw [e, e, e, e]; exact h
theorem InvSt.later (h : InvSt w wx E k n s A l c k' gm gr L) (hb : Below wx.heap.size wx w') : InvSt w w' E k n s A l c k' gm gr L :=
  ⟨(hb.block gm (blk_lt h.box)).trans h.box, h.own.later hb, h.lo, h.ne, h.low.trans (hb.mono (by have := h.low.size; simpa using this))⟩
theorem InvSt.arg (h : InvSt w wx E k n s A l c k' gm gr L) : wx.heap[w.heap.size]? = some (.cells #[.int .u8 k, .int .i64 n, .string s, .slice A l c] E (0, 0)) := by
  rw [h.low.block _ (by omega), Below.heap_alloc _ _ _ (by simp)]; exact heap_alloc_new w _
theorem InvSt.res (h : InvSt w wx E k n s A l c k' gm gr L) : wx.heap[w.heap.size + 1]? = some (.cells ZC E (0, 0)) := by
  rw [h.low.block _ (by omega)]
  have := heap_alloc_new (w.alloc (.cells #[.int .u8 k, .int .i64 n, .string s, .slice A l c] E)) (.cells ZC E)
  simpa using this
theorem InvSt.below (h : InvSt w wx E k n s A l c k' gm gr L) : Below w.heap.size w wx := (((Below.refl _ _).alloc (Nat.le_refl _) _).alloc (by simp) _).trans (h.low.mono (by omega))
theorem InvSt.size (h : InvSt w wx E k n s A l c k' gm gr L) : w.heap.size + 2 ≤ wx.heap.size := by have := h.low.size; simpa using this
theorem InvSt.grlo (h : InvSt w wx E k n s A l c k' gm gr L) : w.heap.size + 2 ≤ gr ∧ gr < wx.heap.size := ⟨h.own.len.2.2.1, h.own.len.2.2.2⟩

/-- The two orders in which the box and the row are made. -/
theorem InvSt.start1 (w : World) (E : TypeId) (k n : Int) (s : ByteArray) (A : Option Addr) (l c : Nat) (hl : l ≤ LK) :
    InvSt w (((((w.alloc (.cells #[.int .u8 k, .int .i64 n, .string s, .slice A l c] E)).alloc (.cells ZC E)).alloc (.cells (madeCells ZC (l * 4)) E)).alloc (.cells #[.int .u8 k, .int .i64 n, .string s, .slice (some ⟨w.heap.size + 1 + 1, 0, none⟩) l l] E)).drew) E k n s A l c k (w.heap.size + 1 + 1 + 1) (w.heap.size + 1 + 1) (List.replicate l zeroT) := by
  have hm := own_made ((w.alloc (.cells #[.int .u8 k, .int .i64 n, .string s, .slice A l c] E)).alloc (.cells ZC E)) (w.heap.size + 2) E (fun b => w.heap.size + 2 ≤ b ∧ b ≠ w.heap.size + 1 + 1 + 1) l (by simp) hl
  refine ⟨?_, ?_, by omega, by omega, ?_⟩
  · have := heap_alloc_new (((w.alloc (.cells #[.int .u8 k, .int .i64 n, .string s, .slice A l c] E)).alloc (.cells ZC E)).alloc (.cells (madeCells ZC (l * 4)) E)) (.cells #[.int .u8 k, .int .i64 n, .string s, .slice (some ⟨w.heap.size + 1 + 1, 0, none⟩) l l] E)
    simp only [World.size_alloc] at this
    exact this
  · have := (hm.later ((Below.refl _ _).alloc (Nat.le_refl _) (.cells #[.int .u8 k, .int .i64 n, .string s, .slice (some ⟨w.heap.size + 1 + 1, 0, none⟩) l l] E))).drew
    simp only [World.size_alloc] at this
    exact this
  · exact (((Below.refl _ _).alloc (by simp) _).alloc (by simp) _).drew
theorem InvSt.start2 (w : World) (E : TypeId) (k n : Int) (s : ByteArray) (A : Option Addr) (l c : Nat) (hl : l ≤ LK) :
    InvSt w (((((w.alloc (.cells #[.int .u8 k, .int .i64 n, .string s, .slice A l c] E)).alloc (.cells ZC E)).alloc (.cells #[.int .u8 k, .int .i64 n, .string s, .slice (some ⟨w.heap.size + 1 + 1 + 1, 0, none⟩) l l] E)).alloc (.cells (madeCells ZC (l * 4)) E)).drew) E k n s A l c k (w.heap.size + 1 + 1) (w.heap.size + 1 + 1 + 1) (List.replicate l zeroT) := by
  have hm := own_made (((w.alloc (.cells #[.int .u8 k, .int .i64 n, .string s, .slice A l c] E)).alloc (.cells ZC E)).alloc (.cells #[.int .u8 k, .int .i64 n, .string s, .slice (some ⟨w.heap.size + 1 + 1 + 1, 0, none⟩) l l] E)) (w.heap.size + 2) E (fun b => w.heap.size + 2 ≤ b ∧ b ≠ w.heap.size + 1 + 1) l (by simp) hl
  refine ⟨?_, ?_, by omega, by omega, ?_⟩
  · have := heap_alloc_new ((w.alloc (.cells #[.int .u8 k, .int .i64 n, .string s, .slice A l c] E)).alloc (.cells ZC E)) (.cells #[.int .u8 k, .int .i64 n, .string s, .slice (some ⟨w.heap.size + 1 + 1 + 1, 0, none⟩) l l] E)
    have h2 := Below.heap_alloc (((w.alloc (.cells #[.int .u8 k, .int .i64 n, .string s, .slice A l c] E)).alloc (.cells ZC E)).alloc (.cells #[.int .u8 k, .int .i64 n, .string s, .slice (some ⟨w.heap.size + 1 + 1 + 1, 0, none⟩) l l] E)) (.cells (madeCells ZC (l * 4)) E) (w.heap.size + 1 + 1) (by simp)
    exact h2.trans (by simpa using this)
  · have := hm.drew
    simp only [World.size_alloc] at this
    exact this
  · exact (((Below.refl _ _).alloc (by simp) _).alloc (by simp) _).drew

/-- 'm.Kids[i] = x'. -/
theorem InvSt.store (h : InvSt w wx E k n s A l c k' gm gr L) {i : Nat} (hi : i < L.length) {t : T} {k1 n1 : Int} {s1 : ByteArray} {A1 : Option Addr} {l1 c1 : Nat}
    (ht : NV wx (fun b => (w.heap.size + 2 ≤ b ∧ b ≠ gm) ∧ some b ≠ some gr) t (nv k1 n1 s1 A1 l1 c1)) :
    InvSt w ((((wx.setCell ⟨gr, i * 4, none⟩ (.int .u8 k1)).setCell ⟨gr, i * 4 + 1, none⟩ (.int .i64 n1)).setCell ⟨gr, i * 4 + 2, none⟩ (.string s1)).setCell ⟨gr, i * 4 + 3, none⟩ (.slice A1 l1 c1)) E k n s A l c k' gm gr (L.set i t) := by
  have hg := h.grlo
  refine ⟨?_, h.own.set4 hi ht, h.lo, h.ne, (((h.low.setCell hg.1 _).setCell hg.1 _).setCell hg.1 _).setCell hg.1 _⟩
  rw [Below.heap_setCell _ _ _ _ h.ne, Below.heap_setCell _ _ _ _ h.ne, Below.heap_setCell _ _ _ _ h.ne, Below.heap_setCell _ _ _ _ h.ne]
  exact h.box
/-- Only the row has turned. -/
theorem InvSt.rowed (h : InvSt w wx E k n s A l c k' gm gr L) {L' : List T} (ho : OwnN w' (w.heap.size + 2) E (fun b => w.heap.size + 2 ≤ b ∧ b ≠ gm) (.slice (some ⟨gr, 0, none⟩) l l) L') (hg : wx.grownBy w' (some gr)) : InvSt w w' E k n s A l c k' gm gr L' :=
  ⟨(hg.block gm (blk_lt h.box) (fun e => h.ne (by injection e))).trans h.box, ho, h.lo, h.ne, h.low.grown hg h.size (fun g e => by injection e with e; rw [← e]; exact h.grlo.1)⟩
/-- 'm.Kind = x'. -/
theorem InvSt.kind (h : InvSt w wx E k n s A l c k' gm gr L) (k2 : Int) : InvSt w (wx.setCell ⟨gm, 0, none⟩ (.int .u8 k2)) E k n s A l c k2 gm gr L := by
  refine ⟨?_, h.own.grown (row := some gm) (only_set (only_refl _ _) rfl _) (fun g e => ?_), h.lo, h.ne, h.low.setCell h.lo _⟩
  · have := heap_setCell_same wx gm 0 _ E (.int .u8 k2) h.box
    simpa using this
  · injection e with e
    subst e
    exact ⟨fun hh => hh.2 rfl, by simp [Value.ownBlock]; exact fun e => h.ne e.symm⟩
/-- What is handed back. -/
theorem InvSt.result (h : InvSt w wx E k n s A l c k' gm gr L) (hf : Fld k' n s) :
    NV ((((wx.setCell ⟨w.heap.size + 1, 0, none⟩ (.int .u8 k')).setCell ⟨w.heap.size + 1, 1, none⟩ (.int .i64 n)).setCell ⟨w.heap.size + 1, 2, none⟩ (.string s)).setCell ⟨w.heap.size + 1, 3, none⟩ (.slice (some ⟨gr, 0, none⟩) l l)) (From w.heap.size) (.nd k' n s L) (nv k' n s (some ⟨gr, 0, none⟩) l l) ∧
    Below w.heap.size w ((((wx.setCell ⟨w.heap.size + 1, 0, none⟩ (.int .u8 k')).setCell ⟨w.heap.size + 1, 1, none⟩ (.int .i64 n)).setCell ⟨w.heap.size + 1, 2, none⟩ (.string s)).setCell ⟨w.heap.size + 1, 3, none⟩ (.slice (some ⟨gr, 0, none⟩) l l)) := by
  obtain ⟨A2, c2, e, hc, hr, _⟩ := h.own.row
  injection e with e1 e2 e3
  subst e1 e3
  have hlo := h.lo
  refine ⟨?_, (((h.below.setCell (by simp) _).setCell (by simp) _).setCell (by simp) _).setCell (by simp) _⟩
  rw [e2]
  refine NV.shut hf h.own.lk (by omega) (hr.keep (fun b hb _ => ?_) fun b hb _ => ?_)
  · rcases hb with hb | hb
    · exact Nat.le_trans (by omega) hb.1
    · have := (h.own.block b hb).1; exact Nat.le_trans (by omega) this
  · have hb' : w.heap.size + 2 ≤ b := by
      rcases hb with hb | hb
      · exact hb.1
      · exact (h.own.block b hb).1
    rw [Below.heap_setCell _ _ _ _ (by simp; omega), Below.heap_setCell _ _ _ _ (by simp; omega), Below.heap_setCell _ _ _ _ (by simp; omega), Below.heap_setCell _ _ _ _ (by simp; omega)]
end

/-- What the row holds after j rounds. -/
def fillTo (f : T → T) (ks : List T) (j : Nat) : List T := (ks.take j).map f ++ List.replicate (ks.length - j) zeroT
theorem fillTo_zero (f : T → T) (ks : List T) : fillTo f ks 0 = List.replicate ks.length zeroT := by simp [fillTo]
theorem fillTo_all (f : T → T) (ks : List T) : fillTo f ks ks.length = ks.map f := by simp [fillTo]
theorem fillTo_len (f : T → T) (ks : List T) (j : Nat) (h : j ≤ ks.length) : (fillTo f ks j).length = ks.length := by simp [fillTo]; omega
theorem fillTo_set (f : T → T) (ks : List T) (j : Nat) (h : j < ks.length) : (fillTo f ks j).set j (f ks[j]) = fillTo f ks (j + 1) := by
  unfold fillTo
  have hl : ((ks.take j).map f).length = j := by simp; omega
  rw [List.set_append_right _ _ (by omega), hl, Nat.sub_self, List.take_succ_eq_append_getElem h, List.map_append, List.append_assoc]
  congr 1
  obtain ⟨d, hd⟩ : ∃ d, ks.length - j = d + 1 := ⟨ks.length - j - 1, by omega⟩
  rw [hd, show ks.length - (j + 1) = d by omega]
  simp [List.replicate_succ]

theorem nodeInfo : (Try.prog.info? 36).map (fun i => (i.zero, i.size, i.bytes)) = some (some (.agg #[.int .u8 0, .int .i64 0, .string ⟨#[]⟩, .slice none 0 0]), 4, 56) := by kernel_rfl

theorem build1 (u0 u1 u2 u3 : Value) (w : World) : (Instr.buildSlice 34 1 #[(0, .agg #[u0, u1, u2, u3])]).run Try.prog w = .ok (.slice (some ⟨w.heap.size, 0, none⟩) 1 1) (w.alloc (.cells #[u0, u1, u2, u3] 36)) := by kernel_rfl

/-- A call hands back a node that reads as t, in memory of its own. -/
def NewNode (w : World) (t : T) (e : Ending) (w' : World) : Prop := ∃ k n s A l c, e = .returned (nv k n s A l c) ∧ NV w' (From w.heap.size) t (nv k n s A l c) ∧ Below w.heap.size w w'

end Go.Proofs.Ytekjfbnggfbfhaa
