/-
  A program that is being built lies in a box of its own. No program stands here.
-/
import Derived.Test.YtldcjboignbfpaaOwnP
namespace Go.Proofs.Ytldcjboignbfpaa
open Go.RowKit

abbrev ZP : Array Value := #[.slice none 0 0, .slice none 0 0, .int .u8 0, .int .i64 0, .string ⟨#[]⟩, .slice none 0 0]

theorem below_set6 {B : Nat} {a w : World} {g : Nat} (h : Below B a w) (hg : B ≤ g) (u0 u1 u2 u3 u4 u5 : Value) : Below B a ((((((w.setCell ⟨g, 0, none⟩ u0).setCell ⟨g, 1, none⟩ u1).setCell ⟨g, 2, none⟩ u2).setCell ⟨g, 3, none⟩ u3).setCell ⟨g, 4, none⟩ u4).setCell ⟨g, 5, none⟩ u5) :=
  (((((h.setCell (by simpa using hg) _).setCell (by simpa using hg) _).setCell (by simpa using hg) _).setCell (by simpa using hg) _).setCell (by simpa using hg) _).setCell (by simpa using hg) _

/-- Box g holds the new program (variables at A1, procedures v, main block m); ob: the argument's box; below: as w was, with the argument's box and the result's. -/
structure PI (w wx : World) (EG ER : TypeId) (ob : Obj) (S : Nat → Prop) (g : Nat) (A1 : Option Addr) (l1 c1 : Nat) (k n : Int) (s : ByteArray) (A3 : Option Addr) (l3 c3 : Nat) (v : Value) (vs : List VD) (m : T) (ps : List PR) : Prop where
  low : Below (w.heap.size + 2) ((w.alloc ob).alloc (.cells ZP EG)) wx
  ge : w.heap.size + 2 ≤ g
  box : wx.heap[g]? = some (.cells #[.slice A1 l1 c1, v, .int .u8 k, .int .i64 n, .string s, .slice A3 l3 c3] EG (0, 0))
  own : OwnP wx (w.heap.size + 2) ER S v ps
  ne : v.ownBlock ≠ some g
  vars : RowV wx (fun b => S b ∧ some b ≠ v.ownBlock) A1 vs
  main : NV wx (fun b => S b ∧ some b ≠ v.ownBlock) m (nv k n s A3 l3 c3)
  far : ∀ b, S b → b < w.heap.size ∨ (w.heap.size + 2 ≤ b ∧ b ≠ g)

section
variable {w wx w' : World} {EG ER : TypeId} {ob : Obj} {S : Nat → Prop} {g : Nat} {A1 : Option Addr} {l1 c1 : Nat} {k n : Int} {s : ByteArray} {A3 : Option Addr} {l3 c3 : Nat} {v v' : Value} {vs : List VD} {m : T} {ps ps' : List PR}

theorem PI.size (h : PI w wx EG ER ob S g A1 l1 c1 k n s A3 l3 c3 v vs m ps) : w.heap.size + 2 ≤ wx.heap.size := by have := h.low.size; simpa using this
theorem PI.below (h : PI w wx EG ER ob S g A1 l1 c1 k n s A3 l3 c3 v vs m ps) : Below w.heap.size w wx := (((Below.refl _ _).alloc (Nat.le_refl _) _).alloc (by simp) _).trans (h.low.mono (by omega))
theorem PI.later (h : PI w wx EG ER ob S g A1 l1 c1 k n s A3 l3 c3 v vs m ps) (hb : Below wx.heap.size wx w') : PI w w' EG ER ob S g A1 l1 c1 k n s A3 l3 c3 v vs m ps :=
  ⟨h.low.trans (hb.mono (by simpa using h.size)), h.ge, (hb.block _ (blk_lt h.box)).trans h.box, h.own.later hb, h.ne, h.vars.later hb, h.main.later hb, h.far⟩
theorem PI.res (h : PI w wx EG ER ob S g A1 l1 c1 k n s A3 l3 c3 v vs m ps) : wx.heap[w.heap.size + 1]? = some (.cells ZP EG (0, 0)) := by
  rw [h.low.block _ (by omega)]
  have := heap_alloc_new (w.alloc ob) (.cells ZP EG)
  simpa using this
theorem PI.arg {cs : Array Value} (h : PI w wx EG ER (.cells cs EG) S g A1 l1 c1 k n s A3 l3 c3 v vs m ps) : wx.heap[w.heap.size]? = some (.cells cs EG (0, 0)) := by
  rw [h.low.block _ (by omega), Below.heap_alloc _ _ _ (by simp)]; exact heap_alloc_new w _
/-- The procedures' slice is set. -/
theorem PI.put (h : PI w wx EG ER ob S g A1 l1 c1 k n s A3 l3 c3 v vs m ps) (ho : OwnP w' (w.heap.size + 2) ER S v' ps') (hg : wx.grownBy w' v.ownBlock) (hne : v'.ownBlock ≠ some g) (hob : v'.ownBlock = v.ownBlock ∨ ∃ b, v'.ownBlock = some b ∧ wx.heap.size ≤ b) :
    PI w (w'.setCell ⟨g, 1, none⟩ v') EG ER ob S g A1 l1 c1 k n s A3 l3 c3 v' vs m ps' := by
  have hrow : ∀ b, v.ownBlock = some b → w.heap.size + 2 ≤ b := fun b e => (h.own.block b e).1
  have hbx : w'.heap[g]? = some (.cells #[.slice A1 l1 c1, v, .int .u8 k, .int .i64 n, .string s, .slice A3 l3 c3] EG (0, 0)) := (hg.block _ (blk_lt h.box) (fun e => h.ne e.symm)).trans h.box
  have hS : ∀ b, S b ∧ some b ≠ v.ownBlock → b < wx.heap.size → S b ∧ some b ≠ v'.ownBlock := fun b hb hlt => ⟨hb.1, fun e => by
    rcases hob with h1 | ⟨b', h1, h2⟩
    · rw [h1] at e; exact hb.2 e
    · rw [h1] at e; injection e with e; omega⟩
  have hK : ∀ b, S b ∧ some b ≠ v.ownBlock → b < wx.heap.size → (w'.setCell ⟨g, 1, none⟩ v').heap[b]? = wx.heap[b]? := fun b hb hlt => by
    have hbg : b ≠ g := by have h1 := h.far b hb.1; have h2 := h.ge; omega
    rw [Below.heap_setCell _ _ _ _ (by simpa using hbg)]
    exact hg.block b hlt hb.2
  refine ⟨(h.low.grown hg (by have := h.size; omega) (fun b e => by have := hrow b e; omega)).setCell (by simpa using h.ge) _, h.ge, ?_, ho.grown (row := some g) (only_set (only_refl _ _) rfl _) (fun b e => ?_), hne, h.vars.keep hS hK, h.main.keep hS hK, h.far⟩
  · have := heap_setCell_same w' g 1 _ EG v' hbx
    simpa using this
  · injection e with e
    subst e
    refine ⟨fun hh => ?_, hne⟩
    have h1 := h.far _ hh
    have h2 := h.ge
    omega
/-- What is handed back. -/
theorem PI.result (h : PI w wx EG ER ob S g A1 l1 c1 k n s A3 l3 c3 v vs m ps) {A2 : Option Addr} {l2 c2 : Nat} (hv : v = .slice A2 l2 c2) (hl1 : l1 = vs.length) (hlv : vs.length ≤ LV) (hlc : vs.length ≤ c1) (S' : Nat → Prop) (hS : ∀ b, S b → S' b) (hS2 : ∀ b, w.heap.size + 2 ≤ b → S' b) :
    PV ((((((wx.setCell ⟨w.heap.size + 1, 0, none⟩ (.slice A1 l1 c1)).setCell ⟨w.heap.size + 1, 1, none⟩ (.slice A2 l2 c2)).setCell ⟨w.heap.size + 1, 2, none⟩ (.int .u8 k)).setCell ⟨w.heap.size + 1, 3, none⟩ (.int .i64 n)).setCell ⟨w.heap.size + 1, 4, none⟩ (.string s)).setCell ⟨w.heap.size + 1, 5, none⟩ (.slice A3 l3 c3)) S' ⟨vs, ps, m⟩ (pv A1 l1 c1 A2 l2 c2 k n s A3 l3 c3) ∧ Below w.heap.size w ((((((wx.setCell ⟨w.heap.size + 1, 0, none⟩ (.slice A1 l1 c1)).setCell ⟨w.heap.size + 1, 1, none⟩ (.slice A2 l2 c2)).setCell ⟨w.heap.size + 1, 2, none⟩ (.int .u8 k)).setCell ⟨w.heap.size + 1, 3, none⟩ (.int .i64 n)).setCell ⟨w.heap.size + 1, 4, none⟩ (.string s)).setCell ⟨w.heap.size + 1, 5, none⟩ (.slice A3 l3 c3)) := by
  obtain ⟨A2', c2', e, hc, hr⟩ := h.own.row
  rw [hv] at e
  injection e with e1 e2 e3
  subst e1 e3
  have hkb : ∀ b, b < w.heap.size ∨ w.heap.size + 2 ≤ b → ((((((wx.setCell ⟨w.heap.size + 1, 0, none⟩ (.slice A1 l1 c1)).setCell ⟨w.heap.size + 1, 1, none⟩ (.slice A2 l2 c2)).setCell ⟨w.heap.size + 1, 2, none⟩ (.int .u8 k)).setCell ⟨w.heap.size + 1, 3, none⟩ (.int .i64 n)).setCell ⟨w.heap.size + 1, 4, none⟩ (.string s)).setCell ⟨w.heap.size + 1, 5, none⟩ (.slice A3 l3 c3)).heap[b]? = wx.heap[b]? := fun b hb => by
    rw [Below.heap_setCell _ _ _ _ (by simp; omega), Below.heap_setCell _ _ _ _ (by simp; omega), Below.heap_setCell _ _ _ _ (by simp; omega), Below.heap_setCell _ _ _ _ (by simp; omega), Below.heap_setCell _ _ _ _ (by simp; omega), Below.heap_setCell _ _ _ _ (by simp; omega)]
  have hfar : ∀ b, S b → b < w.heap.size ∨ w.heap.size + 2 ≤ b := fun b hb => by have := h.far b hb; omega
  refine ⟨?_, (((((h.below.setCell (by simp) _).setCell (by simp) _).setCell (by simp) _).setCell (by simp) _).setCell (by simp) _).setCell (by simp) _⟩
  have hm := h.main.keep (S' := S') (fun b hb _ => hS b hb.1) (fun b hb _ => hkb b (hfar b hb.1))
  obtain ⟨A4, c4, e4, _⟩ := hm.open_
  simp only [nv, Value.agg.injEq, Array.mk.injEq, List.cons.injEq, Value.int.injEq, Value.string.injEq, Value.slice.injEq, true_and, and_true] at e4
  obtain ⟨rfl, rfl, rfl, rfl, rfl, rfl⟩ := e4
  subst hl1
  refine ⟨A1, c1, A2, c2, A3, c3, by rw [e2], h.vars.keep (fun b hb _ => hS b hb.1) (fun b hb _ => hkb b (hfar b hb.1)), hlv, hlc, hr.keep (fun b hb _ => ?_) (fun b hb _ => hkb b ?_), by have := h.own.len; unfold LV; simp only; omega, hc, hm⟩
  · rcases hb with hb | hb
    · exact hS b hb
    · exact hS2 b (h.own.block b hb).1
  · rcases hb with hb | hb
    · exact hfar b hb
    · exact .inr (h.own.block b hb).1
/-- The box is laid last, filled. -/
theorem PI.start_last {S0 : Nat → Prop} {W1 : World} (hW : (w.alloc ob).alloc (.cells ZP EG) = W1) (hb : Below W1.heap.size W1 wx) (hS0 : ∀ b, S0 b → b < w.heap.size) (hvs : RowV wx S0 A1 vs) (hm : NV wx (fun b => S0 b ∨ W1.heap.size ≤ b) m (nv k n s A3 l3 c3)) :
    PI w (wx.alloc (.cells #[.slice A1 l1 c1, .slice none 0 0, .int .u8 k, .int .i64 n, .string s, .slice A3 l3 c3] EG)) EG ER ob (fun b => S0 b ∨ (w.heap.size + 2 ≤ b ∧ b ≠ wx.heap.size)) wx.heap.size A1 l1 c1 k n s A3 l3 c3 (.slice none 0 0) vs m [] := by
  subst hW
  have hz : w.heap.size + 2 ≤ wx.heap.size := by have := hb.size; simpa using this
  have ha := (Below.refl wx.heap.size wx).alloc (Nat.le_refl _) (.cells #[.slice A1 l1 c1, .slice none 0 0, .int .u8 k, .int .i64 n, .string s, .slice A3 l3 c3] EG)
  refine ⟨(hb.mono (by simp)).trans (ha.mono (by simpa using hz)), hz, heap_alloc_new wx _, OwnP.nil _ _ _ _, by simp [Value.ownBlock], hvs.keep (fun b hb _ => ⟨.inl hb, by simp [Value.ownBlock]⟩) (fun b _ hlt => ha.block b hlt), hm.keep (fun b hb hlt => ⟨?_, by simp [Value.ownBlock]⟩) (fun b _ hlt => ha.block b hlt), fun b hb => ?_⟩
  · rcases hb with hb | hb
    · exact .inl hb
    · exact .inr ⟨by simpa using hb, by omega⟩
  · rcases hb with hb | hb
    · exact .inl (hS0 b hb)
    · exact .inr hb
/-- The box was laid before the call; it is filled behind it. -/
theorem PI.start_first {S0 : Nat → Prop} {W1 : World} (hW : (w.alloc ob).alloc (.cells ZP EG) = W1) (hg : g = W1.heap.size) (hb : Below (W1.heap.size + 1) (W1.alloc (.cells ZP EG)) wx) (hS0 : ∀ b, S0 b → b < w.heap.size) (hvs : RowV wx S0 A1 vs) (hm : NV wx (fun b => S0 b ∨ W1.heap.size + 1 ≤ b) m (nv k n s A3 l3 c3)) :
    PI w ((((((wx.setCell ⟨g, 0, none⟩ (.slice A1 l1 c1)).setCell ⟨g, 1, none⟩ (.slice none 0 0)).setCell ⟨g, 2, none⟩ (.int .u8 k)).setCell ⟨g, 3, none⟩ (.int .i64 n)).setCell ⟨g, 4, none⟩ (.string s)).setCell ⟨g, 5, none⟩ (.slice A3 l3 c3)) EG ER ob (fun b => S0 b ∨ (w.heap.size + 2 ≤ b ∧ b ≠ g)) g A1 l1 c1 k n s A3 l3 c3 (.slice none 0 0) vs m [] := by
  subst hW
  have hg' : g = w.heap.size + 2 := by rw [hg]; simp
  have hbx : wx.heap[g]? = some (.cells ZP EG (0, 0)) := by
    rw [hb.block g (by rw [hg]; omega), hg]
    exact heap_alloc_new _ _
  have hlow : Below (w.heap.size + 2) ((w.alloc ob).alloc (.cells ZP EG)) wx := ((Below.refl _ _).alloc (by simp) _).trans (hb.mono (by simp))
  have hkb : ∀ b, b ≠ g → ((((((wx.setCell ⟨g, 0, none⟩ (.slice A1 l1 c1)).setCell ⟨g, 1, none⟩ (.slice none 0 0)).setCell ⟨g, 2, none⟩ (.int .u8 k)).setCell ⟨g, 3, none⟩ (.int .i64 n)).setCell ⟨g, 4, none⟩ (.string s)).setCell ⟨g, 5, none⟩ (.slice A3 l3 c3)).heap[b]? = wx.heap[b]? := fun b hb => by
    rw [Below.heap_setCell _ _ _ _ (by simpa using hb), Below.heap_setCell _ _ _ _ (by simpa using hb), Below.heap_setCell _ _ _ _ (by simpa using hb), Below.heap_setCell _ _ _ _ (by simpa using hb), Below.heap_setCell _ _ _ _ (by simpa using hb), Below.heap_setCell _ _ _ _ (by simpa using hb)]
  have hge : w.heap.size + 2 ≤ g := by omega
  refine ⟨(((((hlow.setCell (by simpa using hge) _).setCell (by simpa using hge) _).setCell (by simpa using hge) _).setCell (by simpa using hge) _).setCell (by simpa using hge) _).setCell (by simpa using hge) _, hge, ?_, OwnP.nil _ _ _ _, by simp [Value.ownBlock],
    hvs.keep (fun b hb _ => ⟨.inl hb, by simp [Value.ownBlock]⟩) (fun b hb _ => hkb b (by have := hS0 b hb; omega)), hm.keep (fun b hb _ => ⟨?_, by simp [Value.ownBlock]⟩) (fun b hb _ => hkb b ?_), fun b hb => ?_⟩
  · have h0 := heap_setCell_same wx g 0 _ EG (.slice A1 l1 c1) hbx
    have h1 := heap_setCell_same _ g 1 _ EG (.slice none 0 0) h0
    have h2 := heap_setCell_same _ g 2 _ EG (.int .u8 k) h1
    have h3 := heap_setCell_same _ g 3 _ EG (.int .i64 n) h2
    have h4 := heap_setCell_same _ g 4 _ EG (.string s) h3
    have h5 := heap_setCell_same _ g 5 _ EG (.slice A3 l3 c3) h4
    simpa using h5
  · rcases hb with hb | hb
    · exact .inl hb
    · simp at hb
      exact .inr ⟨by omega, by omega⟩
  · rcases hb with hb | hb
    · have := hS0 b hb; omega
    · simp at hb; omega
  · rcases hb with hb | hb
    · exact .inl (hS0 b hb)
    · exact .inr hb
end

end Go.Proofs.Ytldcjboignbfpaa
