/-
  Texts of the proof, put together without their remarks: Gf, Rcp, Scl, Nz, Ib, Fw.
-/
import Derived.Test.YtgnfpcebmefhoaaGreatY10
set_option linter.unusedSimpArgs false
set_option linter.unusedVariables false
namespace Go.Proofs.YtgnfpcebmefhoaaGreat
open Go Go.RowKit
theorem prcI_eq : ∀ (prs : List PR) (s : ByteArray), prcI prs s = idxP prs s
 | [], _ => rfl
 | q :: qs, s => by
  unfold prcI
  rw [prcI_eq qs s]
  unfold idxP
  rw [List.findIdx?_cons]
def CalB (prs : List PR) (t : T) : Prop := ∀ u ∈ po t, (u.k = 50 ∨ u.k = 51) → ∃ i, prcI prs u.s = some i
theorem isE_poE : ∀ (t : T), isE t = true → ∀ x ∈ po t, isE x = true := by
 intro t
 induction t using T.ind with
 | _ k n s ks ih =>
  intro h x hx
  simp only [po, List.mem_cons] at hx
  rcases hx with rfl | hx
  ·exact h
  ·obtain ⟨t, ht, hx⟩ := mem_pos.1 hx
   exact ih t ht (isE_kids h t ht) x hx
theorem CalB.expr {prs : List PR} {t : T} (h : isE t = true) : CalB prs t := fun u hu hk => by
 have := isE_k u (isE_poE t h u hu)
 omega
theorem CalB.kid {prs : List PR} {k n : Int} {s : ByteArray} {ks : List T} (h : CalB prs (.nd k n s ks)) {t : T} (ht : t ∈ ks) : CalB prs t := fun u hu => h u (by simp only [po, List.mem_cons]; exact .inr (mem_pos.2 ⟨t, ht, hu⟩))
theorem cntK_zero {prs : List PR} {k : Int} {s : ByteArray} {vs : List VD} : ∀ {ks : List T} {i : Nat}, cntK prs k s i ks vs = 0 → ∀ t ∈ ks, ∃ vs', cntV prs t vs' = 0
 | [], _, _, t, ht => by cases ht
 | u :: us, i, h, t, ht => by
  rw [cntK] at h
  obtain ⟨h1, h2⟩ := Nat.add_eq_zero_iff.1 h
  rcases List.mem_cons.1 ht with rfl | ht
  ·exact ⟨_, h1⟩
  ·exact cntK_zero h2 t ht
theorem one1_zero {e : Int} (h : one1 e = 0) : e = 0 := by
 unfold one1 at h
 split at h
 ·assumption
 ·omega
theorem cal_of : ∀ (t : T) (prs : List PR) (vs : List VD), (isS t = true ∨ isB t = true ∨ isE t = true) → cntV prs t vs = 0 → CalB prs t := by
 intro t
 induction t using T.ind with
 | _ k n s ks ih =>
  intro prs vs ht h
  rcases ht with hs | hb | he
  ·rw [cntV] at h
   intro u hu hk
   simp only [po, List.mem_cons] at hu
   by_cases hc : k = 50 ∨ k = 51
   ·rcases hu with rfl | hu
    ·have h0 := one1_zero (e := faultE prs k s ks.length vs) (by omega)
     unfold faultE at h0
     rw [if_neg (by omega), if_neg (by omega), if_neg (by omega), if_neg (by omega), if_pos hc] at h0
     rw [prcI_eq]
     cases hi : idxP prs s with
     | none => rw [hi] at h0; simp at h0
     | some i => exact ⟨i, hi⟩
    ·obtain ⟨t, ht, hx⟩ := mem_pos.1 hu
     have h57 : t.k ≠ 57 := by
      rcases isS_cases hs with ⟨_, h1⟩ | ⟨h1, _⟩ | ⟨h1, _⟩ | ⟨h1, _⟩
      ·exact h1 t ht
      all_goals omega
     rcases (isS_EB hs).2 t ht with h1 | h1
     ·exact CalB.expr h1 u hx hk
     ·exact absurd (isB_k h1) h57
   ·rw [if_neg hc] at h
    rcases hu with rfl | hu
    ·exact absurd hk hc
    ·obtain ⟨t, ht, hx⟩ := mem_pos.1 hu
     obtain ⟨vs', hv⟩ := cntK_zero (Nat.add_eq_zero_iff.1 h).2 t ht
     rcases (isS_EB hs).2 t ht with h1 | h1
     ·exact CalB.expr h1 u hx hk
     ·exact ih t ht prs vs' (.inr (.inl h1)) hv u hx hk
  ·obtain ⟨h57, hks⟩ := isB_kids _ _ _ _ hb
   rw [cntV, if_neg (by omega)] at h
   intro u hu hk
   simp only [po, List.mem_cons] at hu
   rcases hu with rfl | hu
   ·simp only [T.k_nd] at hk; omega
   ·obtain ⟨t, ht, hx⟩ := mem_pos.1 hu
    obtain ⟨vs', hv⟩ := cntK_zero (Nat.add_eq_zero_iff.1 h).2 t ht
    exact ih t ht prs vs' (.inl (hks t ht)) hv u hx hk
  ·exact CalB.expr he
def GP (prs : List PR) (t : T) : Prop := isS t = true ∧ CalB prs t ∧ ∀ q ∈ prs, isB q.b = true ∧ CalB prs q.b
theorem GP.block {prs : List PR} {b : T} (hb : isB b = true) (hc : CalB prs b) (hq : ∀ q ∈ prs, isB q.b = true ∧ CalB prs q.b) : ∀ u ∈ b.ks, GP prs u := by
 obtain ⟨k, n, s, ks⟩ := b
 exact fun u hu => ⟨(isB_kids _ _ _ _ hb).2 u hu, hc.kid hu, hq⟩
theorem GP_GC : GC GP where
 two := fun prs t h hk => by
  obtain ⟨k, n, s, ks⟩ := t
  obtain ⟨hs, hc, hq⟩ := h
  simp only [T.k_nd] at hk
  rcases isS_cases hs with ⟨h1, _⟩ | ⟨_, _, a, b, c, d, rfl, _, hb1, hb2, _⟩ | ⟨h1, _⟩ | ⟨h1, _⟩
  ·omega
  ·exact ⟨rfl, GP.block hb1 (hc.kid (t := b) (by simp)) hq, GP.block hb2 (hc.kid (t := c) (by simp)) hq⟩
  ·omega
  ·omega
 loc := fun prs t h hk => by
  obtain ⟨k, n, s, ks⟩ := t
  obtain ⟨hs, hc, hq⟩ := h
  simp only [T.k_nd] at hk
  rcases isS_cases hs with ⟨h1, _⟩ | ⟨h1, _⟩ | ⟨_, _, a, b, c, rfl, _, hb1, _⟩ | ⟨h1, _⟩
  ·omega
  ·omega
  ·exact ⟨rfl, GP.block hb1 (hc.kid (t := b) (by simp)) hq⟩
  ·omega
 stk := fun prs t h hk => by
  obtain ⟨k, n, s, ks⟩ := t
  obtain ⟨hs, hc, hq⟩ := h
  simp only [T.k_nd] at hk
  rcases isS_cases hs with ⟨h1, _⟩ | ⟨h1, _⟩ | ⟨h1, _⟩ | ⟨_, _, b, rfl, hb1⟩
  ·omega
  ·omega
  ·omega
  ·exact ⟨rfl, GP.block hb1 (hc.kid (t := b) (by simp)) hq⟩
 cal := fun prs t h hk => by
  obtain ⟨hs, hc, hq⟩ := h
  have hm : t ∈ po t := by obtain ⟨k, n, s, ks⟩ := t; simp [po]
  obtain ⟨i, hi⟩ := hc t hm hk
  obtain ⟨-, hl⟩ := prcI_idx _ _ _ hi
  exact ⟨i, prs[i], hi, List.getElem?_eq_getElem hl, GP.block (hq _ (List.getElem_mem hl)).1 (hq _ (List.getElem_mem hl)).2 hq⟩
theorem prcN_zero {ps : List PR} : ∀ {j : Nat}, j ≤ ps.length → prcN ps j = 0 → ∀ i (h : i < ps.length), i < j → prcE ps i ps[i] = 0
 | 0, _, _, i, _, hi => by omega
 | j + 1, hj, h, i, hl, hi => by
  rw [prcN_succ (by omega)] at h
  by_cases e : i = j
  ·subst e; omega
  ·exact prcN_zero (j := j) (by omega) (by omega) i hl (by omega)
theorem valid_isB {p : PG} (h : validB p = true) : isB p.m = true ∧ ∀ r ∈ p.prs, isB r.b = true := by
 simp only [validB, Bool.and_eq_true, decide_eq_true_eq, List.all_eq_true] at h
 refine ⟨?_, fun r hr => ?_⟩
 ·have := h.2
  simp only [isBodyB, Bool.and_eq_true] at this
  exact this.2
 ·have := h.1.2 r hr
  simp only [procB, isBodyB, Bool.and_eq_true] at this
  exact this.2.2
theorem GP_main {p : PG} (hv : validB p = true) (hc : chkN p = 0) : ∀ u ∈ p.m.ks, GP p.prs u := by
 obtain ⟨h1, h2⟩ := valid_isB hv
 unfold chkN at hc
 refine GP.block h1 (cal_of _ _ p.vs (.inr (.inl h1)) (by omega)) fun q hq => ⟨h2 q hq, ?_⟩
 obtain ⟨i, hi, rfl⟩ := List.getElem_of_mem hq
 have := prcN_zero (Nat.le_refl _) (show prcN p.prs p.prs.length = 0 by omega) i hi hi
 unfold prcE at this
 exact cal_of _ _ _ (.inr (.inl (h2 _ hq))) (show cntV p.prs p.prs[i].b p.prs[i].ps = 0 by omega)
theorem gas_le (M a b r s g : Nat) (h1 : a ≤ b) (h2 : s ≤ r) (hg : b * M + r ≤ g) : a * M + s ≤ g := by have := Nat.mul_le_mul_right M h1; omega
set_option maxRecDepth 100000 in
theorem run_good {p : PG} {F : Int} {g : Nat} (hv : validB p = true) (hg : F.toNat * 2000 + 2000 ≤ g) (back : Bool) (S : ST) (e : List Nat) : Good 0 (runO p.prs F g back p.m ⟨S, 0, e⟩) := by
 obtain ⟨_, _, h3, _, h5⟩ := valid_bounds hv
 refine bodyO_good _ _ fun u hu r hr => execO_good (M := 2000) (fun q hq => (h3 q hq).2.2) (by omega) g back u r ?_
 have h6 := mem_size (blkL_mem hu)
 exact gas_le 2000 (F.toNat - r.n) F.toNat 2000 _ g (by omega) (by omega) hg
end Go.Proofs.YtgnfpcebmefhoaaGreat
namespace Go.Proofs.YtgnfpcebmefhoaaGreat
open Go Go.RowKit
theorem bII1' (A : Option Addr) (l c : Nat) (w : World) : (Instr.buildSlice 29 1 #[(0, .slice A l c)]).run Tryz.prog w = .ok (.slice (some ⟨w.heap.size, 0, none⟩) 1 1) (w.alloc (.cells #[.slice A l c] 30)) := by kernel_rfl
theorem bS12 (B C : Option Addr) (m d n e : Nat) (w : World) : (Instr.build 32 #[(1, .slice B m d), (2, .slice C n e)]).run Tryz.prog w = .ok (.agg #[.slice none 0 0, .slice B m d, .slice C n e]) w := by kernel_rfl
section
variable {P : Program} {ops : Array Oper} {Q : Exit → Act → World → Prop} {md : Region.Mode} {S1 S2 : World → Prop} {k : Nat}
theorem wpG_invS' (I : Nat → Array Bool → Act → World → Prop) (hS : ∀ f l a w, I f l a w → S1 w ∧ S2 w)
  (h : ∀ f l a w, I f l a w → wpG P md ops Q S1 S2 k f l a w ∨ ∃ f', f = f' + 1 ∧ Region.ready md ops l ≠ [] ∧ ∀ i ∈ Region.ready md ops l, wpOp P ops Q i (fun a' w' => I f' (l.setIfInBounds i true) a' w') a w) :
  ∀ f l a w, I f l a w → wpG P md ops Q S1 S2 k f l a w
 | 0, l, a, w, hi => by
  rcases h 0 l a w hi with h1 | ⟨f', h1, _⟩
  ·exact h1
  ·omega
 | f + 1, l, a, w, hi => by
  rcases h (f + 1) l a w hi with h1 | ⟨f', h1, h2, h3⟩
  ·exact h1
  ·obtain rfl : f = f' := by omega
   exact ⟨fun h0 => absurd h0 h2, fun i hm => wpOp_mono (fun a' w' h' => ⟨⟨(hS _ _ _ _ h').1, fun _ => (hS _ _ _ _ h').2⟩, wpG_invS' I hS h f _ a' w' h'⟩) (h3 i hm)⟩
theorem wpG_invS {a0 : Act} {f0 : Nat} {l0 : Array Bool} {w0 : World} (I : Act → Nat → Array Bool → Act → World → Prop) (hS : ∀ A f l a w, I A f l a w → S1 w ∧ S2 w)
  (h : ∀ A, A = a0 → ∀ f l a w, I A f l a w → wpG P md ops Q S1 S2 k f l a w ∨ ∃ f', f = f' + 1 ∧ Region.ready md ops l ≠ [] ∧ ∀ i ∈ Region.ready md ops l, wpOp P ops Q i (fun a' w' => I A f' (l.setIfInBounds i true) a' w') a w)
  (h0 : I a0 f0 l0 a0 w0) : wpG P md ops Q S1 S2 k f0 l0 a0 w0 := wpG_invS' (I a0) (hS a0) (h a0 rfl) _ _ _ _ h0
end
def rows1 (l0 l3 l4 l7 l9 : Bool) (v5 v8 v9 v12 : Value) (b3 : Nat) (s : SS) : Option SI → RowD
 | none => if l9 = true then ⟨boxV b3, 32, 3, 1, [.slice none 0 0, .slice none 0 0, .slice none 0 0]⟩ else nilR
 | some .inp => if l3 = true then ⟨v8, 3, 1, s.tin.length, flatI s.tin⟩ else if l0 = true then ⟨v5, 3, 1, 0, []⟩ else nilR
 | some .out => if l7 = true then ⟨v12, 3, 1, s.tout.length, flatI s.tout⟩ else if l4 = true then ⟨v9, 3, 1, 0, []⟩ else nilR
 | some _ => nilR
def rowsC (vc vi vo : Value) (fc : Nat → Value) (b3 : Nat) (s : SS) (j : Nat) : Option SI → RowD
 | none => ⟨boxV b3, 32, 3, 1, [vc, vi, vo]⟩
 | some .all => ⟨vc, 30, 1, j, (List.range j).map fc⟩
 | some (.el i) => if i < j then ⟨fc i, 3, 1, (s.cells.getD i []).length, flatI (s.cells.getD i [])⟩ else nilR
 | some .inp => ⟨vi, 3, 1, s.tin.length, flatI s.tin⟩
 | some .out => ⟨vo, 3, 1, s.tout.length, flatI s.tout⟩
theorem nil_rws (w : World) (n0 : Nat) (v5 v8 v9 v12 : Value) (b3 : Nat) (s : SS) : Rws w n0 (rows1 false false false false false v5 v8 v9 v12 b3 s) := by
 have e : ∀ i, rows1 false false false false false v5 v8 v9 v12 b3 s i = nilR := by
  intro i
  rcases i with _ | i
  ·rfl
  ·cases i <;> rfl
 refine ⟨fun i => by rw [e]; exact ownsRow_nilR w n0, fun i j b _ hi _ => ?_⟩
 rw [e] at hi
 simp [nilR, Value.ownBlock] at hi
theorem own_box3 (w : World) (n0 : Nat) (h : n0 ≤ w.heap.size) (a b c : Value) (E : TypeId) : (w.alloc (.cells #[a, b, c] E)).ownsRow n0 E 3 (boxV w.heap.size) 1 [a, b, c] :=
 ⟨rfl, .inr ⟨w.heap.size, 1, #[a, b, c], rfl, h, heap_alloc_new w _, Nat.le_refl _, by unfold maxLen; omega, rfl, rfl⟩⟩
theorem rowsC_step (vc vc' vi vo : Value) (fc : Nat → Value) (b3 : Nat) (s : SS) (j : Nat) (l : List Int) (v8 r5 : Value) (hl : s.cells.getD j [] = l) :
  updR (updR (updR (updR (rowsC vc vi vo fc b3 s j) (some (.el j)) ⟨r5, 3, 1, 0, []⟩) (some (.el j)) ⟨v8, 3, 1, l.length, flatI l⟩) (some .all) ⟨vc', 30, 1, j + 1, (List.range j).map fc ++ [v8]⟩) none ⟨boxV b3, 32, 3, 1, [vc', vi, vo]⟩ = rowsC vc' vi vo (fun i => if i = j then v8 else fc i) b3 s (j + 1) := by
 funext i
 rcases i with _ | i
 ·rfl
 ·cases i with
  | all =>
   simp only [updR, rowsC, reduceCtorEq, if_false, if_true, RowD.mk.injEq, true_and]
   rw [List.range_succ, List.map_append]
   congr 1
   ·refine List.map_congr_left fun i hi => ?_
    have : i ≠ j := by have := List.mem_range.1 hi; omega
    simp [this]
   ·simp
  | inp => rfl
  | out => rfl
  | el i =>
   by_cases e : i = j
   ·subst e
    simp [updR, rowsC, ← hl]
   ·have e2 : (i < j + 1) ↔ (i < j) := by omega
    simp [updR, rowsC, e, e2]
theorem rowsC_end {W : World} {n0 : Nat} {vc vi vo : Value} {fc : Nat → Value} {b3 : Nat} {s : SS} (h : Rws W n0 (rowsC vc vi vo fc b3 s s.cells.length)) : Rws W n0 (rowsS vc vi vo fc s) := by
 have e : ∀ i, rowsS vc vi vo fc s i = rowsC vc vi vo fc b3 s s.cells.length (some i) := fun i => by cases i <;> rfl
 refine ⟨fun i => by rw [e]; exact h.row (some i), fun i j b hij hi hj => ?_⟩
 rw [e] at hi hj
 exact h.sep (some i) (some j) b (fun e' => hij (by injection e')) hi hj
theorem own_of3 {w : World} {n0 b : Nat} {x y z : Value} {E : TypeId} (hn : n0 ≤ b) (h : w.heap[b]? = some (.cells #[x, y, z] E (0, 0))) : w.ownsRow n0 E 3 (boxV b) 1 [x, y, z] :=
 ⟨rfl, .inr ⟨b, 1, #[x, y, z], rfl, hn, h, Nat.le_refl _, by unfold maxLen; omega, rfl, rfl⟩⟩
theorem own_nil (w : World) (n0 : Nat) (E : TypeId) : w.ownsRow n0 E 1 (.slice none 0 0) 0 [] := ⟨rfl, .inl ⟨rfl, rfl⟩⟩
end Go.Proofs.YtgnfpcebmefhoaaGreat
namespace Go.Proofs.YtgnfpcebmefhoaaGreat
open Go Go.RowKit
theorem k_2 (l5 l9 : Bool) (v5 v8 v8' v9 v12 : Value) (b3 : Nat) (s : SS) : updR (rows1 false false false l5 l9 v5 v8' v9 v12 b3 s) (some .inp) ⟨v8, 3, 1, s.tin.length, flatI s.tin⟩ = rows1 false true false l5 l9 v5 v8 v9 v12 b3 s := by
 funext i
 rcases i with _ | i
 ·rfl
 ·cases i <;> rfl
theorem k_5 (l2 l9 : Bool) (v5 v8 v9 v12 v12' : Value) (b3 : Nat) (s : SS) : updR (rows1 false l2 false false l9 v5 v8 v9 v12' b3 s) (some .out) ⟨v12, 3, 1, s.tout.length, flatI s.tout⟩ = rows1 false l2 false true l9 v5 v8 v9 v12 b3 s := by
 funext i
 rcases i with _ | i
 ·rfl
 ·cases i <;> rfl
theorem k_7 (l2 l5 : Bool) (v5 v8 v9 v12 : Value) (b3 b3' : Nat) (s : SS) : updR (rows1 false l2 false l5 false v5 v8 v9 v12 b3' s) none ⟨boxV b3, 32, 3, 1, [.slice none 0 0, .slice none 0 0, .slice none 0 0]⟩ = rows1 false l2 false l5 true v5 v8 v9 v12 b3 s := by
 funext i
 rcases i with _ | i
 ·rfl
 ·cases i <;> rfl
theorem k_end (vi vo v5 v9 : Value) (fc : Nat → Value) (b3 : Nat) (s : SS) : updR (updR (rows1 false true false true true v5 vi v9 vo b3 s) none ⟨boxV b3, 32, 3, 1, [.slice none 0 0, vi, vo]⟩) (some .all) ⟨.slice none 0 0, 30, 1, 0, []⟩ = rowsC (.slice none 0 0) vi vo fc b3 s 0 := by
 funext i
 rcases i with _ | i
 ·rfl
 ·cases i <;> rfl
theorem k_step (vc vc' vi vo : Value) (fc : Nat → Value) (b3 : Nat) (s : SS) (j : Nat) (l : List Int) (v8 : Value) (hl : s.cells.getD j [] = l) :
  updR (updR (updR (rowsC vc vi vo fc b3 s j) (some (.el j)) ⟨v8, 3, 1, l.length, flatI l⟩) (some .all) ⟨vc', 30, 1, j + 1, (List.range j).map fc ++ [v8]⟩) none ⟨boxV b3, 32, 3, 1, [vc', vi, vo]⟩ = rowsC vc' vi vo (fun i => if i = j then v8 else fc i) b3 s (j + 1) := by
 rw [← rowsC_step vc vc' vi vo fc b3 s j l v8 v8 hl]
 congr 2
 funext i
 by_cases e : i = some (.el j)
 ·subst e; simp [updR]
 ·simp [updR, e]
set_option maxHeartbeats 4000000 in
set_option maxRecDepth 100000 in
theorem Clone_st (s : SS) (v : Value) (w : World) (hv : SV w Any s v) (hcl : s.cells.length ≤ 1000000) : Calls Tryz.prog 19 #[v] w fun e W' => ∃ v', e = .returned v' ∧ OwnS W' w.heap.size s v' ∧ Below w.heap.size w W' := by
 have h1 := bS12
 have HV := Lib.hid hv
 obtain ⟨A, c, B, d, D, e, rfl, hr1, hr2, hr3, hc1, hc2, hc3, hl1, hl2, hl3, hl4⟩ := hv
 have hk := heap_alloc_new w (.cells #[.slice A s.cells.length c, .slice B s.tin.length d, .slice D s.tout.length e] 32)
 have hbw : Below w.heap.size w ((w.alloc (.cells #[.slice A s.cells.length c, .slice B s.tin.length d, .slice D s.tout.length e] 32)).alloc (.cells #[.slice none 0 0, .slice none 0 0, .slice none 0 0] 32)) := bl_al (bl_al (Below.refl _ _) _) _
 have hk2 := blk_al hk (.cells #[.slice none 0 0, .slice none 0 0, .slice none 0 0] 32)
 have hz1 : ((w.alloc (.cells #[.slice A s.cells.length c, .slice B s.tin.length d, .slice D s.tout.length e] 32)).alloc (.cells #[.slice none 0 0, .slice none 0 0, .slice none 0 0] 32)).heap.size = w.heap.size + 1 + 1 := by simp
 have hk3 := heap_alloc_new (w.alloc (.cells #[.slice A s.cells.length c, .slice B s.tin.length d, .slice D s.tout.length e] 32)) (.cells #[.slice none 0 0, .slice none 0 0, .slice none 0 0] 32)
 rw [World.size_alloc] at hk3
 have HI := Lib.hid (show s.I from ⟨fun l hl => by
  obtain ⟨i, hi, rfl⟩ := List.mem_iff_getElem.1 hl
  obtain ⟨_, _, _, _, _, _, _, hr⟩ := hr1 i hi
  exact hr.fits, hr2.fits, hr3.fits⟩)
 go_enter Tryz.func19, Tryz.ntmps19
 go_upto_region 1 with fail
 obtain ⟨w1, hw1⟩ : ∃ x, (w.alloc (.cells #[.slice A s.cells.length c, .slice B s.tin.length d, .slice D s.tout.length e] 32)).alloc (.cells #[.slice none 0 0, .slice none 0 0, .slice none 0 0] 32) = x := ⟨_, rfl⟩
 rw [hw1] at hbw hk2 hk3 hz1 ⊢
 have HB1 := Lib.hid hbw
 have HK1 := Lib.hid hk2
 have HK3 := Lib.hid hk3
 have HR1 := Lib.hid (hr1.later hbw)
 have HR2 := Lib.hid (hr2.later hbw)
 have HR3 := Lib.hid (hr3.later hbw)
 have HL := Lib.hid (show s.Lim from ⟨hl1, hl2, hl3, hl4⟩)
 clear hk hbw hk2 hk3 hw1 hr1 hr2 hr3 hl1 hl2 hl3 hl4 HV
 obtain ⟨z0, z1, z2⟩ := box3o HK1.out
 have hSS : (fun w' : World => w'.cell? ⟨w.heap.size, 1, none⟩ = some (.slice B s.tin.length d) ∧ w'.cell? ⟨w.heap.size, 2, none⟩ = some (.slice D s.tout.length e)) w1.drew ∧ (fun _ : World => True) w1.drew := ⟨⟨z1, z2⟩, trivial⟩
 refine wp_region_noPanic ?_
 refine wp_region_G (fun w' : World => w'.cell? ⟨w.heap.size, 1, none⟩ = some (.slice B s.tin.length d) ∧ w'.cell? ⟨w.heap.size, 2, none⟩ = some (.slice D s.tout.length e)) (fun _ : World => True) 8 (by kernel_rfl) ?_
 refine wpG_take1 (i := 0) (v := ?_) rfl (by kernel_rfl) (by kernel_rfl) (by kernel_rfl) (by decide) (fun _ _ _ h => h) (Or.inl ⟨by rfl, ?_⟩) hSS ?_
 rotate_left 1
 ·(intro w hSw; (try dsimp only at hSw); (try simp only [zA, zC]); go_simp; (try with_reducible rfl))
 (try simp only [Act.put, zA, zC, zD, zE, zF])
 refine wpG_take1 (i := 1) (v := ?_) rfl (by kernel_rfl) (by kernel_rfl) (by kernel_rfl) (by decide) (fun _ _ _ h => h) (Or.inl ⟨by rfl, ?_⟩) hSS ?_
 rotate_left 1
 ·(intro w hSw; (try dsimp only at hSw); (try simp only [zA, zB, zC]); go_simp; (try with_reducible rfl))
 (try simp only [Act.put, zA, zB, zC, zD, zE, zF])
 refine wpG_take1 (i := 3) (v := ?_) rfl (by kernel_rfl) (by kernel_rfl) (by kernel_rfl) (by decide) (fun _ _ _ h => h) (Or.inl ⟨by rfl, ?_⟩) hSS ?_
 rotate_left 1
 ·(intro w hSw; (try dsimp only at hSw); (try simp only [zA, zB, zC]); go_simp; (try with_reducible rfl))
 (try simp only [Act.put, zA, zB, zC, zD, zE, zF])
 refine wpG_take1 (i := 4) (v := ?_) rfl (by kernel_rfl) (by kernel_rfl) (by kernel_rfl) (by decide) (fun _ _ _ h => h) (Or.inl ⟨by rfl, ?_⟩) hSS ?_
 rotate_left 1
 ·(intro w hSw; (try dsimp only at hSw); (try simp only [zA, zB, zC]); go_simp; (try with_reducible rfl))
 (try simp only [Act.put, zA, zB, zC, zD, zE, zF])
 refine wpG_invS (fun A f l a wr => ∃ (l2 l5 l6 l7 : Bool) (v8 v12 v13 v3 : Value) (b3 : Nat), f = (!l2).toNat + (!l5).toNat + (!l6).toNat + (!l7).toNat + 1 ∧ l = #[true, true, l2, true, true, l5, l6, l7, false] ∧
  a = (((A.put (some 8) v8).put (some 11) v12).put (some 12) v13).put (some 3) v3 ∧ Hid (Below w1.heap.size w1 wr) ∧ Hid (Rws wr w1.heap.size (rows1 false l2 false l5 l7 undef v8 undef v12 b3 s)) ∧ Hid ((l5 = true → l2 = true) ∧ (l6 = true → v13 = .agg #[.slice none 0 0, v8, v12] ∧ l2 = true ∧ l5 = true) ∧ (l7 = true → v3 = .pointer (some ⟨b3, 0, none⟩))) ∧ Hid (l7 = false → v3 = undef)) (fun A f l a wr h => ?_) ?_ ⟨false, false, false, false, undef, undef, undef, undef, 0, rfl, rfl, (by simp only [Act.put, zD, zE, zF]), Lib.hid (Below.refl _ _).drew, Lib.hid (nil_rws _ _ _ _ _ _ _ _), Lib.hid ⟨fun h => (by cases h), fun h => (by cases h), fun h => (by cases h)⟩, Lib.hid (fun _ => rfl)⟩
 ·obtain ⟨_, _, _, _, _, _, _, _, _, _, _, _, hb, _⟩ := h
  exact ⟨⟨cell_bl hb.out z1, cell_bl hb.out z2⟩, trivial⟩
 rintro A' hA f l a wr ⟨l2, l5, l6, l7, v8, v12, v13, v3, b3, hf, rfl, ha, HBL, HRW, HC, HU⟩
 by_cases hall : (l2 && l5 && l6 && l7) = true
 ·left
  simp only [Bool.and_eq_true] at hall
  obtain ⟨⟨⟨rfl, rfl⟩, rfl⟩, rfl⟩ := hall
  obtain ⟨-, h13, h3⟩ := HC.out
  obtain ⟨rfl, -, -⟩ := h13 rfl
  obtain rfl := h3 rfl
  subst hf ha hA
  have hrow := HRW.out.row none
  obtain ⟨B8, c8, e8, -, -⟩ := row_slice (HRW.out.row (some .inp))
  change v8 = .slice B8 s.tin.length c8 at e8
  obtain ⟨B12, c12, e12, -, -⟩ := row_slice (HRW.out.row (some .out))
  change v12 = .slice B12 s.tout.length c12 at e12
  subst e8 e12
  have hbx := box_row hrow
  have c0 : wr.cell? ⟨b3, 0, none⟩ = some (.slice none 0 0) := cell_of_blk hbx rfl
  have c1 : wr.cell? ⟨b3, 1, none⟩ = some (.slice none 0 0) := cell_of_blk hbx rfl
  have c2 : wr.cell? ⟨b3, 2, none⟩ = some (.slice none 0 0) := cell_of_blk hbx rfl
  have cf : ∀ j, wr.frozen? ⟨b3, j, none⟩ = false := fun j => frozen_of_blk hbx
  refine wpG_past (i := 8) (by kernel_rfl) rfl (by kernel_rfl) (fun K hK => ?_)
  (try simp only [Act.put, zA, zB, zC, zD, zE, zF])
  go_simp
  have hb3 : w1.heap.size ≤ b3 ∧ b3 < wr.heap.size := hrow.lt b3 rfl
  have hch : Chg (fun b => b = b3) wr (((wr.setCell ⟨b3, 0, none⟩ (.slice none 0 0)).setCell ⟨b3, 1, none⟩ (.slice B8 s.tin.length c8)).setCell ⟨b3, 2, none⟩ (.slice B12 s.tout.length c12)) :=
   (((Chg.refl (fun b => b = b3) wr).setCell (p := ⟨b3, 0, none⟩) (.inl rfl) _).setCell (p := ⟨b3, 1, none⟩) (.inl rfl) _).setCell (p := ⟨b3, 2, none⟩) (.inl rfl) _
  have hh := heap_setCell_same _ b3 2 _ _ (.slice B12 s.tout.length c12) (heap_setCell_same _ b3 1 _ _ (.slice B8 s.tin.length c8) (heap_setCell_same wr b3 0 _ _ (.slice none 0 0) hbx))
  have HBX := Lib.hid (HBL.out.trans (hch.below HBL.out.size fun b e => by omega))
  have hrw := (HRW.out.upd none (r := ⟨boxV b3, 32, 3, 1, [.slice none 0 0, .slice B8 s.tin.length c8, .slice B12 s.tout.length c12]⟩) (hch.mono fun b _ e => by subst e; rfl) (own_of3 hb3.1 hh) (fun b hb => .inl hb)).upd (some .all) (r := ⟨.slice none 0 0, 30, 1, 0, []⟩) (Chg.refl _ _) (own_nil _ _ _) (fun b hb => by simp [Value.ownBlock] at hb)
  rw [k_end (fc := fun _ => .slice none 0 0)] at hrw
  have HRC := Lib.hid hrw
  obtain ⟨w2, hw2⟩ : ∃ x, ((wr.setCell ⟨b3, 0, none⟩ (.slice none 0 0)).setCell ⟨b3, 1, none⟩ (.slice B8 s.tin.length c8)).setCell ⟨b3, 2, none⟩ (.slice B12 s.tout.length c12) = x := ⟨_, rfl⟩
  rw [hw2] at HBX HRC ⊢
  have hSS2 : (fun w' : World => w'.cell? ⟨w.heap.size, 1, none⟩ = some (.slice B s.tin.length d) ∧ w'.cell? ⟨w.heap.size, 2, none⟩ = some (.slice D s.tout.length e)) w2 := ⟨cell_bl HBX.out z1, cell_bl HBX.out z2⟩
  refine hK.out _ _ hSS2 ?_
  clear hK K hSS hSS2 hch hh hrw hw2 hbx c0 c1 c2 cf hrow HRW HBL HU HC h13 h3 h1
  refine wpG_done (by kernel_rfl) ?_
  refine NoPanic.normal ?_
  obtain ⟨vi, hvi⟩ : ∃ x, Value.slice B8 s.tin.length c8 = x := ⟨_, rfl⟩
  obtain ⟨vo, hvo⟩ : ∃ x, Value.slice B12 s.tout.length c12 = x := ⟨_, rfl⟩
  rw [hvi, hvo] at HRC
  have HVI := Lib.hid hvi
  have HVO := Lib.hid hvo
  clear hvi hvo
  have q0 := cell_bl HBX.out z0
  go_wp2_with fail
  clear q0
  go_loopw [16] (fun i wr => ∃ j : Nat, j ≤ s.cells.length ∧ i = .int .i64 j ∧ Hid (Below w1.heap.size w1 wr) ∧ ∃ vc fc, Hid (Rws wr w1.heap.size (rowsC vc vi vo fc b3 s j))) (fun i _ => s.cells.length - (intOf i).toNat)
  case atStart => exact ⟨0, Nat.zero_le _, rfl, HBX, _, _, HRC⟩
  case round =>
   clear HBX HRC
   obtain ⟨j, hj, rfl, HBL, vc, fc, HRW⟩ := hrel
   have y0 := cell_bl HBL.out z0
   by_cases hlt : j < s.cells.length
   ·have hj1 : (j : Int) < (s.cells.length : Int) := by omega
    have hj0 : (0 : Int) ≤ (j : Int) := by omega
    obtain ⟨a, l, Al, cl, rfl, Hl, hcl0, hlc, hrl⟩ := (HR1.out.later HBL.out).nd hlt
    have HRL := Lib.hid hrl
    have HLL := Lib.hid (show l.length ≤ LI by rw [← Hl.out]; exact HL.out.2.1 _ (List.getElem_mem hlt))
    have hbx := box_row (HRW.out.row none)
    have x0 : wr.cell? ⟨b3, 0, none⟩ = some vc := cell_of_blk hbx rfl
    have hz0 : wr.frozen? ⟨b3, 0, none⟩ = false := frozen_of_blk hbx
    obtain ⟨Av, cv, hvc, -⟩ := row_slice (HRW.out.row (some .all))
    change vc = .slice Av j cv at hvc
    subst hvc
    have hS0 : (fun _ : World => True) wr.drew ∧ (fun w' : World => w'.cell? ⟨b3, 0, none⟩ = some (.slice Av j cv)) wr.drew := ⟨trivial, x0⟩
    obtain ⟨i0, hi0, hq0, hq1, hq2⟩ := info_parts sIInfo
    have HCL := Lib.hid (CloneI_own l Al cl Any wr.drew (HRL.out.later (Below.refl _ _).drew) HLL.out)
    go_upto_region 5 with fail
    refine wp_region_noPanic ?_
    refine wp_region_G (fun _ : World => True) (fun w' : World => w'.cell? ⟨b3, 0, none⟩ = some (.slice Av j cv)) 7 (by kernel_rfl) ?_
    refine wpG_take1 (i := 0) (v := ?_) rfl (by kernel_rfl) (by kernel_rfl) (by kernel_rfl) (by decide) (fun _ _ _ h => h) (Or.inl ⟨by rfl, ?_⟩) hS0 ?_
    rotate_left 1
    ·(intro w hSw; (try dsimp only at hSw); (try simp only [zA, zC]); go_simp; (try with_reducible rfl))
    (try simp only [Act.put, zA, zC, zD, zE, zF])
    refine wpG_take2 (i := 1) (v := ?_) rfl (by kernel_rfl) (by kernel_rfl) (by kernel_rfl) (by decide) rfl (by kernel_rfl) (by kernel_rfl) (fun _ _ _ h => h) (Or.inl ⟨by rfl, ?_⟩) hS0 ?_
    rotate_left 1
    ·(intro w hSw; (try dsimp only at hSw); (try simp only [zA, zB, zC]); go_simp; (try with_reducible rfl))
    (try simp only [Act.put, zA, zB, zC, zD, zE, zF])
    refine wpG_take1 (i := 2) (v := ?_) rfl (by kernel_rfl) (by kernel_rfl) (by kernel_rfl) (by decide) (fun _ _ _ h => h) (Or.inl ⟨by rfl, ?_⟩) hS0 ?_
    rotate_left 1
    ·(intro w hSw; (try dsimp only at hSw); (try simp only [zA, zB, zC]); go_simp; (try with_reducible rfl))
    (try simp only [Act.put, zA, zB, zC, zD, zE, zF])
    have hsz := HBL.out.size
    have had : Calls Tryz.prog 34 [.slice Al l.length cl].toArray wr.drew fun e w' => ∃ v, e = .returned v ∧ (w'.ownsRow wr.heap.size 3 1 v l.length (flatI l) ∧ Below wr.heap.size wr w') :=
     HCL.out.mono fun e w' ⟨v, h1, h2, _, h4⟩ => ⟨v, h1, h2, bl_tt (Below.refl wr.heap.size wr).drew h4⟩
    refine wpG_one (i := 3) (by kernel_rfl) rfl (fun K hK => ?_)
    refine step_callL (by rfl) (.func 34) [.tmp 22] _ (by rfl) 34 _ fnCloneI (by rfl) _ (by rfl) _ had ?_
    rintro v8 wb ⟨ho, hbb⟩
    have hd1 := HRW.out.upd (some (.el j)) (r := ⟨v8, 3, 1, l.length, flatI l⟩) (Chg.of_below hbb) (own_mono ho hsz) (fun b hb => .inr (ho.lt b hb).1)
    have HD1 := Lib.hid hd1
    have HBB := Lib.hid hbb
    have hS2 : (fun _ : World => True) wb ∧ (fun w' : World => w'.cell? ⟨b3, 0, none⟩ = some (.slice Av j cv)) wb := ⟨trivial, cell_bl HBB.out x0⟩
    obtain ⟨A8, c8', rfl, -⟩ := row_slice ho
    refine hK.out _ _ hS2 ?_
    clear hK K hd1 ho hS0 hbb had
    (try simp only [Act.put, zA, zB, zC, zD, zE, zF])
    have h1 := bII1'
    refine wpG_one (i := 4) (by kernel_rfl) rfl (fun K hK => ?_)
    (try simp only [zA, zB, zC])
    go_simp
    have HBC := Lib.hid (show Below wr.heap.size wr (wb.alloc (.cells #[.slice A8 l.length c8'] 30)) from bl_al HBB.out _)
    have HD2 := Lib.hid (HD1.out.later (show Below wb.heap.size wb (wb.alloc (.cells #[.slice A8 l.length c8'] 30)) from bl_al (Below.refl _ _) _))
    have HN2 := Lib.hid (show (wb.alloc (.cells #[.slice A8 l.length c8'] 30)).heap[wb.heap.size]? = some (.cells #[.slice A8 l.length c8'] 30 (0, 0)) from heap_alloc_new wb _)
    have hS3 : (fun _ : World => True) (wb.alloc (.cells #[.slice A8 l.length c8'] 30)) ∧ (fun w' : World => w'.cell? ⟨b3, 0, none⟩ = some (.slice Av j cv)) (wb.alloc (.cells #[.slice A8 l.length c8'] 30)) := ⟨trivial, cell_bl HBC.out x0⟩
    obtain ⟨wc, hwc⟩ : ∃ x, (wb.alloc (.cells #[.slice A8 l.length c8'] 30)) = x := ⟨_, rfl⟩
    rw [hwc] at HBC HD2 HN2 hS3 ⊢
    refine hK.out _ _ hS3 ?_
    clear hK K hwc hS2 HD1
    (try simp only [Act.put, zA, zB, zC, zD, zE, zF])
    have hszC := (bl_tt HBL.out HBC.out).size
    have hrow := HD2.out.row (some .all)
    rw [updR_other (by simp)] at hrow
    change wc.ownsRow w1.heap.size 30 1 (.slice Av j cv) j ((List.range j).map fc) at hrow
    refine wpG_one (i := 5) (by kernel_rfl) rfl (fun K hK => ?_)
    refine step_append_own (by rfl) (.tmp 21) (.tmp 24) 29 (by rfl) w1.heap.size 30 i0 _ 1 24 Tryz.underlying29 hi0 hq0 hq1 hq2 rfl (by decide) (.slice Av j cv) j ((List.range j).map fc) (by rfl) hrow ⟨wb.heap.size, 0, none⟩ 1 1 [.slice A8 l.length c8'] (by rfl) rfl (fun q u hq => by
     match q, hq with
     | 0, hq => injection hq with hq; subst hq; exact cell_of_blk HN2.out rfl) (fun u hu => by simp at hu; subst hu; rfl) (by unfold maxLen; omega) (by omega) hszC (fun vd wd ho hg hob => ?_)
    have hd3 := HD2.out.upd (some .all) (r := ⟨vd, 30, 1, j + 1, (List.range j).map fc ++ [.slice A8 l.length c8']⟩) ((Chg.row hg).mono fun b _ hb => hb) ho (fun b hb => by
     rcases hob with h5 | h5
     ·exact .inl (h5 ▸ hb)
     ·exact .inr (by rw [h5] at hb; injection hb with hb; omega))
    have HD3 := Lib.hid hd3
    have hav : ∀ g, (Value.slice Av j cv).ownBlock = some g → (rowsC (.slice Av j cv) vi vo fc b3 s j (some .all)).v.ownBlock = some g := fun g e => e
    have hsep : ∀ g, (Value.slice Av j cv).ownBlock = some g → g ≠ b3 := fun g e h => HRW.out.sep (some .all) none g (by simp) e (by rw [h]; rfl)
    have hlo : ∀ g, (Value.slice Av j cv).ownBlock = some g → w1.heap.size ≤ g := fun g e => (HRW.out.lt (some .all) g e).1
    have hchg : Chg (fun b => (Value.slice Av j cv).ownBlock = some b) wc wd := Chg.row hg
    have HBD := Lib.hid (show Below w1.heap.size w1 wd from (bl_tt HBL.out HBC.out).grown hg hszC (fun g e => hlo g e))
    have hbx3 := box_row (HD3.out.row none)
    have e0 : wd.cell? ⟨b3, 0, none⟩ = some (.slice Av j cv) := cell_of_blk hbx3 rfl
    have ez : wd.frozen? ⟨b3, 0, none⟩ = false := frozen_of_blk hbx3
    have hab : a.block < w1.heap.size := by
     obtain ⟨a', _, _, e', _, hc', _⟩ := HR1.out j hlt
     injection e' with e'
     subst e'
     have := World.block_lt_of_cell? w1 _ hc'
     rwa [block_add] at this
    have hS4 : (fun _ : World => True) wd ∧ (fun w' : World => w'.cell? ⟨b3, 0, none⟩ = some (.slice Av j cv)) wd := ⟨trivial, e0⟩
    have hd4 := HD3.out.set none (g := b3) (o := 0) (by rfl) (by show 0 < 3; decide) vd
    have hd5 : Rws (wd.setCell ⟨b3, 0, none⟩ vd) w1.heap.size (rowsC vd vi vo (fun i => if i = j then .slice A8 l.length c8' else fc i) b3 s (j + 1)) := by
     rw [← k_step (.slice Av j cv) vd vi vo fc b3 s j l (.slice A8 l.length c8') (by rw [List.getD_eq_getElem?_getD, List.getElem?_eq_getElem hlt]; exact Hl.out)]
     exact hd4
    have HD5 := Lib.hid hd5
    have hb3lt := (HD3.out.lt none b3 rfl)
    have HBE := Lib.hid (show Below w1.heap.size w1 (wd.setCell ⟨b3, 0, none⟩ vd) from HBD.out.trans ((((Chg.refl (fun b => b = b3) wd).setCell (p := ⟨b3, 0, none⟩) (.inl rfl) vd)).below HBD.out.size fun b e => by omega))
    obtain ⟨Ad, cd', rfl, -⟩ := row_slice ho
    refine hK.out _ _ hS4 ?_
    clear hK K hd3 hd4 hd5 ho hg hob hrow hS3 hchg hav hsep hlo hbx3
    (try simp only [Act.put, zA, zB, zC, zD, zE, zF])
    refine wpG_one (i := 6) (by kernel_rfl) rfl (fun K hK => ?_)
    (try simp only [zA, zB, zC])
    go_simp
    refine hK.out _ _ hS4 ?_
    clear hK K
    (try simp only [Act.put, zA, zB, zC, zD, zE, zF])
    refine wpG_past (i := 7) (by kernel_rfl) rfl (by kernel_rfl) (fun K hK => ?_)
    (try simp only [zA, zB, zC])
    go_simp
    refine hK.out _ _ trivial ?_
    clear hK K
    (try simp only [Act.put, zA, zB, zC, zD, zE, zF])
    refine wpG_done (by kernel_rfl) ?_
    refine NoPanic.normal ?_
    go_wp2_with fail
    go_roundw
    case rel => exact ⟨j + 1, by omega, by go_num, HBE, _, _, HD5⟩
    case measure => simp [intOf]; omega
   ·obtain rfl : j = s.cells.length := by omega
    have hj1 : ¬ (s.cells.length : Int) < (s.cells.length : Int) := by omega
    have hbx := box_row (HRW.out.row none)
    have x0 : wr.cell? ⟨b3, 0, none⟩ = some vc := cell_of_blk hbx rfl
    have x1 : wr.cell? ⟨b3, 1, none⟩ = some vi := cell_of_blk hbx rfl
    have x2 : wr.cell? ⟨b3, 2, none⟩ = some vo := cell_of_blk hbx rfl
    obtain ⟨Av, cv, hvc, -⟩ := row_slice (HRW.out.row (some .all))
    change vc = .slice Av s.cells.length cv at hvc
    subst hvc
    rw [← HVI.out] at x1
    rw [← HVO.out] at x2
    have hk3 := blk_bl HK3.out HBL.out
    have q0 : wr.cell? ⟨w.heap.size + 1, 0, none⟩ = some (.slice none 0 0) := cell_of_blk hk3 rfl
    have q1 : wr.cell? ⟨w.heap.size + 1, 1, none⟩ = some (.slice none 0 0) := cell_of_blk hk3 rfl
    have q2 : wr.cell? ⟨w.heap.size + 1, 2, none⟩ = some (.slice none 0 0) := cell_of_blk hk3 rfl
    have cf : ∀ j, wr.frozen? ⟨w.heap.size + 1, j, none⟩ = false := fun j => frozen_of_blk hk3
    have HRE := Lib.hid (rowsC_end HRW.out)
    have HK3E := Lib.hid hk3
    clear hbx hk3 HRW
    go_wp2_with fail
    have hch : Chg (fun b => b = w.heap.size + 1) wr (((wr.setCell ⟨w.heap.size + 1, 0, none⟩ (.slice Av s.cells.length cv)).setCell ⟨w.heap.size + 1, 1, none⟩ (.slice B8 s.tin.length c8)).setCell ⟨w.heap.size + 1, 2, none⟩ (.slice B12 s.tout.length c12)) :=
     (((Chg.refl (fun b => b = w.heap.size + 1) wr).setCell (p := ⟨w.heap.size + 1, 0, none⟩) (.inl rfl) _).setCell (p := ⟨w.heap.size + 1, 1, none⟩) (.inl rfl) _).setCell (p := ⟨w.heap.size + 1, 2, none⟩) (.inl rfl) _
    have hh := heap_setCell_same _ (w.heap.size + 1) 2 _ _ (.slice B12 s.tout.length c12) (heap_setCell_same _ (w.heap.size + 1) 1 _ _ (.slice B8 s.tin.length c8) (heap_setCell_same wr (w.heap.size + 1) 0 _ _ (.slice Av s.cells.length cv) HK3E.out))
    obtain ⟨w9, hw9⟩ : ∃ x, ((wr.setCell ⟨w.heap.size + 1, 0, none⟩ (.slice Av s.cells.length cv)).setCell ⟨w.heap.size + 1, 1, none⟩ (.slice B8 s.tin.length c8)).setCell ⟨w.heap.size + 1, 2, none⟩ (.slice B12 s.tout.length c12) = x := ⟨_, rfl⟩
    rw [hw9] at hch hh ⊢
    have t0 : w9.cell? ⟨w.heap.size + 1, 0, none⟩ = some (.slice Av s.cells.length cv) := cell_of_blk hh (by simp)
    have t1 : w9.cell? ⟨w.heap.size + 1, 1, none⟩ = some (.slice B8 s.tin.length c8) := cell_of_blk hh (by simp)
    have t2 : w9.cell? ⟨w.heap.size + 1, 2, none⟩ = some (.slice B12 s.tout.length c12) := cell_of_blk hh (by simp)
    refine bodyPost_ret (v := .agg #[.slice Av s.cells.length cv, .slice B8 s.tin.length c8, .slice B12 s.tout.length c12]) (by simp [results, Tryz.results19, go_sem, t0, t1, t2]) rfl ⟨_, rfl, ?_, (bl_tt HB1.out HBL.out).trans (hch.below (bl_tt HB1.out HBL.out).size fun b e => by omega)⟩
    have hrw := HRE.out.chg hch (fun i b hb e => by have := (HRE.out.lt i b hb).1; omega)
    rw [← HVI.out, ← HVO.out] at hrw
    exact ⟨_, _, _, _, rfl, hrw.mono (by omega), HI.out⟩
 ·right
  have HC0 := HC.out
  have hcc : (l5 = true → l2 = true) ∧ (l6 = true → l2 = true ∧ l5 = true) := ⟨HC0.1, fun h => (HC0.2.1 h).2⟩
  refine ⟨f - 1, ?_, ?_, ?_⟩
  ·clear HC HC0 HRW HU ha HBL hcc
   subst hf
   revert hall
   revert l2 l5 l6 l7
   decide
  ·clear HC HC0 HRW HU ha HBL hf
   revert hall hcc
   revert l2 l5 l6 l7
   decide +kernel
  intro i hi
  have hcase : (i = 2 ∧ l2 = false) ∨ (i = 5 ∧ l5 = false ∧ l2 = true) ∨ (i = 6 ∧ l6 = false ∧ l2 = true ∧ l5 = true) ∨ (i = 7 ∧ l7 = false) := by
   refine of_decide_eq_true ((List.all_eq_true (p := fun i => decide ((i = 2 ∧ l2 = false) ∨ (i = 5 ∧ l5 = false ∧ l2 = true) ∨ (i = 6 ∧ l6 = false ∧ l2 = true ∧ l5 = true) ∨ (i = 7 ∧ l7 = false)))).1 ?_ i hi)
   clear HC HC0 HRW HU ha HBL hf hi
   revert hall hcc
   revert l2 l5 l6 l7
   decide +kernel
  clear hi hall
  subst ha hA
  rcases hcase with ⟨rfl, rfl⟩ | ⟨rfl, rfl, rfl⟩ | ⟨rfl, rfl, rfl, rfl⟩ | ⟨rfl, rfl⟩
  ·refine wpOp_step rfl (fun K' hK0 => ?_)
   have hK := Lib.hid hK0
   clear hK0
   have hsz := HBL.out.size
   have had : Calls Tryz.prog 34 [.slice B s.tin.length d].toArray wr fun e w' => ∃ v, e = .returned v ∧ (w'.ownsRow wr.heap.size 3 1 v s.tin.length (flatI s.tin) ∧ Below wr.heap.size wr w') :=
    (CloneI_own s.tin B d Any wr (HR2.out.later HBL.out) HL.out.2.2.1).mono fun e w' ⟨v, h1, h2, _, h4⟩ => ⟨v, h1, h2, h4⟩
   refine step_callL (by rfl) (.func 34) [.tmp 7] _ (by rfl) 34 _ fnCloneI (by rfl) _ (by rfl) _ had ?_
   rintro v' w' ⟨ho, hb⟩
   obtain rfl : l6 = false := by
    rcases l6 with _ | _
    ·rfl
    ·exact absurd (hcc.2 rfl).1 (by decide)
   obtain rfl : l5 = false := by
    rcases l5 with _ | _
    ·rfl
    ·exact absurd (hcc.1 rfl) (by decide)
   have hrw := HRW.out.upd (some .inp) (r := ⟨v', 3, 1, s.tin.length, flatI s.tin⟩) (Chg.of_below hb) (own_mono ho hsz) (fun b hb => .inr (ho.lt b hb).1)
   rw [k_2] at hrw
   exact hK.out _ _ ⟨true, false, false, l7, _, v12, v13, v3, b3, (by subst hf; simp <;> omega), rfl, (by simp only [Act.put, zA, zB, zC, zD, zE, zF]), Lib.hid (bl_tt HBL.out hb), Lib.hid hrw, Lib.hid ⟨fun h => (by cases h), fun h => (by cases h), HC0.2.2⟩, HU⟩
  ·refine wpOp_step rfl (fun K' hK0 => ?_)
   have hK := Lib.hid hK0
   clear hK0
   have hsz := HBL.out.size
   have had : Calls Tryz.prog 34 [.slice D s.tout.length e].toArray wr fun e w' => ∃ v, e = .returned v ∧ (w'.ownsRow wr.heap.size 3 1 v s.tout.length (flatI s.tout) ∧ Below wr.heap.size wr w') :=
    (CloneI_own s.tout D e Any wr (HR3.out.later HBL.out) HL.out.2.2.2).mono fun e w' ⟨v, h1, h2, _, h4⟩ => ⟨v, h1, h2, h4⟩
   refine step_callL (by rfl) (.func 34) [.tmp 10] _ (by rfl) 34 _ fnCloneI (by rfl) _ (by rfl) _ had ?_
   rintro v' w' ⟨ho, hb⟩
   obtain rfl : l6 = false := by
    rcases l6 with _ | _
    ·rfl
    ·exact absurd (hcc.2 rfl).2 (by decide)
   have hrw := HRW.out.upd (some .out) (r := ⟨v', 3, 1, s.tout.length, flatI s.tout⟩) (Chg.of_below hb) (own_mono ho hsz) (fun b hb => .inr (ho.lt b hb).1)
   rw [k_5] at hrw
   exact hK.out _ _ ⟨true, true, false, l7, v8, _, v13, v3, b3, (by subst hf; simp <;> omega), rfl, (by simp only [Act.put, zA, zB, zC, zD, zE, zF]), Lib.hid (bl_tt HBL.out hb), Lib.hid hrw, Lib.hid ⟨fun _ => rfl, fun h => (by cases h), HC0.2.2⟩, HU⟩
  ·refine wpOp_step rfl (fun K' hK0 => ?_)
   have hK := Lib.hid hK0
   clear hK0
   obtain ⟨B8, c8, e8, -, -⟩ := row_slice (HRW.out.row (some .inp))
   change v8 = .slice B8 s.tin.length c8 at e8
   obtain ⟨B12, c12, e12, -, -⟩ := row_slice (HRW.out.row (some .out))
   change v12 = .slice B12 s.tout.length c12 at e12
   subst e8 e12
   (try simp only [Act.put, zA, zB, zC, zD, zE, zF])
   go_simp
   exact hK.out _ _ ⟨true, true, true, l7, _, _, _, v3, b3, (by subst hf; simp <;> omega), rfl, (by simp only [Act.put, zD, zE, zF]), HBL, HRW, Lib.hid ⟨fun _ => rfl, fun _ => ⟨rfl, rfl, rfl⟩, HC0.2.2⟩, HU⟩
  ·refine wpOp_step rfl (fun K' hK0 => ?_)
   have hK := Lib.hid hK0
   clear hK0
   obtain rfl := HU.out rfl
   (try simp only [Act.put, zA, zB, zC, zD, zE, zF])
   go_simp
   have hsz := HBL.out.size
   have hrw := HRW.out.upd none (r := ⟨boxV wr.heap.size, 32, 3, 1, [.slice none 0 0, .slice none 0 0, .slice none 0 0]⟩) (W' := wr.alloc (.cells #[.slice none 0 0, .slice none 0 0, .slice none 0 0] 32)) (Chg.of_below (bl_al (Below.refl _ _) _)) (own_box3 wr _ hsz _ _ _ _) (fun b hb => .inr (by simp [Value.ownBlock] at hb; omega))
   rw [k_7] at hrw
   exact hK.out _ _ ⟨l2, l5, l6, true, v8, v12, v13, _, wr.heap.size, (by subst hf; simp <;> omega), rfl, (by simp only [Act.put, zD, zE, zF]), Lib.hid (bl_al HBL.out _), Lib.hid hrw, Lib.hid ⟨HC0.1, HC0.2.1, fun _ => rfl⟩, Lib.hid (fun h => (by cases h))⟩
end Go.Proofs.YtgnfpcebmefhoaaGreat
namespace Go.Proofs.YtgnfpcebmefhoaaGreat
open Go Go.RowKit
def Nz (o : Out) : Prop := o ≠ .err 0
theorem Nz.bind {o : Out} {f : RS → Out} (h : Nz o) (hf : ∀ r, Nz (f r)) : Nz (o.bind f) := by
 cases o with
 | gas => exact fun e => by cases e
 | err x => exact h
 | ok r => exact hf r
theorem Nz.ok (r : RS) : Nz (.ok r) := fun e => by cases e
theorem Nz.gas : Nz .gas := fun e => by cases e
theorem Nz.step (F : Int) (r : RS) : Nz (stepO F r) := by
 unfold stepO
 split
 ·intro e; injection e with e; omega
 ·exact Nz.ok _
theorem Nz.store (r : RS) (R : Int × ST) : Nz (storeO r R) := by
 unfold storeO
 split
 ·rename_i h; intro e; injection e with e; exact h e
 ·exact Nz.ok _
theorem Nz.val {t : T} {r : RS} {f : Int → RS → Out} (hf : ∀ x, Nz (f x r)) : Nz (valO t r f) := by
 unfold valO
 split
 ·rename_i h; intro e; injection e with e; exact h e
 ·exact hf _
theorem Nz.holds {F : Int} {t : T} {r : RS} {f : Bool → RS → Out} (hf : ∀ b r, Nz (f b r)) : Nz (holdsO F t r f) := (Nz.step F r).bind fun r => Nz.val fun x => hf _ _
theorem Nz.assert (F : Int) (t : T) (b : Bool) (r : RS) : Nz (assertO F t b r) := Nz.holds fun b' r => by
 split
 ·exact Nz.ok _
 ·intro e; injection e with e; omega
theorem Nz.body {f : T → RS → Out} : ∀ (l : List T) (r : RS), (∀ t ∈ l, ∀ r, Nz (f t r)) → Nz (bodyO f l r)
 | [], r, _ => Nz.ok r
 | t :: ts, r, h => (h t (List.mem_cons_self ..) r).bind fun r => Nz.body ts r fun u hu => h u (List.mem_cons_of_mem _ hu)
theorem Nz.loop {F : Int} {f : T → RS → Out} {entry test : T} {l1 l2 : List T} (h1 : ∀ t ∈ l1, ∀ r, Nz (f t r)) (h2 : ∀ t ∈ l2, ∀ r, Nz (f t r)) : ∀ (m : Nat) (r : RS), Nz (loopO F f entry test l1 l2 m r)
 | 0, _ => Nz.gas
 | m + 1, r => by
  rw [loopO]
  refine (Nz.body l1 r h1).bind fun r => Nz.holds fun b r => ?_
  split
  ·exact Nz.ok _
  ·exact (Nz.body l2 r h2).bind fun r => (Nz.assert F entry false r).bind fun r => Nz.loop h1 h2 m r
theorem execO_nz {G : List PR → T → Prop} (hG : GC G) {prs : List PR} {F : Int} : ∀ (g : Nat) (back : Bool) (t : T) (r : RS), G prs t → Nz (execO prs F g back t r)
 | 0, _, _, _, _ => Nz.gas
 | g + 1, back, t, r, h => by
  have hb : ∀ back (b : T) r, (∀ u ∈ b.ks, G prs u) → Nz (bodyO (execO prs F g back) (blkL back b) r) := fun back b r hu => Nz.body _ r fun u hm r => execO_nz hG g back u r (hu u (blkL_mem hm))
  rw [execO]
  split
  ·rename_i hk
   obtain ⟨-, h1, h2⟩ := hG.two _ _ h (.inl hk)
   refine Nz.holds fun yes r => Nz.bind ?_ fun r => Nz.assert _ _ _ _
   split
   ·exact hb _ _ _ h1
   ·exact hb _ _ _ h2
  ·split
   ·rename_i hk
    obtain ⟨-, h1, h2⟩ := hG.two _ _ h (.inr hk)
    exact (Nz.assert _ _ _ _).bind fun r => Nz.loop (fun u hm r => execO_nz hG g back u r (h1 u (blkL_mem hm))) (fun u hm r => execO_nz hG g back u r (h2 u (blkL_mem hm))) g r
   ·split
    ·rename_i hk
     obtain ⟨-, h1⟩ := hG.loc _ _ h hk
     exact (Nz.step _ _).bind fun r => Nz.val fun x => (Nz.store _ _).bind fun r => (hb _ _ _ h1).bind fun r => (Nz.step _ _).bind fun r => Nz.val fun x => Nz.store _ _
    ·split
     ·rename_i hk
      obtain ⟨-, h1⟩ := hG.stk _ _ h hk
      exact (Nz.step _ _).bind fun r => (Nz.store _ _).bind fun r => (hb _ _ _ h1).bind fun r => (Nz.step _ _).bind fun r => Nz.store _ _
     ·split
      ·rename_i hk
       obtain ⟨i, q, hi, hq, h1⟩ := hG.cal _ _ h hk
       rw [hi]
       dsimp only
       rw [getD_some hq]
       exact (Nz.step _ _).bind fun r => (Nz.store _ _).bind fun r => (hb _ _ _ h1).bind fun r => (Nz.step _ _).bind fun r => Nz.store _ _
      ·exact (Nz.step _ _).bind fun r => Nz.store _ _
theorem runO_nz {G : List PR → T → Prop} (hG : GC G) {prs : List PR} {F : Int} {g : Nat} {back : Bool} {b : T} {r : RS} (h : ∀ u ∈ b.ks, G prs u) : Nz (runO prs F g back b r) := Nz.body _ r fun u hm r => execO_nz hG g back u r (h u (blkL_mem hm))
theorem RI.chgK {C : RC} {lo hi : Nat} {W W' : World} {r : RS} (hC : (C.plus lo hi).Ok) (h : RI (C.plus lo hi) W r) (hc : Chg (fun b => lo ≤ b ∧ b < hi) W W') (hlo : C.w.heap.size ≤ lo) : RI (C.plus lo hi) W' r := by
 have hkb : ∀ b, lo ≤ b ∧ b < hi → (C.plus lo hi).kb b := fun b hb => .inr hb
 refine ⟨h.ks.chg hc fun b _ hb => ⟨Nat.le_trans hlo hb.1, .inr (.inl (hkb b hb))⟩, hc.keep h.box fun hb => hC.rb.2 (hkb _ hb), own_chg h.ent fun b hb => ?_, h.el, h.en, h.n, h.fb⟩
 exact hc.block b (h.ent.lt b hb).2 fun hb' => hC.ev.2 b hb (hkb _ hb')
end Go.Proofs.YtgnfpcebmefhoaaGreat
namespace Go.Proofs.YtgnfpcebmefhoaaGreat
open Go Go.RowKit
set_option maxHeartbeats 1000000 in
set_option maxRecDepth 100000 in
theorem start1_any {C : RC} (hC : C.Ok) {W : World} {r : RS} (h : RI C W r) (hG : ∀ u ∈ C.p.m.ks, GP C.p.prs u) (g : Nat) (back : Bool) (hg : runO C.p.prs C.F g back C.p.m r ≠ .gas) (pb qb bb : Nat)
  (h0 : W.cell? ⟨pb, 0, none⟩ = some (.pointer (some ⟨C.rb, 0, none⟩))) (hq : W.heap[qb]? = some (.cells #[.slice C.A1 C.p.vs.length C.c1, .slice C.A2 C.p.prs.length C.c2, .int .u8 C.p.m.k, .int .i64 C.p.m.n, .string C.p.m.s, .slice C.A3 C.p.m.ks.length C.c3] 28 (0, 0))) (hb : W.cell? ⟨bb, 0, none⟩ = some (.bool back)) :
  Calls Tryz.prog 49 #[.pointer (some ⟨pb, 0, none⟩), .pointer (some ⟨qb, 0, none⟩), .pointer (some ⟨bb, 0, none⟩)] W (RunP C W (runO C.p.prs C.F g back C.p.m r)) := by
 have HBK := Lib.hid (block_all GP_GC g hC h C.p.m _ back hC.pg.main hG hg)
 have q2 : W.cell? ⟨qb, 2, none⟩ = some (.int .u8 C.p.m.k) := cell_of_blk hq rfl
 have q3 : W.cell? ⟨qb, 3, none⟩ = some (.int .i64 C.p.m.n) := cell_of_blk hq rfl
 have q4 : W.cell? ⟨qb, 4, none⟩ = some (.string C.p.m.s) := cell_of_blk hq rfl
 have q5 : W.cell? ⟨qb, 5, none⟩ = some (.slice C.A3 C.p.m.ks.length C.c3) := cell_of_blk hq rfl
 obtain ⟨o, ho⟩ : ∃ o, runO C.p.prs C.F g back C.p.m r = o := ⟨_, rfl⟩
 rw [ho] at HBK hg ⊢
 clear hC h hG hq ho
 go_enter Tryz.func49, Tryz.ntmps49
 go_wp2_with fail
 refine HBK.out.mono ?_
 rintro e w1 ⟨hk1, hb1, ho1⟩
 cases o with
 | gas => exact absurd rfl hg
 | err x =>
  subst ho1
  exact ⟨rfl, hk1, hb1, rfl⟩
 | ok r1 =>
  obtain ⟨⟨u, rfl⟩, hr1⟩ := ho1
  have HR := Lib.hid hr1
  have HK1 := Lib.hid hk1
  have HB1 := Lib.hid hb1
  clear h0 q2 q3 q4 q5 hb hr1 hk1 hb1
  go_wp2_with fail
  go_end0
  exact ⟨HK1.out, HB1.out, ⟨_, rfl⟩, HR.out⟩
def outR (s : SS) : Out → SS × Nat × Int × List Nat
 | .ok r => (r.S.state, r.n, 0, r.ent)
 | .err e => (s, 0, e, [])
 | .gas => (s, 0, 0, [])
def resO (p : PG) (s : SS) (F : Int) (g : Nat) (back : Bool) : SS × Nat × Int × List Nat :=
 if validB p = false ∨ chkN p ≠ 0 then (s, 0, 3, []) else if fitB p.vs s = false then (s, 0, 20, []) else outR s (runO p.prs F g back p.m ⟨newS p.vs s, 0, List.replicate p.prs.length 0⟩)
def LimR (R : SS × Nat × Int × List Nat) : Prop := R.1.Lim ∧ (R.2.2.1 = 0 → R.1.cells.length ≤ 1000 + R.2.1 ∧ (∀ l ∈ R.1.cells, l.length ≤ 1000) ∧ R.1.tin.length ≤ 4096 ∧ R.1.tout.length ≤ 4096)
theorem LimR.run {r : RS} (h : r.S.WF) (hf : FB r.n r.S) (e : List Nat) : LimR (r.S.state, r.n, 0, e) := by
 obtain ⟨-, h1, h2⟩ := state_I h
 obtain ⟨kd, hb, -⟩ := h.ex
 refine ⟨h1, fun _ => ⟨?_, h2, h.tin.1, h.tout.1⟩⟩
 have := hb.len
 have := hf.1
 simp only [ST.state, List.length_map, List.length_take]
 omega
def ResP (W : World) (R : SS × Nat × Int × List Nat) (e : Ending) (W' : World) : Prop := ∃ A c v1 v2 v3, e = .returned (.tuple #[.slice A R.2.2.2.length c, .agg #[v1, v2, v3, .int .i64 (R.2.1 : Int), .int .i64 R.2.2.1]]) ∧
 OwnS W' W.heap.size R.1 (.agg #[v1, v2, v3]) ∧ RowI W' (fun b => W.heap.size ≤ b) A (R.2.2.2.map Int.ofNat) ∧ R.2.2.2.length ≤ c ∧ Below W.heap.size W W' ∧ LimR R
theorem OwnS.slices {W : World} {n0 : Nat} {s : SS} {v : Value} (h : OwnS W n0 s v) : ∃ A c B d D e, v = .agg #[.slice A s.cells.length c, .slice B s.tin.length d, .slice D s.tout.length e] := by
 obtain ⟨vc, vi, vo, fc, rfl, hr, -⟩ := h
 obtain ⟨A, c, e1, -⟩ := row_slice (hr.row .all)
 obtain ⟨B, d, e2, -⟩ := row_slice (hr.row .inp)
 obtain ⟨D, e, e3, -⟩ := row_slice (hr.row .out)
 change vc = .slice A s.cells.length c at e1
 change vi = .slice B s.tin.length d at e2
 change vo = .slice D s.tout.length e at e3
 exact ⟨A, c, B, d, D, e, by rw [e1, e2, e3]⟩
theorem OwnS.chg {W W' : World} {n0 : Nat} {s : SS} {v : Value} {Cc : Nat → Prop} (h : OwnS W n0 s v) (hc : Chg Cc W W') (hC : ∀ b, Cc b → b < n0) : OwnS W' n0 s v := by
 obtain ⟨vc, vi, vo, fc, rfl, hr, hi⟩ := h
 exact ⟨vc, vi, vo, fc, rfl, hr.chg hc fun i b hb hcb => by have := (hr.lt i b hb).1; have := hC b hcb; omega, hi⟩
theorem OwnS.lower {W : World} {n0 n1 : Nat} {s : SS} {v : Value} (h : OwnS W n1 s v) (hn : n0 ≤ n1) : OwnS W n0 s v := by
 obtain ⟨vc, vi, vo, fc, rfl, hr, hi⟩ := h
 exact ⟨vc, vi, vo, fc, rfl, hr.mono hn, hi⟩
theorem set5 {W : World} {b : Nat} {x0 x1 x2 x3 x4 u0 u1 u2 u3 u4 : Value} {E : TypeId} (h : W.heap[b]? = some (.cells #[x0, x1, x2, x3, x4] E (0, 0))) :
  (((((W.setCell ⟨b, 0, none⟩ u0).setCell ⟨b, 1, none⟩ u1).setCell ⟨b, 2, none⟩ u2).setCell ⟨b, 3, none⟩ u3).setCell ⟨b, 4, none⟩ u4).heap[b]? = some (.cells #[u0, u1, u2, u3, u4] E (0, 0)) ∧
   Chg (fun q => q = b) W (((((W.setCell ⟨b, 0, none⟩ u0).setCell ⟨b, 1, none⟩ u1).setCell ⟨b, 2, none⟩ u2).setCell ⟨b, 3, none⟩ u3).setCell ⟨b, 4, none⟩ u4) := by
 refine ⟨?_, (((((Chg.refl (fun q => q = b) W).setCell (p := ⟨b, 0, none⟩) (.inl rfl) _).setCell (p := ⟨b, 1, none⟩) (.inl rfl) _).setCell (p := ⟨b, 2, none⟩) (.inl rfl) _).setCell (p := ⟨b, 3, none⟩) (.inl rfl) _).setCell (p := ⟨b, 4, none⟩) (.inl rfl) _⟩
 rw [heap_setCell_same _ b 4 _ _ u4 (heap_setCell_same _ b 3 _ _ u3 (heap_setCell_same _ b 2 _ _ u2 (heap_setCell_same _ b 1 _ _ u1 (heap_setCell_same W b 0 _ _ u0 h))))]
 simp
theorem bRes (A B D : Option Addr) (l c m d n e : Nat) (x : Int) (w : World) : (Instr.build 37 #[(0, .agg #[.slice A l c, .slice B m d, .slice D n e]), (2, .int .i64 x)]).run Tryz.prog w = .ok (.agg #[.slice A l c, .slice B m d, .slice D n e, .int .i64 0, .int .i64 x]) w := by kernel_rfl
theorem bRes1 (A B D : Option Addr) (l c m d n e : Nat) (x : Int) (w : World) : (Instr.build 37 #[(0, .agg #[.slice A l c, .slice B m d, .slice D n e]), (1, .int .i64 x)]).run Tryz.prog w = .ok (.agg #[.slice A l c, .slice B m d, .slice D n e, .int .i64 x, .int .i64 0]) w := by kernel_rfl
theorem made_intI (n : Nat) : madeCells (Value.int .i64 0).cells (n * 1) = (flatI (List.replicate n 0)).toArray := by
 apply Array.ext'
 apply List.ext_getElem
 ·rw [Array.length_toList, size_madeCells]; simp [flatI]
 ·intro i h1 h2
  have e : i % 1 = 0 := by omega
  simp [madeCells, flatI, Value.cells, e]
set_option maxRecDepth 100000 in
theorem bMkI (n : Nat) (hn : n ≤ 4096) (w : World) : (Instr.makeSlice 30 (.int .i64 (n : Int)) (.int .i64 (n : Int))).run Tryz.prog w = .ok (.slice (some ⟨w.heap.size, 0, none⟩) n n) (w.alloc (.cells (flatI (List.replicate n 0)).toArray 3)) := by
 have h := intInfo
 obtain ⟨i, hi, hz⟩ := Option.map_eq_some_iff.1 h
 injection hz with h1 h2
 injection h2 with h2 h3
 have hsc : (4096 : Nat) ≤ 9223372036854775807 := by decide
 have := run_make_rowN (P := Tryz.prog) 30 3 i (.int .i64 0) Tryz.underlying30 hi h1 .i64 .i64 n n (Nat.le_refl _) (by rw [h3]; omega) (Nat.le_trans hn hsc) w
 rw [h2, made_intI] at this
 exact this
theorem bRun (A1 A2 A3 E : Option Addr) (l1 c1 l2 c2 l3 c3 m d : Nat) (k n F : Int) (s : ByteArray) (sb : Nat) (w : World) : (Instr.build 86 #[(0, pv A1 l1 c1 A2 l2 c2 k n s A3 l3 c3), (1, .pointer (some ⟨sb, 0, none⟩)), (3, .int .i64 F), (4, .slice E m d)]).run Tryz.prog w =
  .ok (.agg #[.slice A1 l1 c1, .slice A2 l2 c2, .int .u8 k, .int .i64 n, .string s, .slice A3 l3 c3, .pointer (some ⟨sb, 0, none⟩), .int .i64 0, .int .i64 F, .slice E m d]) w := by kernel_rfl
theorem blk_ne {W : World} {a b : Nat} {x y : Array Value} {E F : TypeId} (ha : W.heap[a]? = some (.cells x E (0, 0))) (hb : W.heap[b]? = some (.cells y F (0, 0))) (hne : E ≠ F) : a ≠ b := by
 rintro rfl
 rw [ha] at hb
 injection hb with hb
 injection hb with h1 h2
 exact hne h2
theorem below_kpt {W w4 w8 w11 : World} {n0 : Nat} {kb : Nat → Prop} (h4 : Below W.heap.size W w4) (h11 : Below W.heap.size W w11) (h48 : Below w4.heap.size w4 w8) (hk : Kpt n0 kb w8 w11) (hn : w4.heap.size ≤ n0) : Below w4.heap.size w4 w11 :=
 ⟨h11.os.trans h4.os.symm, h11.tape.trans h4.tape.symm, h11.output.trans h4.output.symm, Nat.le_trans h48.size hk.size, fun b hb => (hk.kept b (Nat.lt_of_lt_of_le hb h48.size) (.inl (Nat.lt_of_lt_of_le hb hn))).trans (h48.block b hb)⟩
theorem fnStart1 : IsFn Tryz.prog 49 Tryz.f49 := ⟨Tryz.func49, by kernel_rfl, by kernel_rfl⟩
theorem fnStateI : IsFn Tryz.prog 51 Tryz.f51 := ⟨Tryz.func51, by kernel_rfl, by kernel_rfl⟩
def OkR (C : RC) (lo hi : Nat) (o : Out) (w9 w' : World) : Prop := ∃ r, o = .ok r ∧ (C.plus lo hi).Ok ∧ RI (C.plus lo hi) w' r ∧ Kpt C.n0 C.kb w9 w'
def ErX (C : RC) (o : Out) (w9 : World) (x : Int) (w' : World) : Prop := o = .err x ∧ Kpt C.n0 C.kb w9 w' ∧ Below C.w.heap.size C.w w'
theorem attempt_run {C : RC} {w8 w9 : World} {r : RS} {jb : Nat} (hC8 : C.Ok) (h8 : RI C w8 r) (hw9 : w8.alloc (.cells #[.slice none 0 0, .bool false] 91) = w9) (hjb : w8.heap.size = jb) (hG : ∀ u ∈ C.p.m.ks, GP C.p.prs u) (g : Nat) (back : Bool) (o : Out) (ho : runO C.p.prs C.F g back C.p.m r = o) (hg : o ≠ .gas) (pb qb bb : Nat)
  (h0 : w8.cell? ⟨pb, 0, none⟩ = some (.pointer (some ⟨C.rb, 0, none⟩))) (hq : w8.heap[qb]? = some (.cells #[.slice C.A1 C.p.vs.length C.c1, .slice C.A2 C.p.prs.length C.c2, .int .u8 C.p.m.k, .int .i64 C.p.m.n, .string C.p.m.s, .slice C.A3 C.p.m.ks.length C.c3] 28 (0, 0))) (hb : w8.cell? ⟨bb, 0, none⟩ = some (.bool back)) :
  Calls Tryz.prog 48 #[.pointer (some ⟨jb, 0, none⟩), .func (.func 49) #[] #[.pointer (some ⟨pb, 0, none⟩), .pointer (some ⟨qb, 0, none⟩), .pointer (some ⟨bb, 0, none⟩)]] w9 (AttP w9 (OkR (C.plus jb w9.heap.size) w9.heap.size (w9.heap.size + 3) o w9) (ErX (C.plus jb w9.heap.size) o w9)) := by
 have hbj := bl_al (Below.refl w8.heap.size w8) (.cells #[.slice none 0 0, .bool false] 91)
 have kj := heap_alloc_new w8 (.cells #[.slice none 0 0, .bool false] 91)
 obtain ⟨hC9, h9⟩ := h8.plus hC8 hbj
 rw [hw9, hjb] at kj hC9 h9
 rw [hw9] at hbj
 have hjl := blk_lt kj
 refine Attempt_any jb _ _ fnStart1 _ w9 kj _ _ fun W1 hb1 hz1 => ?_
 obtain ⟨hC1, h1⟩ := h9.plus hC9 hb1
 have hbt := bl_tt hbj hb1
 have hrun := start1_any hC1 h1 hG g back (show runO C.p.prs C.F g back C.p.m r ≠ .gas by rw [ho]; exact hg) pb qb bb (cell_bl hbt h0) (blk_bl hq hbt) (cell_bl hbt hb)
 refine hrun.mono ?_
 rintro e w' ⟨hk, hbl, hout⟩
 rw [show runO ((C.plus jb w9.heap.size).plus w9.heap.size W1.heap.size).p.prs ((C.plus jb w9.heap.size).plus w9.heap.size W1.heap.size).F g back ((C.plus jb w9.heap.size).plus w9.heap.size W1.heap.size).p.m r = o from ho] at hout
 refine ⟨fun b hb hlt => hk.kept b hlt (.inr ?_), ?_⟩
 ·rcases hb with hb | rfl
  ·exact .inr ⟨hb, hlt⟩
  ·exact .inl (.inr ⟨Nat.le_refl _, hjl⟩)
 ·have hkk : Kpt C.n0 (C.plus jb w9.heap.size).kb w9 w' := (Kpt.of_below hb1).trans (Kpt.less (C := C.plus jb w9.heap.size) hk)
  cases o with
  | gas => exact absurd rfl hg
  | err x => exact .inr ⟨x, hout, rfl, hkk, hbl⟩
  | ok r1 =>
   rw [hz1] at hC1 hout
   exact .inl ⟨hout.1, r1, rfl, hC1, hout.2, hkk⟩
set_option maxHeartbeats 2000000 in
set_option maxRecDepth 100000 in
theorem start_any (p : PG) (s : SS) (F : Int) (g : Nat) (back : Bool) (v sv : Value) (W : World) (hp : PV W Any p v) (hs : SV W Any s sv) (hcl : s.cells.length ≤ 1000000) (hF : I64 F) (hF6 : F ≤ 1000000) (hg : F.toNat * 2000 + 2000 ≤ g) :
  Calls Tryz.prog 30 #[v, sv, .int .i64 F, .bool back] W (ResP W (resO p s F g back)) := by
 have HP := Lib.hid hp
 have HS := Lib.hid hs
 obtain ⟨A1, c1, A2, c2, A3, c3, rfl, hpg⟩ := hp
 obtain ⟨A, c, B, d, D, e, rfl, hr1, hr2, hr3, hc1, hc2, hc3, hl1, hl2, hl3, hl4⟩ := hs
 have HPG := Lib.hid hpg
 have HLM := Lib.hid (show s.Lim from ⟨hl1, hl2, hl3, hl4⟩)
 have HV := Lib.hid (fun w' (hb : Below W.heap.size W w') => Valid_any p Any _ w' (HP.out.later hb))
 have HCK := Lib.hid (fun w' (hb : Below W.heap.size W w') => SCheck_any p Any _ w' (HP.out.later hb))
 have HCL := Lib.hid (fun w' (hb : Below W.heap.size W w') => Clone_st s _ w' (HS.out.later hb) hcl)
 have HNW := Lib.hid (fun w' (hb : Below W.heap.size W w') => New_any p.vs s A1 c1 _ w' (hpg.vars.later hb) hpg.lv (HS.out.later hb))
 obtain ⟨Re, hRe⟩ : ∃ R, resO p s F g back = R := ⟨_, rfl⟩
 have HRE := Lib.hid hRe
 rw [hRe]
 have hb4 := bl_al (bl_al (bl_al (bl_al (Below.refl W.heap.size W) (.cells #[.slice A1 p.vs.length c1, .slice A2 p.prs.length c2, .int .u8 p.m.k, .int .i64 p.m.n, .string p.m.s, .slice A3 p.m.ks.length c3] 28)) (.cells #[.slice A s.cells.length c, .slice B s.tin.length d, .slice D s.tout.length e] 32)) (.cells #[.bool back] 4)) (.cells #[.slice none 0 0, .slice none 0 0, .slice none 0 0, .int .i64 0, .int .i64 0] 37)
 have k0 := blk_al (blk_al (blk_al (heap_alloc_new W (.cells #[.slice A1 p.vs.length c1, .slice A2 p.prs.length c2, .int .u8 p.m.k, .int .i64 p.m.n, .string p.m.s, .slice A3 p.m.ks.length c3] 28)) (.cells #[.slice A s.cells.length c, .slice B s.tin.length d, .slice D s.tout.length e] 32)) (.cells #[.bool back] 4)) (.cells #[.slice none 0 0, .slice none 0 0, .slice none 0 0, .int .i64 0, .int .i64 0] 37)
 have k1 := blk_al (blk_al (heap_alloc_new (W.alloc (.cells #[.slice A1 p.vs.length c1, .slice A2 p.prs.length c2, .int .u8 p.m.k, .int .i64 p.m.n, .string p.m.s, .slice A3 p.m.ks.length c3] 28)) (.cells #[.slice A s.cells.length c, .slice B s.tin.length d, .slice D s.tout.length e] 32)) (.cells #[.bool back] 4)) (.cells #[.slice none 0 0, .slice none 0 0, .slice none 0 0, .int .i64 0, .int .i64 0] 37)
 have k2 := blk_al (heap_alloc_new ((W.alloc (.cells #[.slice A1 p.vs.length c1, .slice A2 p.prs.length c2, .int .u8 p.m.k, .int .i64 p.m.n, .string p.m.s, .slice A3 p.m.ks.length c3] 28)).alloc (.cells #[.slice A s.cells.length c, .slice B s.tin.length d, .slice D s.tout.length e] 32)) (.cells #[.bool back] 4)) (.cells #[.slice none 0 0, .slice none 0 0, .slice none 0 0, .int .i64 0, .int .i64 0] 37)
 have k3 := heap_alloc_new (((W.alloc (.cells #[.slice A1 p.vs.length c1, .slice A2 p.prs.length c2, .int .u8 p.m.k, .int .i64 p.m.n, .string p.m.s, .slice A3 p.m.ks.length c3] 28)).alloc (.cells #[.slice A s.cells.length c, .slice B s.tin.length d, .slice D s.tout.length e] 32)).alloc (.cells #[.bool back] 4)) (.cells #[.slice none 0 0, .slice none 0 0, .slice none 0 0, .int .i64 0, .int .i64 0] 37)
 simp only [World.size_alloc] at k1 k2 k3
 have hz4 : ((((W.alloc (.cells #[.slice A1 p.vs.length c1, .slice A2 p.prs.length c2, .int .u8 p.m.k, .int .i64 p.m.n, .string p.m.s, .slice A3 p.m.ks.length c3] 28)).alloc (.cells #[.slice A s.cells.length c, .slice B s.tin.length d, .slice D s.tout.length e] 32)).alloc (.cells #[.bool back] 4)).alloc (.cells #[.slice none 0 0, .slice none 0 0, .slice none 0 0, .int .i64 0, .int .i64 0] 37)).heap.size = W.heap.size + 4 := by simp
 obtain ⟨w4, hw4⟩ : ∃ x, ((((W.alloc (.cells #[.slice A1 p.vs.length c1, .slice A2 p.prs.length c2, .int .u8 p.m.k, .int .i64 p.m.n, .string p.m.s, .slice A3 p.m.ks.length c3] 28)).alloc (.cells #[.slice A s.cells.length c, .slice B s.tin.length d, .slice D s.tout.length e] 32)).alloc (.cells #[.bool back] 4)).alloc (.cells #[.slice none 0 0, .slice none 0 0, .slice none 0 0, .int .i64 0, .int .i64 0] 37)) = x := ⟨_, rfl⟩
 rw [hw4] at hb4 k0 k1 k2 k3 hz4
 have HB4 := Lib.hid hb4
 have HK0 := Lib.hid k0
 have HK1 := Lib.hid k1
 have HK2 := Lib.hid k2
 have HK3 := Lib.hid k3
 have HZ4 := Lib.hid hz4
 have p0 : w4.cell? ⟨W.heap.size, 0, none⟩ = some (.slice A1 p.vs.length c1) := cell_of_blk k0 rfl
 have p1 : w4.cell? ⟨W.heap.size, 1, none⟩ = some (.slice A2 p.prs.length c2) := cell_of_blk k0 rfl
 have p2 : w4.cell? ⟨W.heap.size, 2, none⟩ = some (.int .u8 p.m.k) := cell_of_blk k0 rfl
 have p3 : w4.cell? ⟨W.heap.size, 3, none⟩ = some (.int .i64 p.m.n) := cell_of_blk k0 rfl
 have p4 : w4.cell? ⟨W.heap.size, 4, none⟩ = some (.string p.m.s) := cell_of_blk k0 rfl
 have p5 : w4.cell? ⟨W.heap.size, 5, none⟩ = some (.slice A3 p.m.ks.length c3) := cell_of_blk k0 rfl
 obtain ⟨vb, hvb⟩ : ∃ b, validB p = b := ⟨_, rfl⟩
 have HVB := Lib.hid hvb
 rw [hvb] at HV HCK
 clear hpg hr1 hr2 hr3 hRe hvb hb4 k0 k1 k2 k3 hz4 hl1 hl2 hl3 hl4 hc1 hc2 hc3
 go_enter Tryz.func30, Tryz.ntmps30
 go_wp2_with fail
 refine (HV.out w4 HB4.out).mono ?_
 rintro e5 w5 ⟨rfl, b5⟩
 clear hw4
 cases vb
 ·have HX := Lib.hid (show Re = (s, 0, 3, []) by rw [← HRE.out, resO, if_pos (.inl HVB.out)])
  clear p0 p1 p2 p3 p4 p5
  have hSB := blk_bl HK1.out b5
  have hRB := blk_bl HK3.out b5
  have s0 : w5.cell? ⟨W.heap.size + 1, 0, none⟩ = some (.slice A s.cells.length c) := cell_of_blk hSB rfl
  have s1 : w5.cell? ⟨W.heap.size + 1, 1, none⟩ = some (.slice B s.tin.length d) := cell_of_blk hSB rfl
  have s2 : w5.cell? ⟨W.heap.size + 1, 2, none⟩ = some (.slice D s.tout.length e) := cell_of_blk hSB rfl
  have HCC := Lib.hid (HCL.out w5 (bl_tt HB4.out b5))
  have HRB := Lib.hid hRB
  have hbq := b5
  clear hSB hRB
  go_wp2_with fail
  refine HCC.out.mono ?_
  rintro e9 w9 ⟨v9, rfl, ho9, hb9⟩
  obtain ⟨A9, c9, B9, d9, D9, e9, rfl⟩ := ho9.slices
  have HO9 := Lib.hid ho9
  have HB9 := Lib.hid (bl_tt hbq hb9)
  have hk9 := blk_bl HRB.out hb9
  have x0 : w9.cell? ⟨W.heap.size + 3, 0, none⟩ = some (.slice none 0 0) := cell_of_blk hk9 rfl
  have x1 : w9.cell? ⟨W.heap.size + 3, 1, none⟩ = some (.slice none 0 0) := cell_of_blk hk9 rfl
  have x2 : w9.cell? ⟨W.heap.size + 3, 2, none⟩ = some (.slice none 0 0) := cell_of_blk hk9 rfl
  have x3 : w9.cell? ⟨W.heap.size + 3, 3, none⟩ = some (.int .i64 0) := cell_of_blk hk9 rfl
  have x4 : w9.cell? ⟨W.heap.size + 3, 4, none⟩ = some (.int .i64 0) := cell_of_blk hk9 rfl
  have xf : ∀ o, w9.frozen? ⟨W.heap.size + 3, o, none⟩ = false := fun _ => frozen_of_blk hk9
  have HK9 := Lib.hid hk9
  have hbr := bRes
  have hsz9 : W.heap.size + 4 ≤ w5.heap.size := by have := hbq.size; rw [HZ4.out] at this; exact this
  clear s0 s1 s2 hk9 ho9 hb9 hbq HCC
  go_wp2_with fail
  obtain ⟨hh, hch⟩ := set5 (u0 := .slice A9 s.cells.length c9) (u1 := .slice B9 s.tin.length d9) (u2 := .slice D9 s.tout.length e9) (u3 := .int .i64 0) (u4 := .int .i64 3) HK9.out
  obtain ⟨w10, hw10⟩ : ∃ zz, (((((w9.setCell ⟨W.heap.size + 3, 0, none⟩ (.slice A9 s.cells.length c9)).setCell ⟨W.heap.size + 3, 1, none⟩ (.slice B9 s.tin.length d9)).setCell ⟨W.heap.size + 3, 2, none⟩ (.slice D9 s.tout.length e9)).setCell ⟨W.heap.size + 3, 3, none⟩ (.int .i64 0)).setCell ⟨W.heap.size + 3, 4, none⟩ (.int .i64 3)) = zz := ⟨_, rfl⟩
  rw [hw10] at hh hch ⊢
  have t0 : w10.cell? ⟨W.heap.size + 3, 0, none⟩ = some (.slice A9 s.cells.length c9) := cell_of_blk hh rfl
  have t1 : w10.cell? ⟨W.heap.size + 3, 1, none⟩ = some (.slice B9 s.tin.length d9) := cell_of_blk hh rfl
  have t2 : w10.cell? ⟨W.heap.size + 3, 2, none⟩ = some (.slice D9 s.tout.length e9) := cell_of_blk hh rfl
  have t3 : w10.cell? ⟨W.heap.size + 3, 3, none⟩ = some (.int .i64 0) := cell_of_blk hh rfl
  have t4 : w10.cell? ⟨W.heap.size + 3, 4, none⟩ = some (.int .i64 3) := cell_of_blk hh rfl
  refine bodyPost_ret (v := .tuple #[.slice none 0 0, .agg #[.slice A9 s.cells.length c9, .slice B9 s.tin.length d9, .slice D9 s.tout.length e9, .int .i64 0, .int .i64 3]]) (by simp [results, Tryz.results30, go_sem, t0, t1, t2, t3, t4]) rfl ?_
  rw [HX.out]
  exact ⟨none, 0, _, _, _, rfl, (HO9.out.chg hch fun b hb => by omega).lower (by omega), fun i hi => absurd hi (by simp), Nat.le_refl _, (bl_tt HB4.out HB9.out).trans (hch.below (bl_tt HB4.out HB9.out).size fun b hb => by omega), HLM.out, fun h => by first | (simp at h; done) | exact absurd h HXN.out⟩
 ·have q0 := cell_bl b5 p0
  have q1 := cell_bl b5 p1
  have q2 := cell_bl b5 p2
  have q3 := cell_bl b5 p3
  have q4 := cell_bl b5 p4
  have q5 := cell_bl b5 p5
  have HC5 := Lib.hid (show Calls Tryz.prog 21 #[pv A1 p.vs.length c1 A2 p.prs.length c2 p.m.k p.m.n p.m.s A3 p.m.ks.length c3] w5 (fun e w' => ∃ A c, e = Ending.returned (.slice A (chkN p) c) ∧ Below w5.heap.size w5 w') from (HCK.out w5 (bl_tt HB4.out b5)).mono (fun e w' ⟨A, c, h1, h2⟩ => ⟨A, c, by rw [h1, if_pos rfl], h2⟩))
  clear p0 p1 p2 p3 p4 p5 HCK HV
  go_wp2_with fail
  refine HC5.out.mono ?_
  rintro e6 w6 ⟨AA, cc, rfl, b6⟩
  have b46 := bl_tt b5 b6
  clear q0 q1 q2 q3 q4 q5
  by_cases hn : chkN p = 0
  ·obtain ⟨n, hnn⟩ : ∃ n, chkN p = n := ⟨_, rfl⟩
   rw [hnn]
   obtain rfl : n = 0 := by omega
   have hng : ¬ (0 : Int) < ((0 : Nat) : Int) := by omega
   have hPB := blk_bl HK0.out b46
   have hSB := blk_bl HK1.out b46
   have p0 : w6.cell? ⟨W.heap.size, 0, none⟩ = some (.slice A1 p.vs.length c1) := cell_of_blk hPB rfl
   have s0 : w6.cell? ⟨W.heap.size + 1, 0, none⟩ = some (.slice A s.cells.length c) := cell_of_blk hSB rfl
   have s1 : w6.cell? ⟨W.heap.size + 1, 1, none⟩ = some (.slice B s.tin.length d) := cell_of_blk hSB rfl
   have s2 : w6.cell? ⟨W.heap.size + 1, 2, none⟩ = some (.slice D s.tout.length e) := cell_of_blk hSB rfl
   have HN0 := Lib.hid hnn
   clear hPB hSB hn hnn
   go_wp2_with fail
   refine (HNW.out w6 (bl_tt HB4.out b46)).mono ?_
   rintro e7 w7 ⟨b7, ⟨hfit, rfl⟩ | ⟨hfit, P, rfl, hsr⟩⟩
   ·have HX := Lib.hid (show Re = (s, 0, 20, []) by rw [← HRE.out, resO, if_neg (by rw [HVB.out, HN0.out]; simp), if_pos hfit])
    have b47 := bl_tt b46 b7
    clear p0 s0 s1 s2 hfit
    have hSB := blk_bl HK1.out b47
    have hRB := blk_bl HK3.out b47
    have s0 : w7.cell? ⟨W.heap.size + 1, 0, none⟩ = some (.slice A s.cells.length c) := cell_of_blk hSB rfl
    have s1 : w7.cell? ⟨W.heap.size + 1, 1, none⟩ = some (.slice B s.tin.length d) := cell_of_blk hSB rfl
    have s2 : w7.cell? ⟨W.heap.size + 1, 2, none⟩ = some (.slice D s.tout.length e) := cell_of_blk hSB rfl
    have HCC := Lib.hid (HCL.out w7 (bl_tt HB4.out b47))
    have HRB := Lib.hid hRB
    have hbq := b47
    clear hSB hRB
    go_wp2_with fail
    refine HCC.out.mono ?_
    rintro e9 w9 ⟨v9, rfl, ho9, hb9⟩
    obtain ⟨A9, c9, B9, d9, D9, e9, rfl⟩ := ho9.slices
    have HO9 := Lib.hid ho9
    have HB9 := Lib.hid (bl_tt hbq hb9)
    have hk9 := blk_bl HRB.out hb9
    have x0 : w9.cell? ⟨W.heap.size + 3, 0, none⟩ = some (.slice none 0 0) := cell_of_blk hk9 rfl
    have x1 : w9.cell? ⟨W.heap.size + 3, 1, none⟩ = some (.slice none 0 0) := cell_of_blk hk9 rfl
    have x2 : w9.cell? ⟨W.heap.size + 3, 2, none⟩ = some (.slice none 0 0) := cell_of_blk hk9 rfl
    have x3 : w9.cell? ⟨W.heap.size + 3, 3, none⟩ = some (.int .i64 0) := cell_of_blk hk9 rfl
    have x4 : w9.cell? ⟨W.heap.size + 3, 4, none⟩ = some (.int .i64 0) := cell_of_blk hk9 rfl
    have xf : ∀ o, w9.frozen? ⟨W.heap.size + 3, o, none⟩ = false := fun _ => frozen_of_blk hk9
    have HK9 := Lib.hid hk9
    have hbr := bRes
    have hsz9 : W.heap.size + 4 ≤ w7.heap.size := by have := hbq.size; rw [HZ4.out] at this; exact this
    clear s0 s1 s2 hk9 ho9 hb9 hbq HCC
    go_wp2_with fail
    obtain ⟨hh, hch⟩ := set5 (u0 := .slice A9 s.cells.length c9) (u1 := .slice B9 s.tin.length d9) (u2 := .slice D9 s.tout.length e9) (u3 := .int .i64 0) (u4 := .int .i64 20) HK9.out
    obtain ⟨w10, hw10⟩ : ∃ zz, (((((w9.setCell ⟨W.heap.size + 3, 0, none⟩ (.slice A9 s.cells.length c9)).setCell ⟨W.heap.size + 3, 1, none⟩ (.slice B9 s.tin.length d9)).setCell ⟨W.heap.size + 3, 2, none⟩ (.slice D9 s.tout.length e9)).setCell ⟨W.heap.size + 3, 3, none⟩ (.int .i64 0)).setCell ⟨W.heap.size + 3, 4, none⟩ (.int .i64 20)) = zz := ⟨_, rfl⟩
    rw [hw10] at hh hch ⊢
    have t0 : w10.cell? ⟨W.heap.size + 3, 0, none⟩ = some (.slice A9 s.cells.length c9) := cell_of_blk hh rfl
    have t1 : w10.cell? ⟨W.heap.size + 3, 1, none⟩ = some (.slice B9 s.tin.length d9) := cell_of_blk hh rfl
    have t2 : w10.cell? ⟨W.heap.size + 3, 2, none⟩ = some (.slice D9 s.tout.length e9) := cell_of_blk hh rfl
    have t3 : w10.cell? ⟨W.heap.size + 3, 3, none⟩ = some (.int .i64 0) := cell_of_blk hh rfl
    have t4 : w10.cell? ⟨W.heap.size + 3, 4, none⟩ = some (.int .i64 20) := cell_of_blk hh rfl
    refine bodyPost_ret (v := .tuple #[.slice none 0 0, .agg #[.slice A9 s.cells.length c9, .slice B9 s.tin.length d9, .slice D9 s.tout.length e9, .int .i64 0, .int .i64 20]]) (by simp [results, Tryz.results30, go_sem, t0, t1, t2, t3, t4]) rfl ?_
    rw [HX.out]
    exact ⟨none, 0, _, _, _, rfl, (HO9.out.chg hch fun b hb => by omega).lower (by omega), fun i hi => absurd hi (by simp), Nat.le_refl _, (bl_tt HB4.out HB9.out).trans (hch.below (bl_tt HB4.out HB9.out).size fun b hb => by omega), HLM.out, fun h => by first | (simp at h; done) | exact absurd h HXN.out⟩
   ·have b47 := bl_tt b46 b7
    have HFT := Lib.hid hfit
    have HSR := Lib.hid hsr
    clear p0 s0 s1 s2 hfit hsr
    have hPB := blk_bl HK0.out b47
    have p0 : w7.cell? ⟨W.heap.size, 0, none⟩ = some (.slice A1 p.vs.length c1) := cell_of_blk hPB rfl
    have p1 : w7.cell? ⟨W.heap.size, 1, none⟩ = some (.slice A2 p.prs.length c2) := cell_of_blk hPB rfl
    have p2 : w7.cell? ⟨W.heap.size, 2, none⟩ = some (.int .u8 p.m.k) := cell_of_blk hPB rfl
    have p3 : w7.cell? ⟨W.heap.size, 3, none⟩ = some (.int .i64 p.m.n) := cell_of_blk hPB rfl
    have p4 : w7.cell? ⟨W.heap.size, 4, none⟩ = some (.string p.m.s) := cell_of_blk hPB rfl
    have p5 : w7.cell? ⟨W.heap.size, 5, none⟩ = some (.slice A3 p.m.ks.length c3) := cell_of_blk hPB rfl
    obtain ⟨hvl, hpl, hpp, -, hpm⟩ := valid_bounds HVB.out
    have hmk := bMkI p.prs.length (by omega)
    obtain ⟨np, hnp⟩ : ∃ n, p.prs.length = n := ⟨_, rfl⟩
    rw [hnp] at p1 hmk
    have HNP := Lib.hid hnp
    obtain ⟨HH, hHH⟩ : ∃ H : World → Prop, H = fun w' : World => w'.cell? ⟨W.heap.size, 0, none⟩ = some (.slice A1 p.vs.length c1) ∧ w'.cell? ⟨W.heap.size, 1, none⟩ = some (.slice A2 np c2) ∧ w'.cell? ⟨W.heap.size, 2, none⟩ = some (.int .u8 p.m.k) ∧ w'.cell? ⟨W.heap.size, 3, none⟩ = some (.int .i64 p.m.n) ∧ w'.cell? ⟨W.heap.size, 4, none⟩ = some (.string p.m.s) ∧ w'.cell? ⟨W.heap.size, 5, none⟩ = some (.slice A3 p.m.ks.length c3) := ⟨_, rfl⟩
    have HSS := Lib.hid (show ∀ w', Below w7.heap.size w7 w' → HH w' by
     rw [hHH]
     exact fun w' hb => ⟨cell_bl hb p0, cell_bl hb p1, cell_bl hb p2, cell_bl hb p3, cell_bl hb p4, cell_bl hb p5⟩)
    rw [hnp]
    go_upto_region 6 with fail
    have hSS : HH w7.drew ∧ (fun _ : World => True) w7.drew := ⟨HSS.out _ (Below.refl _ _).drew, trivial⟩
    refine wp_region_noPanic ?_
    refine wp_region_G HH (fun _ : World => True) 10 (by kernel_rfl) ?_
    subst hHH
    refine wpG_take1 (i := 0) (v := ?_) rfl (by kernel_rfl) (by kernel_rfl) (by kernel_rfl) (by decide) (fun _ _ _ h => h) (Or.inl ⟨by rfl, ?_⟩) hSS ?_
    rotate_left 1
    ·(intro w hSw; (try dsimp only at hSw); (try simp only [zA, zC]); go_simp; (try with_reducible rfl))
    (try simp only [Act.put, zA, zC, zD, zE, zF])
    refine wpG_take1 (i := 1) (v := ?_) rfl (by kernel_rfl) (by kernel_rfl) (by kernel_rfl) (by decide) (fun _ _ _ h => h) (Or.inl ⟨by rfl, ?_⟩) hSS ?_
    rotate_left 1
    ·(intro w hSw; (try dsimp only at hSw); (try simp only [zA, zB, zC]); go_simp; (try with_reducible rfl))
    (try simp only [Act.put, zA, zB, zC, zD, zE, zF])
    refine wpG_take1 (i := 2) (v := ?_) rfl (by kernel_rfl) (by kernel_rfl) (by kernel_rfl) (by decide) (fun _ _ _ h => h) (Or.inl ⟨by rfl, ?_⟩) hSS ?_
    rotate_left 1
    ·(intro w hSw; (try dsimp only at hSw); (try simp only [zA, zB, zC]); go_simp; (try with_reducible rfl))
    (try simp only [Act.put, zA, zB, zC, zD, zE, zF])
    refine wpG_take1 (i := 3) (v := ?_) rfl (by kernel_rfl) (by kernel_rfl) (by kernel_rfl) (by decide) (fun _ _ _ h => h) (Or.inl ⟨by rfl, ?_⟩) hSS ?_
    rotate_left 1
    ·(intro w hSw; (try dsimp only at hSw); (try simp only [zA, zB, zC]); go_simp; (try with_reducible rfl))
    (try simp only [Act.put, zA, zB, zC, zD, zE, zF])
    refine wpG_take1 (i := 4) (v := ?_) rfl (by kernel_rfl) (by kernel_rfl) (by kernel_rfl) (by decide) (fun _ _ _ h => h) (Or.inl ⟨by rfl, ?_⟩) hSS ?_
    rotate_left 1
    ·(intro w hSw; (try dsimp only at hSw); (try simp only [zA, zB, zC]); go_simp; (try with_reducible rfl))
    (try simp only [Act.put, zA, zB, zC, zD, zE, zF])
    refine wpG_take1 (i := 5) (v := ?_) rfl (by kernel_rfl) (by kernel_rfl) (by kernel_rfl) (by decide) (fun _ _ _ h => h) (Or.inl ⟨by rfl, ?_⟩) hSS ?_
    rotate_left 1
    ·(intro w hSw; (try dsimp only at hSw); (try simp only [zA, zB, zC]); go_simp; (try with_reducible rfl))
    (try simp only [Act.put, zA, zB, zC, zD, zE, zF])
    clear p0 p1 p2 p3 p4 p5 hPB hnp
    refine wpG_invS (fun A f l a wr => ∃ (l6 l7 l8 l9 : Bool) (v43 v44 v45 v12 : Value) (eb rb pb : Nat), f = (!l6).toNat + (!l7).toNat + (!l8).toNat + (!l9).toNat + 1 ∧ l = #[true, true, true, true, true, true, l6, l7, l8, l9, false] ∧
     a = (((A.put (some 43) v43).put (some 44) v44).put (some 45) v45).put (some 12) v12 ∧ Hid (Below w7.heap.size w7 wr) ∧
     Hid ((l7 = true → l6 = true) ∧ (l8 = true → l7 = true) ∧ (l6 = true → v43 = .slice (some ⟨eb, 0, none⟩) np np ∧ wr.heap[eb]? = some (.cells (flatI (List.replicate np 0)).toArray 3 (0, 0)) ∧ w7.heap.size ≤ eb) ∧
      (l7 = true → v44 = .agg #[.slice A1 p.vs.length c1, .slice A2 np c2, .int .u8 p.m.k, .int .i64 p.m.n, .string p.m.s, .slice A3 p.m.ks.length c3, .pointer (some ⟨P.sb, 0, none⟩), .int .i64 0, .int .i64 F, .slice (some ⟨eb, 0, none⟩) np np]) ∧
      (l8 = true → v45 = .pointer (some ⟨rb, 0, none⟩) ∧ wr.heap[rb]? = some (.cells #[.slice A1 p.vs.length c1, .slice A2 np c2, .int .u8 p.m.k, .int .i64 p.m.n, .string p.m.s, .slice A3 p.m.ks.length c3, .pointer (some ⟨P.sb, 0, none⟩), .int .i64 0, .int .i64 F, .slice (some ⟨eb, 0, none⟩) np np] 86 (0, 0)) ∧ w7.heap.size ≤ rb) ∧
      (l9 = true → v12 = .pointer (some ⟨pb, 0, none⟩) ∧ wr.heap[pb]? = some (.cells #[.pointer none] 84 (0, 0)) ∧ w7.heap.size ≤ pb)) ∧
     Hid ((l6 = false → v43 = undef) ∧ (l7 = false → v44 = undef) ∧ (l8 = false → v45 = undef) ∧ (l9 = false → v12 = undef))) (fun A f l a wr h => ?_) ?_ ⟨false, false, false, false, undef, undef, undef, undef, 0, 0, 0, rfl, rfl, (by simp only [Act.put, zD, zE, zF]), Lib.hid (Below.refl _ _).drew, Lib.hid ⟨fun h => (by cases h), fun h => (by cases h), fun h => (by cases h), fun h => (by cases h), fun h => (by cases h), fun h => (by cases h)⟩, Lib.hid ⟨fun _ => rfl, fun _ => rfl, fun _ => rfl, fun _ => rfl⟩⟩
    ·obtain ⟨_, _, _, _, _, _, _, _, _, _, _, _, _, _, hb, _⟩ := h
     exact ⟨HSS.out _ hb.out, trivial⟩
    rintro A' hA f l a wr ⟨l6, l7, l8, l9, v43, v44, v45, v12, eb, rb, pb, hf, rfl, ha, HBL, HC, HU⟩
    by_cases hall : (l6 && l7 && l8 && l9) = true
    ·left
     simp only [Bool.and_eq_true] at hall
     obtain ⟨⟨⟨rfl, rfl⟩, rfl⟩, rfl⟩ := hall
     obtain ⟨-, -, h6, h7, h8, h9⟩ := HC.out
     obtain ⟨rfl, he, hel⟩ := h6 rfl
     obtain rfl := h7 rfl
     obtain ⟨rfl, hr, hrl⟩ := h8 rfl
     obtain ⟨rfl, hq, hql⟩ := h9 rfl
     subst hf ha hA
     have hner : eb ≠ rb := blk_ne he hr (by decide)
     have hneq : eb ≠ pb := blk_ne he hq (by decide)
     have hnrq : rb ≠ pb := blk_ne hr hq (by decide)
     have c0 : wr.cell? ⟨pb, 0, none⟩ = some (.pointer none) := cell_of_blk hq rfl
     have cf : ∀ j, wr.frozen? ⟨pb, j, none⟩ = false := fun j => frozen_of_blk hq
     refine wpG_past (i := 10) (by kernel_rfl) rfl (by kernel_rfl) (fun K hK => ?_)
     (try simp only [Act.put, zA, zB, zC, zD, zE, zF])
     go_simp
     have hch : Chg (fun b => b = pb) wr (wr.setCell ⟨pb, 0, none⟩ (.pointer (some ⟨rb, 0, none⟩))) := (Chg.refl (fun b => b = pb) wr).setCell (p := ⟨pb, 0, none⟩) (.inl rfl) _
     have hh : (wr.setCell ⟨pb, 0, none⟩ (.pointer (some ⟨rb, 0, none⟩))).heap[pb]? = some (.cells #[.pointer (some ⟨rb, 0, none⟩)] 84 (0, 0)) := by
      rw [heap_setCell_same wr pb 0 _ _ (.pointer (some ⟨rb, 0, none⟩)) hq]; rfl
     have HB8 := Lib.hid (show Below w7.heap.size w7 (wr.setCell ⟨pb, 0, none⟩ (.pointer (some ⟨rb, 0, none⟩))) from HBL.out.trans (hch.below HBL.out.size fun b e => by omega))
     have HE8 := Lib.hid (hch.keep he hneq)
     have HR8 := Lib.hid (hch.keep hr hnrq)
     have HQ8 := Lib.hid hh
     obtain ⟨w8, hw8⟩ : ∃ x, wr.setCell ⟨pb, 0, none⟩ (.pointer (some ⟨rb, 0, none⟩)) = x := ⟨_, rfl⟩
     rw [hw8] at HB8 HE8 HR8 HQ8 ⊢
     refine hK.out _ _ (HSS.out _ HB8.out) ?_
     clear hK K hSS hch hh hw8 c0 cf he hr hq h6 h7 h8 h9 HC HU HBL hmk HSS
     refine wpG_done (by kernel_rfl) ?_
     refine NoPanic.normal ?_
     (try simp only [Act.put, zA, zB, zC, zD, zE, zF])
     have hlt_e := blk_lt HE8.out
     have hlt_r := blk_lt HR8.out
     have hlt_q := blk_lt HQ8.out
     obtain ⟨C, hC⟩ : ∃ C : RC, C = ⟨W, w6.heap.size, P.sb, rb, p, A1, c1, A2, c2, A3, c3, F, .slice (some ⟨eb, 0, none⟩) np np, fun b => b = pb⟩ := ⟨_, rfl⟩
     have hs67 := b7.size
     have hs46 := b46.size
     have hz4 := HZ4.out
     have hbWw6 := bl_tt HB4.out b46
     have HCO := Lib.hid (show C.Ok by
      rw [hC]
      exact ⟨HPG.out, hF, hF6, ⟨by simp only; omega, by simp only; exact hnrq⟩, ⟨by simp [Value.ownBlock]; exact hner, fun b hb hk => by simp only [Value.ownBlock, Option.some.injEq] at hb; simp only at hk; omega⟩, fun q hq => by have := (hpp q hq).1; omega⟩)
     have HRI := Lib.hid (show RI C w8 ⟨newS p.vs s, 0, List.replicate np 0⟩ by
      rw [hC]
      have hks := (KS.new hbWw6 b7 HSR.out).also HB8.out (kb' := fun b => b = pb ∨ b = rb ∨ (Value.slice (some ⟨eb, 0, none⟩) np np).ownBlock = some b) (fun b hb => .inr (by
       rcases hb with rfl | rfl | hb
       ·exact ⟨hql, hlt_q⟩
       ·exact ⟨hrl, hlt_r⟩
       ·simp [Value.ownBlock] at hb
        subst hb
        exact ⟨hel, hlt_e⟩))
      refine ⟨hks, by rw [← HNP.out] at HR8; simpa [RC.cells, HNP.out] using HR8.out, ?_, by simp [HNP.out], fun c hc => by simp at hc; omega, by simp, ?_⟩
      ·refine ⟨by simp [flatI], .inr ⟨eb, np, _, by simp, Nat.le_trans hs67 hel, HE8.out, by simp, by unfold maxLen; have := HNP.out; omega, by simp [flatI], by simp [flatI]⟩⟩
      ·exact ⟨by simp only [newS]; omega, fun f hf => by simp [newS] at hf⟩)
     have HGP := Lib.hid (GP_main HVB.out HN0.out)
     obtain ⟨o, ho⟩ : ∃ o, runO p.prs F g back p.m ⟨newS p.vs s, 0, List.replicate np 0⟩ = o := ⟨_, rfl⟩
     have hog : o ≠ .gas := ho ▸ (run_good HVB.out hg back (newS p.vs s) (List.replicate np 0)).1
     have hon : Nz o := ho ▸ runO_nz GP_GC HGP.out
     have HRR := Lib.hid (show Re = outR s o by rw [← HRE.out, resO, if_neg (by rw [HVB.out, HN0.out]; simp), if_neg (by rw [HFT.out]; simp), ← ho, ← HNP.out])
     have hHB48 := bl_tt b47 HB8.out
     obtain ⟨jb, hjb⟩ : ∃ x, w8.heap.size = x := ⟨_, rfl⟩
     obtain ⟨w9, hw9⟩ : ∃ x, w8.alloc (.cells #[.slice none 0 0, .bool false] 91) = x := ⟨_, rfl⟩
     have HAT := Lib.hid (attempt_run HCO.out HRI.out hw9 hjb (by rw [hC]; exact HGP.out) g back o (by rw [hC]; exact ho) hog pb W.heap.size (W.heap.size + 1 + 1) (by rw [hC]; exact cell_of_blk HQ8.out rfl) (by rw [hC]; simp only; rw [HNP.out]; have := blk_bl HK0.out hHB48; rw [HNP.out] at this; exact this) (cell_of_blk (blk_bl HK2.out hHB48) rfl))
     have hz9 : w9.heap.size = jb + 1 := by rw [← hw9]; simp [hjb]
     have HK89 := Lib.hid (show Kpt C.n0 C.kb w8 w9 from Kpt.of_below (hw9 ▸ bl_al (Below.refl w8.heap.size w8) _))
     have hmf : ∀ (fn : Fn) (first cap : Array Value) (w : World), (Instr.makeFunc fn first cap).run Tryz.prog w = .ok (.func fn first cap) w := fun _ _ _ _ => rfl
     have HN0C := Lib.hid (show C.n0 = w6.heap.size ∧ C.w = W ∧ C.rb = rb ∧ C.ev = .slice (some ⟨eb, 0, none⟩) np np ∧ (C.kb = fun b => b = pb) ∧ C.sb = P.sb ∧ C.p = p by rw [hC]; exact ⟨rfl, rfl, rfl, rfl, rfl, rfl, rfl⟩)
     have HHB48 := Lib.hid hHB48
     have hbWw4 := HB4.out
     have hb4s : W.heap.size ≤ w6.heap.size := hbWw6.size
     clear hC hHB48 ho hlt_e hlt_r
     go_wp2_with fail
     refine HAT.out.mono ?_
     rintro e10 w11 hat
     clear HAT hw9 hmf
     rcases hat with ⟨rfl, w10, ⟨r, rfl, hok, hri, hkp⟩, hch⟩ | ⟨x, rfl, w10, ⟨rfl, hkp, hbl⟩, hch⟩
     ·obtain ⟨hn0, hcw, hcrb, hcev, hckb, hcsb, hcp⟩ := HN0C.out
      have hri1 := RI.chgK (C := C.plus jb w9.heap.size) hok hri hch (by show C.w.heap.size ≤ _; rw [hcw]; have := HB8.out.size; omega)
      have hri2 : RI C w11 r := hri1.less.less
      have hkk : Kpt C.n0 C.kb w8 w11 := HK89.out.trans ((Kpt.less (C := C) hkp).trans (Kpt.chg hch fun b hb => ⟨by rw [hn0]; omega, by rw [hckb]; intro e; subst e; omega⟩))
      have hb411 := below_kpt hbWw4 (by have := hri2.below; rw [hcw] at this; exact this) HHB48.out hkk (by rw [hn0]; exact hs46)
      have HRI2 := Lib.hid hri2
      have HX := Lib.hid (show Re = (r.S.state, r.n, 0, r.ent) from HRR.out)
      obtain ⟨-, x7, -, x9, -⟩ := hri2.cells
      rw [hcrb] at x7 x9
      rw [hcev] at x9
      have xp : w11.cell? ⟨pb, 0, none⟩ = some (.pointer (some ⟨rb, 0, none⟩)) := cell_of_blk (hkk.blk (.inr (by rw [hckb])) HQ8.out) rfl
      have HKR := Lib.hid (blk_bl HK3.out hb411)
      have HB411 := Lib.hid hb411
      have hls := hri2.ks
      have HST := Lib.hid (fun w' (hb : Below w11.heap.size w11 w') => (hls.later hb).state)
      rw [hcsb] at HST
      have HNL := Lib.hid (show r.ent.length = np by rw [hri2.el, hcp, HNP.out])
      have HEN := Lib.hid hri2.ent
      rw [hn0, hcev] at HEN
      have hne0 : (0 : Int) = 0 := rfl
      have HSS := Lib.hid (show ∀ w', Below w11.heap.size w11 w' → (fun w' : World => w'.cell? ⟨pb, 0, none⟩ = some (.pointer (some ⟨rb, 0, none⟩)) ∧ w'.cell? ⟨rb, 7, none⟩ = some (.int .i64 r.n) ∧ w'.cell? ⟨rb, 9, none⟩ = some (.slice (some ⟨eb, 0, none⟩) np np)) w' from fun w' hb => ⟨cell_bl hb xp, cell_bl hb x7, cell_bl hb x9⟩)
      clear hri hri1 hri2 hkk hkp hls hn0 hcw hcrb hcev hckb hcsb hch x7 x9 xp hb411 hok
      go_upto_region 10 with fail
      have hSS : (fun w' : World => w'.cell? ⟨pb, 0, none⟩ = some (.pointer (some ⟨rb, 0, none⟩)) ∧ w'.cell? ⟨rb, 7, none⟩ = some (.int .i64 r.n) ∧ w'.cell? ⟨rb, 9, none⟩ = some (.slice (some ⟨eb, 0, none⟩) np np)) w11.drew ∧ (fun _ : World => True) w11.drew := ⟨HSS.out _ (Below.refl _ _).drew, trivial⟩
      refine wp_region_noPanic ?_
      refine wp_region_G (fun w' : World => w'.cell? ⟨pb, 0, none⟩ = some (.pointer (some ⟨rb, 0, none⟩)) ∧ w'.cell? ⟨rb, 7, none⟩ = some (.int .i64 r.n) ∧ w'.cell? ⟨rb, 9, none⟩ = some (.slice (some ⟨eb, 0, none⟩) np np)) (fun _ : World => True) 12 (by kernel_rfl) ?_
      refine wpG_take1 (i := 0) (v := ?_) rfl (by kernel_rfl) (by kernel_rfl) (by kernel_rfl) (by decide) (fun _ _ _ h => h) (Or.inl ⟨by rfl, ?_⟩) hSS ?_
      rotate_left 1
      ·(intro w hSw; (try dsimp only at hSw); (try simp only [zA, zC]); go_simp; (try with_reducible rfl))
      (try simp only [Act.put, zA, zC, zD, zE, zF])
      refine wpG_take1 (i := 1) (v := ?_) rfl (by kernel_rfl) (by kernel_rfl) (by kernel_rfl) (by decide) (fun _ _ _ h => h) (Or.inl ⟨by rfl, ?_⟩) hSS ?_
      rotate_left 1
      ·(intro w hSw; (try dsimp only at hSw); (try simp only [zA, zB, zC]); go_simp; (try with_reducible rfl))
      (try simp only [Act.put, zA, zB, zC, zD, zE, zF])
      refine wpG_take1 (i := 2) (v := ?_) rfl (by kernel_rfl) (by kernel_rfl) (by kernel_rfl) (by decide) (fun _ _ _ h => h) (Or.inl ⟨by rfl, ?_⟩) hSS ?_
      rotate_left 1
      ·(intro w hSw; (try dsimp only at hSw); (try simp only [zA, zB, zC]); go_simp; (try with_reducible rfl))
      (try simp only [Act.put, zA, zB, zC, zD, zE, zF])
      refine wpG_take1 (i := 3) (v := ?_) rfl (by kernel_rfl) (by kernel_rfl) (by kernel_rfl) (by decide) (fun _ _ _ h => h) (Or.inl ⟨by rfl, ?_⟩) hSS ?_
      rotate_left 1
      ·(intro w hSw; (try dsimp only at hSw); (try simp only [zA, zB, zC]); go_simp; (try with_reducible rfl))
      (try simp only [Act.put, zA, zB, zC, zD, zE, zF])
      refine wpG_take1 (i := 4) (v := ?_) rfl (by kernel_rfl) (by kernel_rfl) (by kernel_rfl) (by decide) (fun _ _ _ h => h) (Or.inl ⟨by rfl, ?_⟩) hSS ?_
      rotate_left 1
      ·(intro w hSw; (try dsimp only at hSw); (try simp only [zA, zB, zC]); go_simp; (try with_reducible rfl))
      (try simp only [Act.put, zA, zB, zC, zD, zE, zF])
      refine wpG_take1 (i := 6) (v := ?_) rfl (by kernel_rfl) (by kernel_rfl) (by kernel_rfl) (by decide) (fun _ _ _ h => h) (Or.inl ⟨by rfl, ?_⟩) hSS ?_
      rotate_left 1
      ·(intro w hSw; (try dsimp only at hSw); (try simp only [zA, zB, zC]); go_simp; (try with_reducible rfl))
      (try simp only [Act.put, zA, zB, zC, zD, zE, zF])
      refine wpG_take1 (i := 7) (v := ?_) rfl (by kernel_rfl) (by kernel_rfl) (by kernel_rfl) (by decide) (fun _ _ _ h => h) (Or.inl ⟨by rfl, ?_⟩) hSS ?_
      rotate_left 1
      ·(intro w hSw; (try dsimp only at hSw); (try simp only [zA, zB, zC]); go_simp; (try with_reducible rfl))
      (try simp only [Act.put, zA, zB, zC, zD, zE, zF])
      refine wpG_take1 (i := 8) (v := ?_) rfl (by kernel_rfl) (by kernel_rfl) (by kernel_rfl) (by decide) (fun _ _ _ h => h) (Or.inl ⟨by rfl, ?_⟩) hSS ?_
      rotate_left 1
      ·(intro w hSw; (try dsimp only at hSw); (try simp only [zA, zB, zC]); go_simp; (try with_reducible rfl))
      (try simp only [Act.put, zA, zB, zC, zD, zE, zF])
      refine wpG_take1 (i := 9) (v := ?_) rfl (by kernel_rfl) (by kernel_rfl) (by kernel_rfl) (by decide) (fun _ _ _ h => h) (Or.inl ⟨by rfl, ?_⟩) hSS ?_
      rotate_left 1
      ·(intro w hSw; (try dsimp only at hSw); (try simp only [zA, zB, zC]); go_simp; (try with_reducible rfl))
      (try simp only [Act.put, zA, zB, zC, zD, zE, zF])
      have had : Calls Tryz.prog 51 [.pointer (some ⟨P.sb, 0, none⟩)].toArray w11.drew fun e W' => ∃ v, e = .returned v ∧ (OwnS W' w11.heap.size r.S.state v ∧ Below w11.heap.size w11 W') :=
       (HST.out _ (Below.refl _ _).drew).mono fun e w' ⟨v, h1, h2, h3⟩ => ⟨v, h1, h2, bl_tt (Below.refl w11.heap.size w11).drew h3⟩
      refine wpG_one (i := 5) (by kernel_rfl) rfl (fun K hK => ?_)
      refine step_callL (by rfl) (.func 51) [.tmp 59] _ (by rfl) 51 _ fnStateI (by rfl) _ (by rfl) _ had ?_
      rintro v12 w12 ⟨ho12, hb12⟩
      obtain ⟨A9, c9, B9, d9, D9, e9, rfl⟩ := ho12.slices
      have HO12 := Lib.hid ho12
      have HB12 := Lib.hid hb12
      refine hK.out _ _ ⟨HSS.out _ hb12, trivial⟩ ?_
      have hSS2 : (fun w' : World => w'.cell? ⟨pb, 0, none⟩ = some (.pointer (some ⟨rb, 0, none⟩)) ∧ w'.cell? ⟨rb, 7, none⟩ = some (.int .i64 r.n) ∧ w'.cell? ⟨rb, 9, none⟩ = some (.slice (some ⟨eb, 0, none⟩) np np)) w12 ∧ (fun _ : World => True) w12 := ⟨HSS.out _ hb12, trivial⟩
      clear hK K hSS had ho12 hb12
      (try simp only [Act.put, zA, zB, zC, zD, zE, zF])
      have hbr := bRes1
      refine wpG_take1 (i := 10) (v := ?_) rfl (by kernel_rfl) (by kernel_rfl) (by kernel_rfl) (by decide) (fun _ _ _ h => h) (Or.inl ⟨by rfl, ?_⟩) hSS2 ?_
      rotate_left 1
      ·(intro w hSw; (try dsimp only at hSw); (try simp only [zA, zB, zC]); go_simp; (try with_reducible rfl))
      (try simp only [Act.put, zA, zB, zC, zD, zE, zF])
      refine wpG_one (i := 11) (by kernel_rfl) rfl (fun K hK => ?_)
      (try simp only [zA, zB, zC])
      go_simp
      refine hK.out _ _ ⟨HSS.out _ HB12.out, trivial⟩ ?_
      clear hK K
      (try simp only [Act.put, zA, zB, zC, zD, zE, zF])
      have hk9 := blk_bl HKR.out HB12.out
      have x0 : w12.cell? ⟨W.heap.size + 3, 0, none⟩ = some (.slice none 0 0) := cell_of_blk hk9 rfl
      have x1 : w12.cell? ⟨W.heap.size + 3, 1, none⟩ = some (.slice none 0 0) := cell_of_blk hk9 rfl
      have x2 : w12.cell? ⟨W.heap.size + 3, 2, none⟩ = some (.slice none 0 0) := cell_of_blk hk9 rfl
      have x3 : w12.cell? ⟨W.heap.size + 3, 3, none⟩ = some (.int .i64 0) := cell_of_blk hk9 rfl
      have x4 : w12.cell? ⟨W.heap.size + 3, 4, none⟩ = some (.int .i64 0) := cell_of_blk hk9 rfl
      have xf : ∀ o, w12.frozen? ⟨W.heap.size + 3, o, none⟩ = false := fun _ => frozen_of_blk hk9
      refine wpG_past (i := 12) (by kernel_rfl) rfl (by kernel_rfl) (fun K hK => ?_)
      (try simp only [Act.put, zA, zB, zC, zD, zE, zF])
      go_simp
      obtain ⟨hh, hch⟩ := set5 (u0 := .slice A9 r.S.state.cells.length c9) (u1 := .slice B9 r.S.state.tin.length d9) (u2 := .slice D9 r.S.state.tout.length e9) (u3 := .int .i64 r.n) (u4 := .int .i64 0) hk9
      obtain ⟨w13, hw13⟩ : ∃ zz, (((((w12.setCell ⟨W.heap.size + 3, 0, none⟩ (.slice A9 r.S.state.cells.length c9)).setCell ⟨W.heap.size + 3, 1, none⟩ (.slice B9 r.S.state.tin.length d9)).setCell ⟨W.heap.size + 3, 2, none⟩ (.slice D9 r.S.state.tout.length e9)).setCell ⟨W.heap.size + 3, 3, none⟩ (.int .i64 r.n)).setCell ⟨W.heap.size + 3, 4, none⟩ (.int .i64 0)) = zz := ⟨_, rfl⟩
      rw [hw13] at hh hch ⊢
      have HCH := Lib.hid hch
      have t0 : w13.cell? ⟨W.heap.size + 3, 0, none⟩ = some (.slice A9 r.S.state.cells.length c9) := cell_of_blk hh rfl
      have t1 : w13.cell? ⟨W.heap.size + 3, 1, none⟩ = some (.slice B9 r.S.state.tin.length d9) := cell_of_blk hh rfl
      have t2 : w13.cell? ⟨W.heap.size + 3, 2, none⟩ = some (.slice D9 r.S.state.tout.length e9) := cell_of_blk hh rfl
      have t3 : w13.cell? ⟨W.heap.size + 3, 3, none⟩ = some (.int .i64 r.n) := cell_of_blk hh rfl
      have t4 : w13.cell? ⟨W.heap.size + 3, 4, none⟩ = some (.int .i64 0) := cell_of_blk hh rfl
      have hszs : W.heap.size + 4 ≤ w11.heap.size := by have := HB411.out.size; omega
      have hplt : W.heap.size + 3 < w7.heap.size := by have := b47.size; omega
      refine hK.out _ _ ?_ ?_
      ·obtain ⟨q1, q2, q3⟩ := HSS.out _ HB12.out
       exact ⟨chg_cell hch q1 (by simp only; omega), chg_cell hch q2 (by simp only; omega), chg_cell hch q3 (by simp only; omega)⟩
      clear hK K hch hh hw13 x0 x1 x2 x3 x4 xf hk9 hSS2 HSS
      (try simp only [Act.put, zA, zB, zC, zD, zE, zF])
      refine wpG_done (by kernel_rfl) ?_
      refine NoPanic.normal ?_
      go_wp2_with fail
      have hrow := own_later HEN.out HB12.out
      have hrow2 := own_chg hrow (fun b hb => HCH.out.block b (hrow.lt b hb).2 (by have := (hrow.lt b hb).1; omega))
      have hI : ∀ z ∈ r.ent.map Int.ofNat, I64 z := fun z hz => by
       obtain ⟨q, hq, rfl⟩ := List.mem_map.1 hz
       have h1 := HRI2.out.en q hq
       have h2 := HRI2.out.n
       exact ⟨by simp only [Int.ofNat_eq_natCast]; omega, by simp only [Int.ofNat_eq_natCast]; omega⟩
      obtain ⟨Ae, ce, he1, he2, he3⟩ := row_IR (l := r.ent.map Int.ofNat) (by simpa using hrow2) hI
      injection he1 with he1 _ he4
      subst he1 he4
      refine bodyPost_ret (v := .tuple #[.slice (some ⟨eb, 0, none⟩) np np, .agg #[.slice A9 r.S.state.cells.length c9, .slice B9 r.S.state.tin.length d9, .slice D9 r.S.state.tout.length e9, .int .i64 r.n, .int .i64 0]]) (by simp [results, Tryz.results30, go_sem, t0, t1, t2, t3, t4]) rfl ?_
      rw [HX.out]
      refine ⟨_, _, _, _, _, by rw [HNL.out], (HO12.out.chg HCH.out fun b hb => by omega).lower (by omega), he3.keep (fun b hb _ => by have := hb4s; omega) (fun _ _ _ => rfl), by simpa using he2, ?_⟩
      exact ⟨(bl_tt hbWw4 (bl_tt HB411.out HB12.out)).trans (HCH.out.below (bl_tt hbWw4 (bl_tt HB411.out HB12.out)).size fun b hb => by omega), LimR.run HRI2.out.ks.wf HRI2.out.fb _⟩
     ·have hx : x ≠ 0 := fun e => hon (by rw [e])
      obtain ⟨hn0, hcw, hcrb, hcev, hckb, hcsb, -⟩ := HN0C.out
      have hkk : Kpt C.n0 C.kb w8 w11 := HK89.out.trans ((Kpt.less (C := C) hkp).trans (Kpt.chg hch fun b hb => ⟨by rw [hn0]; omega, by rw [hckb]; intro e; subst e; omega⟩))
      have hblA : Below C.w.heap.size C.w w10 := hbl
      rw [hcw] at hblA
      have hs8 := HB8.out.size
      have hbl2 : Below W.heap.size W w11 := hblA.trans (hch.below hblA.size fun b hb => by omega)
      have hb411 := below_kpt hbWw4 hbl2 HHB48.out hkk (by rw [hn0]; exact hs46)
      have HX := Lib.hid (show Re = (s, 0, x, []) from HRR.out)
      have e1 : (x != 0) = true := by simpa using hx
      have HXN := Lib.hid hx
      clear hn0 hcw hcrb hcev hckb hcsb hkk hbl2 hkp hbl hblA hch hon
      have hSB := blk_bl HK1.out hb411
      have hRB := blk_bl HK3.out hb411
      have s0 : w11.cell? ⟨W.heap.size + 1, 0, none⟩ = some (.slice A s.cells.length c) := cell_of_blk hSB rfl
      have s1 : w11.cell? ⟨W.heap.size + 1, 1, none⟩ = some (.slice B s.tin.length d) := cell_of_blk hSB rfl
      have s2 : w11.cell? ⟨W.heap.size + 1, 2, none⟩ = some (.slice D s.tout.length e) := cell_of_blk hSB rfl
      have HCC := Lib.hid (HCL.out w11 (bl_tt HB4.out hb411))
      have HRB := Lib.hid hRB
      have hbq := hb411
      clear hSB hRB
      go_wp2_with fail
      refine HCC.out.mono ?_
      rintro e9 w9 ⟨v9, rfl, ho9, hb9⟩
      obtain ⟨A9, c9, B9, d9, D9, e9, rfl⟩ := ho9.slices
      have HO9 := Lib.hid ho9
      have HB9 := Lib.hid (bl_tt hbq hb9)
      have hk9 := blk_bl HRB.out hb9
      have x0 : w9.cell? ⟨W.heap.size + 3, 0, none⟩ = some (.slice none 0 0) := cell_of_blk hk9 rfl
      have x1 : w9.cell? ⟨W.heap.size + 3, 1, none⟩ = some (.slice none 0 0) := cell_of_blk hk9 rfl
      have x2 : w9.cell? ⟨W.heap.size + 3, 2, none⟩ = some (.slice none 0 0) := cell_of_blk hk9 rfl
      have x3 : w9.cell? ⟨W.heap.size + 3, 3, none⟩ = some (.int .i64 0) := cell_of_blk hk9 rfl
      have x4 : w9.cell? ⟨W.heap.size + 3, 4, none⟩ = some (.int .i64 0) := cell_of_blk hk9 rfl
      have xf : ∀ o, w9.frozen? ⟨W.heap.size + 3, o, none⟩ = false := fun _ => frozen_of_blk hk9
      have HK9 := Lib.hid hk9
      have hbr := bRes
      have hsz9 : W.heap.size + 4 ≤ w11.heap.size := by have := hbq.size; rw [HZ4.out] at this; exact this
      clear s0 s1 s2 hk9 ho9 hb9 hbq HCC
      go_wp2_with fail
      obtain ⟨hh, hch⟩ := set5 (u0 := .slice A9 s.cells.length c9) (u1 := .slice B9 s.tin.length d9) (u2 := .slice D9 s.tout.length e9) (u3 := .int .i64 0) (u4 := .int .i64 x) HK9.out
      obtain ⟨w10, hw10⟩ : ∃ zz, (((((w9.setCell ⟨W.heap.size + 3, 0, none⟩ (.slice A9 s.cells.length c9)).setCell ⟨W.heap.size + 3, 1, none⟩ (.slice B9 s.tin.length d9)).setCell ⟨W.heap.size + 3, 2, none⟩ (.slice D9 s.tout.length e9)).setCell ⟨W.heap.size + 3, 3, none⟩ (.int .i64 0)).setCell ⟨W.heap.size + 3, 4, none⟩ (.int .i64 x)) = zz := ⟨_, rfl⟩
      rw [hw10] at hh hch ⊢
      have t0 : w10.cell? ⟨W.heap.size + 3, 0, none⟩ = some (.slice A9 s.cells.length c9) := cell_of_blk hh rfl
      have t1 : w10.cell? ⟨W.heap.size + 3, 1, none⟩ = some (.slice B9 s.tin.length d9) := cell_of_blk hh rfl
      have t2 : w10.cell? ⟨W.heap.size + 3, 2, none⟩ = some (.slice D9 s.tout.length e9) := cell_of_blk hh rfl
      have t3 : w10.cell? ⟨W.heap.size + 3, 3, none⟩ = some (.int .i64 0) := cell_of_blk hh rfl
      have t4 : w10.cell? ⟨W.heap.size + 3, 4, none⟩ = some (.int .i64 x) := cell_of_blk hh rfl
      refine bodyPost_ret (v := .tuple #[.slice none 0 0, .agg #[.slice A9 s.cells.length c9, .slice B9 s.tin.length d9, .slice D9 s.tout.length e9, .int .i64 0, .int .i64 x]]) (by simp [results, Tryz.results30, go_sem, t0, t1, t2, t3, t4]) rfl ?_
      rw [HX.out]
      exact ⟨none, 0, _, _, _, rfl, (HO9.out.chg hch fun b hb => by omega).lower (by omega), fun i hi => absurd hi (by simp), Nat.le_refl _, (bl_tt HB4.out HB9.out).trans (hch.below (bl_tt HB4.out HB9.out).size fun b hb => by omega), HLM.out, fun h => by first | (simp at h; done) | exact absurd h HXN.out⟩
    ·right
     have HC0 := HC.out
     have HU0 := HU.out
     have hcc : (l7 = true → l6 = true) ∧ (l8 = true → l7 = true) := ⟨HC0.1, HC0.2.1⟩
     refine ⟨f - 1, ?_, ?_, ?_⟩
     ·clear HC HC0 HU HU0 ha HBL hcc
      subst hf
      revert hall
      revert l6 l7 l8 l9
      decide
     ·clear HC HC0 HU HU0 ha HBL hf
      revert hall hcc
      revert l6 l7 l8 l9
      decide +kernel
     intro i hi
     have hcase : (i = 6 ∧ l6 = false ∧ l7 = false ∧ l8 = false) ∨ (i = 7 ∧ l7 = false ∧ l6 = true ∧ l8 = false) ∨ (i = 8 ∧ l8 = false ∧ l6 = true ∧ l7 = true) ∨ (i = 9 ∧ l9 = false) := by
      refine of_decide_eq_true ((List.all_eq_true (p := fun i => decide ((i = 6 ∧ l6 = false ∧ l7 = false ∧ l8 = false) ∨ (i = 7 ∧ l7 = false ∧ l6 = true ∧ l8 = false) ∨ (i = 8 ∧ l8 = false ∧ l6 = true ∧ l7 = true) ∨ (i = 9 ∧ l9 = false)))).1 ?_ i hi)
      clear HC HC0 HU HU0 ha HBL hf hi
      revert hall hcc
      revert l6 l7 l8 l9
      decide +kernel
     clear hi hall
     subst ha hA
     rcases hcase with ⟨rfl, rfl, rfl, rfl⟩ | ⟨rfl, rfl, rfl, rfl⟩ | ⟨rfl, rfl, rfl, rfl⟩ | ⟨rfl, rfl⟩
     ·refine wpOp_step rfl (fun K' hK0 => ?_)
      have hK := Lib.hid hK0
      clear hK0
      have hU1 := HU0.1 rfl
      have hU2 := HU0.2.1 rfl
      have hU3 := HU0.2.2.1 rfl
      subst hU1 hU2 hU3
      (try simp only [Act.put, zA, zB, zC, zD, zE, zF])
      go_simp
      have hsz := HBL.out.size
      exact hK.out _ _ ⟨true, false, false, l9, _, undef, undef, v12, wr.heap.size, 0, pb, (by subst hf; simp <;> omega), rfl, (by simp only [Act.put, zA, zB, zC, zD, zE, zF]), Lib.hid (bl_al HBL.out _), Lib.hid ⟨fun h => (by cases h), fun h => (by cases h), fun _ => ⟨rfl, heap_alloc_new wr _, hsz⟩, fun h => (by cases h), fun h => (by cases h), fun h => ⟨(HC0.2.2.2.2.2 h).1, blk_al (HC0.2.2.2.2.2 h).2.1 _, (HC0.2.2.2.2.2 h).2.2⟩⟩, Lib.hid ⟨fun h => (by cases h), fun _ => rfl, fun _ => rfl, HU0.2.2.2⟩⟩
     ·refine wpOp_step rfl (fun K' hK0 => ?_)
      have hK := Lib.hid hK0
      clear hK0
      have hU2 := HU0.2.1 rfl
      have hU3 := HU0.2.2.1 rfl
      obtain ⟨hv6, he, hel⟩ := HC0.2.2.1 rfl
      subst hU2 hU3 hv6
      have hbn := bRun
      (try simp only [Act.put, zA, zB, zC, zD, zE, zF])
      go_simp
      exact hK.out _ _ ⟨true, true, false, l9, _, _, undef, v12, eb, 0, pb, (by subst hf; simp <;> omega), rfl, (by simp only [Act.put, zA, zB, zC, zD, zE, zF]), HBL, Lib.hid ⟨fun _ => rfl, fun h => (by cases h), fun _ => ⟨rfl, he, hel⟩, fun _ => rfl, fun h => (by cases h), HC0.2.2.2.2.2⟩, Lib.hid ⟨fun h => (by cases h), fun h => (by cases h), fun _ => rfl, HU0.2.2.2⟩⟩
     ·refine wpOp_step rfl (fun K' hK0 => ?_)
      have hK := Lib.hid hK0
      clear hK0
      have hU3 := HU0.2.2.1 rfl
      obtain ⟨hv6, he, hel⟩ := HC0.2.2.1 rfl
      have hv7 := HC0.2.2.2.1 rfl
      subst hU3 hv6 hv7
      (try simp only [Act.put, zA, zB, zC, zD, zE, zF])
      go_simp
      have hsz := HBL.out.size
      exact hK.out _ _ ⟨true, true, true, l9, _, _, _, v12, eb, wr.heap.size, pb, (by subst hf; simp <;> omega), rfl, (by simp only [Act.put, zA, zB, zC, zD, zE, zF]), Lib.hid (bl_al HBL.out _), Lib.hid ⟨fun _ => rfl, fun _ => rfl, fun _ => ⟨rfl, blk_al he _, hel⟩, fun _ => rfl, fun _ => ⟨rfl, heap_alloc_new wr _, hsz⟩, fun h => ⟨(HC0.2.2.2.2.2 h).1, blk_al (HC0.2.2.2.2.2 h).2.1 _, (HC0.2.2.2.2.2 h).2.2⟩⟩, Lib.hid ⟨fun h => (by cases h), fun h => (by cases h), fun h => (by cases h), HU0.2.2.2⟩⟩
     ·refine wpOp_step rfl (fun K' hK0 => ?_)
      have hK := Lib.hid hK0
      clear hK0
      have hU4 := HU0.2.2.2 rfl
      subst hU4
      (try simp only [Act.put, zA, zB, zC, zD, zE, zF])
      go_simp
      have hsz := HBL.out.size
      exact hK.out _ _ ⟨l6, l7, l8, true, v43, v44, v45, _, eb, rb, wr.heap.size, (by subst hf; simp <;> omega), rfl, (by simp only [Act.put, zA, zB, zC, zD, zE, zF]), Lib.hid (bl_al HBL.out _), Lib.hid ⟨HC0.1, HC0.2.1, fun h => ⟨(HC0.2.2.1 h).1, blk_al (HC0.2.2.1 h).2.1 _, (HC0.2.2.1 h).2.2⟩, HC0.2.2.2.1, fun h => ⟨(HC0.2.2.2.2.1 h).1, blk_al (HC0.2.2.2.2.1 h).2.1 _, (HC0.2.2.2.2.1 h).2.2⟩, fun _ => ⟨rfl, heap_alloc_new wr _, hsz⟩⟩, Lib.hid ⟨HU0.1, HU0.2.1, HU0.2.2.1, fun h => (by cases h)⟩⟩
  ·have HX := Lib.hid (show Re = (s, 0, 3, []) by rw [← HRE.out, resO, if_pos (.inr hn)])
   obtain ⟨n, hnn⟩ : ∃ n, chkN p = n := ⟨_, rfl⟩
   rw [hnn]
   have hng : (0 : Int) < (n : Int) := by omega
   clear hn hnn
   have hSB := blk_bl HK1.out b46
   have hRB := blk_bl HK3.out b46
   have s0 : w6.cell? ⟨W.heap.size + 1, 0, none⟩ = some (.slice A s.cells.length c) := cell_of_blk hSB rfl
   have s1 : w6.cell? ⟨W.heap.size + 1, 1, none⟩ = some (.slice B s.tin.length d) := cell_of_blk hSB rfl
   have s2 : w6.cell? ⟨W.heap.size + 1, 2, none⟩ = some (.slice D s.tout.length e) := cell_of_blk hSB rfl
   have HCC := Lib.hid (HCL.out w6 (bl_tt HB4.out b46))
   have HRB := Lib.hid hRB
   have hbq := b46
   clear hSB hRB
   go_wp2_with fail
   refine HCC.out.mono ?_
   rintro e9 w9 ⟨v9, rfl, ho9, hb9⟩
   obtain ⟨A9, c9, B9, d9, D9, e9, rfl⟩ := ho9.slices
   have HO9 := Lib.hid ho9
   have HB9 := Lib.hid (bl_tt hbq hb9)
   have hk9 := blk_bl HRB.out hb9
   have x0 : w9.cell? ⟨W.heap.size + 3, 0, none⟩ = some (.slice none 0 0) := cell_of_blk hk9 rfl
   have x1 : w9.cell? ⟨W.heap.size + 3, 1, none⟩ = some (.slice none 0 0) := cell_of_blk hk9 rfl
   have x2 : w9.cell? ⟨W.heap.size + 3, 2, none⟩ = some (.slice none 0 0) := cell_of_blk hk9 rfl
   have x3 : w9.cell? ⟨W.heap.size + 3, 3, none⟩ = some (.int .i64 0) := cell_of_blk hk9 rfl
   have x4 : w9.cell? ⟨W.heap.size + 3, 4, none⟩ = some (.int .i64 0) := cell_of_blk hk9 rfl
   have xf : ∀ o, w9.frozen? ⟨W.heap.size + 3, o, none⟩ = false := fun _ => frozen_of_blk hk9
   have HK9 := Lib.hid hk9
   have hbr := bRes
   have hsz9 : W.heap.size + 4 ≤ w6.heap.size := by have := hbq.size; rw [HZ4.out] at this; exact this
   clear s0 s1 s2 hk9 ho9 hb9 hbq HCC
   go_wp2_with fail
   obtain ⟨hh, hch⟩ := set5 (u0 := .slice A9 s.cells.length c9) (u1 := .slice B9 s.tin.length d9) (u2 := .slice D9 s.tout.length e9) (u3 := .int .i64 0) (u4 := .int .i64 3) HK9.out
   obtain ⟨w10, hw10⟩ : ∃ zz, (((((w9.setCell ⟨W.heap.size + 3, 0, none⟩ (.slice A9 s.cells.length c9)).setCell ⟨W.heap.size + 3, 1, none⟩ (.slice B9 s.tin.length d9)).setCell ⟨W.heap.size + 3, 2, none⟩ (.slice D9 s.tout.length e9)).setCell ⟨W.heap.size + 3, 3, none⟩ (.int .i64 0)).setCell ⟨W.heap.size + 3, 4, none⟩ (.int .i64 3)) = zz := ⟨_, rfl⟩
   rw [hw10] at hh hch ⊢
   have t0 : w10.cell? ⟨W.heap.size + 3, 0, none⟩ = some (.slice A9 s.cells.length c9) := cell_of_blk hh rfl
   have t1 : w10.cell? ⟨W.heap.size + 3, 1, none⟩ = some (.slice B9 s.tin.length d9) := cell_of_blk hh rfl
   have t2 : w10.cell? ⟨W.heap.size + 3, 2, none⟩ = some (.slice D9 s.tout.length e9) := cell_of_blk hh rfl
   have t3 : w10.cell? ⟨W.heap.size + 3, 3, none⟩ = some (.int .i64 0) := cell_of_blk hh rfl
   have t4 : w10.cell? ⟨W.heap.size + 3, 4, none⟩ = some (.int .i64 3) := cell_of_blk hh rfl
   refine bodyPost_ret (v := .tuple #[.slice none 0 0, .agg #[.slice A9 s.cells.length c9, .slice B9 s.tin.length d9, .slice D9 s.tout.length e9, .int .i64 0, .int .i64 3]]) (by simp [results, Tryz.results30, go_sem, t0, t1, t2, t3, t4]) rfl ?_
   rw [HX.out]
   exact ⟨none, 0, _, _, _, rfl, (HO9.out.chg hch fun b hb => by omega).lower (by omega), fun i hi => absurd hi (by simp), Nat.le_refl _, (bl_tt HB4.out HB9.out).trans (hch.below (bl_tt HB4.out HB9.out).size fun b hb => by omega), HLM.out, fun h => by first | (simp at h; done) | exact absurd h HXN.out⟩
end Go.Proofs.YtgnfpcebmefhoaaGreat
namespace Go.Proofs.YtgnfpcebmefhoaaGreat
open Go Go.RowKit
def FwP (W : World) (R : SS × Nat × Int × List Nat) (e : Ending) (W' : World) : Prop := ∃ v1 v2 v3, e = .returned (.agg #[v1, v2, v3, .int .i64 (R.2.1 : Int), .int .i64 R.2.2.1]) ∧
 OwnS W' W.heap.size R.1 (.agg #[v1, v2, v3]) ∧ Below W.heap.size W W' ∧ LimR R
set_option maxHeartbeats 1000000 in
set_option maxRecDepth 100000 in
theorem Forward_any (p : PG) (s : SS) (F : Int) (g : Nat) (v sv : Value) (W : World) (hp : PV W Any p v) (hs : SV W Any s sv) (hcl : s.cells.length ≤ 1000000) (hF : I64 F) (hF6 : F ≤ 1000000) (hg : F.toNat * 2000 + 2000 ≤ g) :
  Calls Tryz.prog 15 #[v, sv, .int .i64 F] W (FwP W (resO p s F g false)) := by
 have HPX := Lib.hid hp
 have HSX := Lib.hid hs
 obtain ⟨A1, c1, A2, c2, A3, c3, rfl, hpg⟩ := hp
 obtain ⟨A, c, B, d, D, e, rfl, hr1, hr2, hr3, hc1, hc2, hc3, hl1, hl2, hl3, hl4⟩ := hs
 have HST := Lib.hid (fun w' (hb : Below W.heap.size W w') => start_any p s F g false _ _ w' (HPX.out.later hb) (HSX.out.later hb) hcl hF hF6 hg)
 have hb3 := bl_al (bl_al (bl_al (Below.refl W.heap.size W) (.cells #[.slice A1 p.vs.length c1, .slice A2 p.prs.length c2, .int .u8 p.m.k, .int .i64 p.m.n, .string p.m.s, .slice A3 p.m.ks.length c3] 28)) (.cells #[.slice A s.cells.length c, .slice B s.tin.length d, .slice D s.tout.length e] 32)) (.cells #[.slice none 0 0, .slice none 0 0, .slice none 0 0, .int .i64 0, .int .i64 0] 37)
 have k2 := heap_alloc_new ((W.alloc (.cells #[.slice A1 p.vs.length c1, .slice A2 p.prs.length c2, .int .u8 p.m.k, .int .i64 p.m.n, .string p.m.s, .slice A3 p.m.ks.length c3] 28)).alloc (.cells #[.slice A s.cells.length c, .slice B s.tin.length d, .slice D s.tout.length e] 32)) (.cells #[.slice none 0 0, .slice none 0 0, .slice none 0 0, .int .i64 0, .int .i64 0] 37)
 simp only [World.size_alloc] at k2
 obtain ⟨Re, hRe⟩ : ∃ R, resO p s F g false = R := ⟨_, rfl⟩
 rw [hRe] at HST
 have HR := Lib.hid hRe
 have HB3 := Lib.hid hb3
 have HK2 := Lib.hid k2
 have hz3 : W.heap.size + 3 ≤ (((W.alloc (.cells #[.slice A1 p.vs.length c1, .slice A2 p.prs.length c2, .int .u8 p.m.k, .int .i64 p.m.n, .string p.m.s, .slice A3 p.m.ks.length c3] 28)).alloc (.cells #[.slice A s.cells.length c, .slice B s.tin.length d, .slice D s.tout.length e] 32)).alloc (.cells #[.slice none 0 0, .slice none 0 0, .slice none 0 0, .int .i64 0, .int .i64 0] 37)).heap.size := by simp
 rw [hRe]
 clear hpg hr1 hr2 hr3 hRe hb3 k2 hl1 hl2 hl3 hl4 hc1 hc2 hc3
 go_enter Tryz.func15, Tryz.ntmps15
 go_wp2_with fail
 refine (HST.out _ HB3.out).mono ?_
 rintro e9 w9 ⟨A9, c9, v1, v2, v3, rfl, ho9, -, -, hb9, hlm9⟩
 have HLM := Lib.hid hlm9
 clear hlm9
 obtain ⟨A4, c4, B5, d5, D6, e6, h6⟩ := ho9.slices
 injection h6 with h6
 injection h6 with h6
 injection h6 with h6 h7
 injection h7 with h7 h8
 injection h8 with h8 _
 subst h6 h7 h8
 have HO9 := Lib.hid ho9
 have HB9 := Lib.hid hb9
 have hk9 := blk_bl HK2.out hb9
 have x0 : w9.cell? ⟨W.heap.size + 1 + 1, 0, none⟩ = some (.slice none 0 0) := cell_of_blk hk9 rfl
 have x1 : w9.cell? ⟨W.heap.size + 1 + 1, 1, none⟩ = some (.slice none 0 0) := cell_of_blk hk9 rfl
 have x2 : w9.cell? ⟨W.heap.size + 1 + 1, 2, none⟩ = some (.slice none 0 0) := cell_of_blk hk9 rfl
 have x3 : w9.cell? ⟨W.heap.size + 1 + 1, 3, none⟩ = some (.int .i64 0) := cell_of_blk hk9 rfl
 have x4 : w9.cell? ⟨W.heap.size + 1 + 1, 4, none⟩ = some (.int .i64 0) := cell_of_blk hk9 rfl
 have xf : ∀ o, w9.frozen? ⟨W.heap.size + 1 + 1, o, none⟩ = false := fun _ => frozen_of_blk hk9
 have y0 := fun o => cell_al x0 o
 have y1 := fun o => cell_al x1 o
 have y2 := fun o => cell_al x2 o
 have y3 := fun o => cell_al x3 o
 have y4 := fun o => cell_al x4 o
 have hlt9 : W.heap.size + 1 + 1 < w9.heap.size := blk_lt hk9
 have HK9 := Lib.hid hk9
 clear ho9 hb9 hk9
 go_wp2_with fail
 obtain ⟨hh, hch⟩ := set5 (u0 := .slice A4 Re.1.cells.length c4) (u1 := .slice B5 Re.1.tin.length d5) (u2 := .slice D6 Re.1.tout.length e6) (u3 := .int .i64 (Re.2.1 : Int)) (u4 := .int .i64 Re.2.2.1) HK9.out
 obtain ⟨w10, hw10⟩ : ∃ zz, (((((w9.setCell ⟨W.heap.size + 1 + 1, 0, none⟩ (.slice A4 Re.1.cells.length c4)).setCell ⟨W.heap.size + 1 + 1, 1, none⟩ (.slice B5 Re.1.tin.length d5)).setCell ⟨W.heap.size + 1 + 1, 2, none⟩ (.slice D6 Re.1.tout.length e6)).setCell ⟨W.heap.size + 1 + 1, 3, none⟩ (.int .i64 (Re.2.1 : Int))).setCell ⟨W.heap.size + 1 + 1, 4, none⟩ (.int .i64 Re.2.2.1)) = zz := ⟨_, rfl⟩
 rw [hw10] at hh hch ⊢
 obtain ⟨w11, hw11⟩ : ∃ zz, w10.alloc (.cells #[.slice A4 Re.1.cells.length c4, .slice B5 Re.1.tin.length d5, .slice D6 Re.1.tout.length e6, .int .i64 (Re.2.1 : Int), .int .i64 Re.2.2.1] 37) = zz := ⟨_, rfl⟩
 rw [hw11]
 have t0 : w11.cell? ⟨W.heap.size + 1 + 1, 0, none⟩ = some (.slice A4 Re.1.cells.length c4) := hw11 ▸ cell_al (cell_of_blk hh rfl) _
 have t1 : w11.cell? ⟨W.heap.size + 1 + 1, 1, none⟩ = some (.slice B5 Re.1.tin.length d5) := hw11 ▸ cell_al (cell_of_blk hh rfl) _
 have t2 : w11.cell? ⟨W.heap.size + 1 + 1, 2, none⟩ = some (.slice D6 Re.1.tout.length e6) := hw11 ▸ cell_al (cell_of_blk hh rfl) _
 have t3 : w11.cell? ⟨W.heap.size + 1 + 1, 3, none⟩ = some (.int .i64 (Re.2.1 : Int)) := hw11 ▸ cell_al (cell_of_blk hh rfl) _
 have t4 : w11.cell? ⟨W.heap.size + 1 + 1, 4, none⟩ = some (.int .i64 Re.2.2.1) := hw11 ▸ cell_al (cell_of_blk hh rfl) _
 refine bodyPost_ret (v := .agg #[.slice A4 Re.1.cells.length c4, .slice B5 Re.1.tin.length d5, .slice D6 Re.1.tout.length e6, .int .i64 (Re.2.1 : Int), .int .i64 Re.2.2.1]) (by simp [results, Tryz.results15, go_sem, t0, t1, t2, t3, t4]) rfl ?_
 have hz33 := hz3
 have hb39 : Below W.heap.size W w9 := bl_tt HB3.out HB9.out
 have hc11 : Chg (fun b => b = W.heap.size + 1 + 1) w9 w11 := hw11 ▸ hch.alloc _
 have ho11 := HO9.out.chg hc11 fun b hb => by omega
 have hb11 := hb39.trans (hc11.below hb39.size fun b hb => by omega)
 exact ⟨_, _, _, rfl, ho11.lower (by omega), hb11, HLM.out⟩
set_option maxHeartbeats 1000000 in
set_option maxRecDepth 100000 in
theorem Backward_any (p : PG) (s : SS) (F : Int) (g : Nat) (v sv : Value) (W : World) (hp : PV W Any p v) (hs : SV W Any s sv) (hcl : s.cells.length ≤ 1000000) (hF : I64 F) (hF6 : F ≤ 1000000) (hg : F.toNat * 2000 + 2000 ≤ g) :
  Calls Tryz.prog 18 #[v, sv, .int .i64 F] W (FwP W (resO p s F g true)) := by
 have HPX := Lib.hid hp
 have HSX := Lib.hid hs
 obtain ⟨A1, c1, A2, c2, A3, c3, rfl, hpg⟩ := hp
 obtain ⟨A, c, B, d, D, e, rfl, hr1, hr2, hr3, hc1, hc2, hc3, hl1, hl2, hl3, hl4⟩ := hs
 have HST := Lib.hid (fun w' (hb : Below W.heap.size W w') => start_any p s F g true _ _ w' (HPX.out.later hb) (HSX.out.later hb) hcl hF hF6 hg)
 have hb3 := bl_al (bl_al (bl_al (Below.refl W.heap.size W) (.cells #[.slice A1 p.vs.length c1, .slice A2 p.prs.length c2, .int .u8 p.m.k, .int .i64 p.m.n, .string p.m.s, .slice A3 p.m.ks.length c3] 28)) (.cells #[.slice A s.cells.length c, .slice B s.tin.length d, .slice D s.tout.length e] 32)) (.cells #[.slice none 0 0, .slice none 0 0, .slice none 0 0, .int .i64 0, .int .i64 0] 37)
 have k2 := heap_alloc_new ((W.alloc (.cells #[.slice A1 p.vs.length c1, .slice A2 p.prs.length c2, .int .u8 p.m.k, .int .i64 p.m.n, .string p.m.s, .slice A3 p.m.ks.length c3] 28)).alloc (.cells #[.slice A s.cells.length c, .slice B s.tin.length d, .slice D s.tout.length e] 32)) (.cells #[.slice none 0 0, .slice none 0 0, .slice none 0 0, .int .i64 0, .int .i64 0] 37)
 simp only [World.size_alloc] at k2
 obtain ⟨Re, hRe⟩ : ∃ R, resO p s F g true = R := ⟨_, rfl⟩
 rw [hRe] at HST
 have HR := Lib.hid hRe
 have HB3 := Lib.hid hb3
 have HK2 := Lib.hid k2
 have hz3 : W.heap.size + 3 ≤ (((W.alloc (.cells #[.slice A1 p.vs.length c1, .slice A2 p.prs.length c2, .int .u8 p.m.k, .int .i64 p.m.n, .string p.m.s, .slice A3 p.m.ks.length c3] 28)).alloc (.cells #[.slice A s.cells.length c, .slice B s.tin.length d, .slice D s.tout.length e] 32)).alloc (.cells #[.slice none 0 0, .slice none 0 0, .slice none 0 0, .int .i64 0, .int .i64 0] 37)).heap.size := by simp
 rw [hRe]
 clear hpg hr1 hr2 hr3 hRe hb3 k2 hl1 hl2 hl3 hl4 hc1 hc2 hc3
 go_enter Tryz.func18, Tryz.ntmps18
 go_wp2_with fail
 refine (HST.out _ HB3.out).mono ?_
 rintro e9 w9 ⟨A9, c9, v1, v2, v3, rfl, ho9, -, -, hb9, hlm9⟩
 have HLM := Lib.hid hlm9
 clear hlm9
 obtain ⟨A4, c4, B5, d5, D6, e6, h6⟩ := ho9.slices
 injection h6 with h6
 injection h6 with h6
 injection h6 with h6 h7
 injection h7 with h7 h8
 injection h8 with h8 _
 subst h6 h7 h8
 have HO9 := Lib.hid ho9
 have HB9 := Lib.hid hb9
 have hk9 := blk_bl HK2.out hb9
 have x0 : w9.cell? ⟨W.heap.size + 1 + 1, 0, none⟩ = some (.slice none 0 0) := cell_of_blk hk9 rfl
 have x1 : w9.cell? ⟨W.heap.size + 1 + 1, 1, none⟩ = some (.slice none 0 0) := cell_of_blk hk9 rfl
 have x2 : w9.cell? ⟨W.heap.size + 1 + 1, 2, none⟩ = some (.slice none 0 0) := cell_of_blk hk9 rfl
 have x3 : w9.cell? ⟨W.heap.size + 1 + 1, 3, none⟩ = some (.int .i64 0) := cell_of_blk hk9 rfl
 have x4 : w9.cell? ⟨W.heap.size + 1 + 1, 4, none⟩ = some (.int .i64 0) := cell_of_blk hk9 rfl
 have xf : ∀ o, w9.frozen? ⟨W.heap.size + 1 + 1, o, none⟩ = false := fun _ => frozen_of_blk hk9
 have y0 := fun o => cell_al x0 o
 have y1 := fun o => cell_al x1 o
 have y2 := fun o => cell_al x2 o
 have y3 := fun o => cell_al x3 o
 have y4 := fun o => cell_al x4 o
 have hlt9 : W.heap.size + 1 + 1 < w9.heap.size := blk_lt hk9
 have HK9 := Lib.hid hk9
 clear ho9 hb9 hk9
 go_wp2_with fail
 obtain ⟨hh, hch⟩ := set5 (u0 := .slice A4 Re.1.cells.length c4) (u1 := .slice B5 Re.1.tin.length d5) (u2 := .slice D6 Re.1.tout.length e6) (u3 := .int .i64 (Re.2.1 : Int)) (u4 := .int .i64 Re.2.2.1) HK9.out
 obtain ⟨w10, hw10⟩ : ∃ zz, (((((w9.setCell ⟨W.heap.size + 1 + 1, 0, none⟩ (.slice A4 Re.1.cells.length c4)).setCell ⟨W.heap.size + 1 + 1, 1, none⟩ (.slice B5 Re.1.tin.length d5)).setCell ⟨W.heap.size + 1 + 1, 2, none⟩ (.slice D6 Re.1.tout.length e6)).setCell ⟨W.heap.size + 1 + 1, 3, none⟩ (.int .i64 (Re.2.1 : Int))).setCell ⟨W.heap.size + 1 + 1, 4, none⟩ (.int .i64 Re.2.2.1)) = zz := ⟨_, rfl⟩
 rw [hw10] at hh hch ⊢
 obtain ⟨w11, hw11⟩ : ∃ zz, w10.alloc (.cells #[.slice A4 Re.1.cells.length c4, .slice B5 Re.1.tin.length d5, .slice D6 Re.1.tout.length e6, .int .i64 (Re.2.1 : Int), .int .i64 Re.2.2.1] 37) = zz := ⟨_, rfl⟩
 rw [hw11]
 have t0 : w11.cell? ⟨W.heap.size + 1 + 1, 0, none⟩ = some (.slice A4 Re.1.cells.length c4) := hw11 ▸ cell_al (cell_of_blk hh rfl) _
 have t1 : w11.cell? ⟨W.heap.size + 1 + 1, 1, none⟩ = some (.slice B5 Re.1.tin.length d5) := hw11 ▸ cell_al (cell_of_blk hh rfl) _
 have t2 : w11.cell? ⟨W.heap.size + 1 + 1, 2, none⟩ = some (.slice D6 Re.1.tout.length e6) := hw11 ▸ cell_al (cell_of_blk hh rfl) _
 have t3 : w11.cell? ⟨W.heap.size + 1 + 1, 3, none⟩ = some (.int .i64 (Re.2.1 : Int)) := hw11 ▸ cell_al (cell_of_blk hh rfl) _
 have t4 : w11.cell? ⟨W.heap.size + 1 + 1, 4, none⟩ = some (.int .i64 Re.2.2.1) := hw11 ▸ cell_al (cell_of_blk hh rfl) _
 refine bodyPost_ret (v := .agg #[.slice A4 Re.1.cells.length c4, .slice B5 Re.1.tin.length d5, .slice D6 Re.1.tout.length e6, .int .i64 (Re.2.1 : Int), .int .i64 Re.2.2.1]) (by simp [results, Tryz.results18, go_sem, t0, t1, t2, t3, t4]) rfl ?_
 have hz33 := hz3
 have hb39 : Below W.heap.size W w9 := bl_tt HB3.out HB9.out
 have hc11 : Chg (fun b => b = W.heap.size + 1 + 1) w9 w11 := hw11 ▸ hch.alloc _
 have ho11 := HO9.out.chg hc11 fun b hb => by omega
 have hb11 := hb39.trans (hc11.below hb39.size fun b hb => by omega)
 exact ⟨_, _, _, rfl, ho11.lower (by omega), hb11, HLM.out⟩
end Go.Proofs.YtgnfpcebmefhoaaGreat
