/-
  backstepref10.Clone: a state in new memory.
-/
import Derived.Test.YtekjfbnggfbfhaaLo
namespace Go.Proofs.Ytekjfbnggfbfhaa
open Go Go.RowKit

theorem bI0 (w : World) : (Instr.buildSlice 26 0 #[]).run Try.prog w = .ok (.slice (some ⟨w.heap.size, 0, none⟩) 0 0) (w.alloc (.cells #[] 3)) := by kernel_rfl
theorem bII1' (A : Option Addr) (l c : Nat) (w : World) : (Instr.buildSlice 27 1 #[(0, .slice A l c)]).run Try.prog w = .ok (.slice (some ⟨w.heap.size, 0, none⟩) 1 1) (w.alloc (.cells #[.slice A l c] 26)) := by kernel_rfl
theorem bS12 (B C : Option Addr) (m d n e : Nat) (w : World) : (Instr.build 29 #[(1, .slice B m d), (2, .slice C n e)]).run Try.prog w = .ok (.agg #[.slice none 0 0, .slice B m d, .slice C n e]) w := by kernel_rfl
section
variable {P : Program} {ops : Array Oper} {Q : Exit → Act → World → Prop} {md : Region.Mode} {S1 S2 : World → Prop} {k : Nat}
/-- A region that draws its order, by a condition that gives the two conditions on the world. -/
theorem wpG_invS' (I : Nat → Array Bool → Act → World → Prop) (hS : ∀ f l a w, I f l a w → S1 w ∧ S2 w)
    (h : ∀ f l a w, I f l a w → wpG P md ops Q S1 S2 k f l a w ∨ ∃ f', f = f' + 1 ∧ Region.ready md ops l ≠ [] ∧ ∀ i ∈ Region.ready md ops l, wpOp P ops Q i (fun a' w' => I f' (l.setIfInBounds i true) a' w') a w) :
    ∀ f l a w, I f l a w → wpG P md ops Q S1 S2 k f l a w
  | 0, l, a, w, hi => by
    rcases h 0 l a w hi with h1 | ⟨f', h1, _⟩
    · exact h1
    · omega
  | f + 1, l, a, w, hi => by
    rcases h (f + 1) l a w hi with h1 | ⟨f', h1, h2, h3⟩
    · exact h1
    · obtain rfl : f = f' := by omega
      exact ⟨fun h0 => absurd h0 h2, fun i hm => wpOp_mono (fun a' w' h' => ⟨⟨(hS _ _ _ _ h').1, fun _ => (hS _ _ _ _ h').2⟩, wpG_invS' I hS h f _ a' w' h'⟩) (h3 i hm)⟩
theorem wpG_invS {a0 : Act} {f0 : Nat} {l0 : Array Bool} {w0 : World} (I : Act → Nat → Array Bool → Act → World → Prop) (hS : ∀ A f l a w, I A f l a w → S1 w ∧ S2 w)
    (h : ∀ A, A = a0 → ∀ f l a w, I A f l a w → wpG P md ops Q S1 S2 k f l a w ∨ ∃ f', f = f' + 1 ∧ Region.ready md ops l ≠ [] ∧ ∀ i ∈ Region.ready md ops l, wpOp P ops Q i (fun a' w' => I A f' (l.setIfInBounds i true) a' w') a w)
    (h0 : I a0 f0 l0 a0 w0) : wpG P md ops Q S1 S2 k f0 l0 a0 w0 := wpG_invS' (I a0) (hS a0) (h a0 rfl) _ _ _ _ h0
end
set_option maxRecDepth 100000 in
/-- append behind a row of its own, of a row of integers that may be nil. -/
theorem step_append_I {ops : Array Oper} {o : Oper} {a : Act} {W : World} {K : Act → World → Prop} {Q : Exit → Act → World → Prop} {F : Prop} (hgd : o.guard = none) (s x : Operand)
    (ho : o.op = .call { callee := .builtin .append, args := #[s, x], argTypes := #[26, 26] }) (base : Nat) (v : Value) (n : Nat) (xs : List Value) (hs : a.eval s = v) (hrow : W.ownsRow base 3 1 v n xs)
    (A : Option Addr) (l : List Int) (c : Nat) (hx : a.eval x = .slice A l.length c) (hr : RowI W Any A l) (hl : l.length ≤ LI) (hn : n = 0) (hb : base ≤ W.heap.size)
    (h : ∀ v' w', w'.ownsRow base 3 1 v' (n + l.length) (xs ++ flatI l) → W.grownBy w' v.ownBlock → (v'.ownBlock = v.ownBlock ∨ v'.ownBlock = some W.heap.size) → K (a.put o.dst v') w') :
    if Region.wanted o (yielded ops a.tmps) = true then Oper.wp Try.prog o a W K Q else F := by
  obtain ⟨i, hi, hz0, hz1, hz2⟩ := info_parts intInfo
  unfold LI at hl
  rcases A with _ | ad
  · have hl0 : l = [] := by
      rcases l with _ | ⟨y, l⟩
      · rfl
      · obtain ⟨_, h0, _⟩ := hr 0 (by simp); cases h0
    subst hl0
    have hw : Region.wanted o (yielded ops a.tmps) = true := by simp [Region.wanted, hgd]
    rw [if_pos hw]
    have hrun : (Builtin.append_ #[26, 26] o.type #[v, .slice none 0 c]).run Try.prog W = .ok v W := by
      rcases hrow.2 with ⟨rfl, h0⟩ | ⟨g, cap, cur, rfl, _, _, hnc, _⟩
      · simp [Builtin.append_, run_underlying Try.underlying26, sizeOf, typeInfo, hi, Builtin.lenOf, Builtin.firstCells]
      · simp [Builtin.append_, run_underlying Try.underlying26, sizeOf, typeInfo, hi, Builtin.lenOf, Builtin.firstCells, hnc, storeCells]
    unfold Oper.wp execOp
    simp only [ho, resolve, invoke, builtin, Sem.run_bind, Sem.run_pure, Result.andThen_ok, List.map_toArray, List.map_cons, List.map_nil, hs, hx, List.length_nil, hrun]
    exact h v W (by simpa [flatI] using hrow) (only_refl _ _) (.inl rfl)
  · refine step_append_own hgd s x 26 ho base 3 i _ 1 8 Try.underlying26 hi hz0 hz1 hz2 rfl (by decide) v n xs hs hrow ad l.length c (flatI l) hx (by simp [flatI]) (fun j u hj => ?_) (fun u hu => ?_) (by unfold maxLen; omega) (by omega) hb h
    · have hjl : j < l.length := by have := (List.getElem?_eq_some_iff.1 hj).1; simpa [flatI] using this
      obtain ⟨a', h0, _, h2, _⟩ := hr j hjl
      injection h0 with h0
      subst h0
      rw [h2]
      simp [flatI, hjl] at hj ⊢
      exact hj
    · simp only [flatI, List.mem_map] at hu
      obtain ⟨y, _, rfl⟩ := hu
      rfl

/-- The rows that the first statement makes. -/
def rows1 (l0 l3 l4 l7 l9 : Bool) (v5 v8 v9 v12 : Value) (b3 : Nat) (s : SS) : Option SI → RowD
  | none => if l9 = true then ⟨boxV b3, 29, 3, 1, [.slice none 0 0, .slice none 0 0, .slice none 0 0]⟩ else nilR
  | some .inp => if l3 = true then ⟨v8, 3, 1, s.tin.length, flatI s.tin⟩ else if l0 = true then ⟨v5, 3, 1, 0, []⟩ else nilR
  | some .out => if l7 = true then ⟨v12, 3, 1, s.tout.length, flatI s.tout⟩ else if l4 = true then ⟨v9, 3, 1, 0, []⟩ else nilR
  | some _ => nilR
/-- A copy under way: j cells are done. -/
def rowsC (vc vi vo : Value) (fc : Nat → Value) (b3 : Nat) (s : SS) (j : Nat) : Option SI → RowD
  | none => ⟨boxV b3, 29, 3, 1, [vc, vi, vo]⟩
  | some .all => ⟨vc, 26, 1, j, (List.range j).map fc⟩
  | some (.el i) => if i < j then ⟨fc i, 3, 1, (s.cells.getD i []).length, flatI (s.cells.getD i [])⟩ else nilR
  | some .inp => ⟨vi, 3, 1, s.tin.length, flatI s.tin⟩
  | some .out => ⟨vo, 3, 1, s.tout.length, flatI s.tout⟩
theorem nil_rws (w : World) (n0 : Nat) (v5 v8 v9 v12 : Value) (b3 : Nat) (s : SS) : Rws w n0 (rows1 false false false false false v5 v8 v9 v12 b3 s) := by
  have e : ∀ i, rows1 false false false false false v5 v8 v9 v12 b3 s i = nilR := by
    intro i
    rcases i with _ | i
    · rfl
    · cases i <;> rfl
  refine ⟨fun i => by rw [e]; exact ownsRow_nilR w n0, fun i j b _ hi _ => ?_⟩
  rw [e] at hi
  simp [nilR, Value.ownBlock] at hi
/-- An empty row in a new block. -/
theorem own_empty (w : World) (n0 : Nat) (h : n0 ≤ w.heap.size) : (w.alloc (.cells #[] 3)).ownsRow n0 3 1 (.slice (some ⟨w.heap.size, 0, none⟩) 0 0) 0 [] :=
  ⟨rfl, .inr ⟨w.heap.size, 0, #[], rfl, h, heap_alloc_new w _, Nat.le_refl _, by unfold maxLen; omega, rfl, rfl⟩⟩
theorem own_box3 (w : World) (n0 : Nat) (h : n0 ≤ w.heap.size) (a b c : Value) (E : TypeId) : (w.alloc (.cells #[a, b, c] E)).ownsRow n0 E 3 (boxV w.heap.size) 1 [a, b, c] :=
  ⟨rfl, .inr ⟨w.heap.size, 1, #[a, b, c], rfl, h, heap_alloc_new w _, Nat.le_refl _, by unfold maxLen; omega, rfl, rfl⟩⟩

theorem r1_0 (l4 l7 l9 : Bool) (v5 v5' v8 v9 v12 : Value) (b3 : Nat) (s : SS) : updR (rows1 false false l4 l7 l9 v5' v8 v9 v12 b3 s) (some .inp) ⟨v5, 3, 1, 0, []⟩ = rows1 true false l4 l7 l9 v5 v8 v9 v12 b3 s := by
  funext i
  rcases i with _ | i
  · rfl
  · cases i <;> rfl
theorem r1_3 (l4 l7 l9 : Bool) (v5 v8 v8' v9 v12 : Value) (b3 : Nat) (s : SS) : updR (rows1 true false l4 l7 l9 v5 v8' v9 v12 b3 s) (some .inp) ⟨v8, 3, 1, s.tin.length, flatI s.tin⟩ = rows1 true true l4 l7 l9 v5 v8 v9 v12 b3 s := by
  funext i
  rcases i with _ | i
  · rfl
  · cases i <;> rfl
theorem r1_4 (l0 l3 l9 : Bool) (v5 v8 v9 v9' v12 : Value) (b3 : Nat) (s : SS) : updR (rows1 l0 l3 false false l9 v5 v8 v9' v12 b3 s) (some .out) ⟨v9, 3, 1, 0, []⟩ = rows1 l0 l3 true false l9 v5 v8 v9 v12 b3 s := by
  funext i
  rcases i with _ | i
  · rfl
  · cases i <;> rfl
theorem r1_7 (l0 l3 l9 : Bool) (v5 v8 v9 v12 v12' : Value) (b3 : Nat) (s : SS) : updR (rows1 l0 l3 true false l9 v5 v8 v9 v12' b3 s) (some .out) ⟨v12, 3, 1, s.tout.length, flatI s.tout⟩ = rows1 l0 l3 true true l9 v5 v8 v9 v12 b3 s := by
  funext i
  rcases i with _ | i
  · rfl
  · cases i <;> rfl
theorem r1_9 (l0 l3 l4 l7 : Bool) (v5 v8 v9 v12 : Value) (b3 b3' : Nat) (s : SS) : updR (rows1 l0 l3 l4 l7 false v5 v8 v9 v12 b3' s) none ⟨boxV b3, 29, 3, 1, [.slice none 0 0, .slice none 0 0, .slice none 0 0]⟩ = rows1 l0 l3 l4 l7 true v5 v8 v9 v12 b3 s := by
  funext i
  rcases i with _ | i
  · rfl
  · cases i <;> rfl
theorem r1_end (vi vo v5 v9 : Value) (fc : Nat → Value) (b3 : Nat) (s : SS) : updR (updR (rows1 true true true true true v5 vi v9 vo b3 s) none ⟨boxV b3, 29, 3, 1, [.slice none 0 0, vi, vo]⟩) (some .all) ⟨.slice none 0 0, 26, 1, 0, []⟩ = rowsC (.slice none 0 0) vi vo fc b3 s 0 := by
  funext i
  rcases i with _ | i
  · rfl
  · cases i <;> rfl
/-- One cell more. -/
theorem rowsC_step (vc vc' vi vo : Value) (fc : Nat → Value) (b3 : Nat) (s : SS) (j : Nat) (l : List Int) (v8 r5 : Value) (hl : s.cells.getD j [] = l) :
    updR (updR (updR (updR (rowsC vc vi vo fc b3 s j) (some (.el j)) ⟨r5, 3, 1, 0, []⟩) (some (.el j)) ⟨v8, 3, 1, l.length, flatI l⟩) (some .all) ⟨vc', 26, 1, j + 1, (List.range j).map fc ++ [v8]⟩) none ⟨boxV b3, 29, 3, 1, [vc', vi, vo]⟩ = rowsC vc' vi vo (fun i => if i = j then v8 else fc i) b3 s (j + 1) := by
  funext i
  rcases i with _ | i
  · rfl
  · cases i with
    | all =>
      simp only [updR, rowsC, reduceCtorEq, if_false, if_true, RowD.mk.injEq, true_and]
      rw [List.range_succ, List.map_append]
      congr 1
      · refine List.map_congr_left fun i hi => ?_
        have : i ≠ j := by have := List.mem_range.1 hi; omega
        simp [this]
      · simp
    | inp => rfl
    | out => rfl
    | el i =>
      by_cases e : i = j
      · subst e
        simp [updR, rowsC, ← hl]
      · have e2 : (i < j + 1) ↔ (i < j) := by omega
        simp [updR, rowsC, e, e2]
theorem rowsC_end {W : World} {n0 : Nat} {vc vi vo : Value} {fc : Nat → Value} {b3 : Nat} {s : SS} (h : Rws W n0 (rowsC vc vi vo fc b3 s s.cells.length)) : Rws W n0 (rowsS vc vi vo fc s) := by
  have e : ∀ i, rowsS vc vi vo fc s i = rowsC vc vi vo fc b3 s s.cells.length (some i) := fun i => by cases i <;> rfl
  refine ⟨fun i => by rw [e]; exact h.row (some i), fun i j b hij hi hj => ?_⟩
  rw [e] at hi hj
  exact h.sep (some i) (some j) b (fun e' => hij (by injection e')) hi hj
theorem own_of3 {w : World} {n0 b : Nat} {x y z : Value} {E : TypeId} (hn : n0 ≤ b) (h : w.heap[b]? = some (.cells #[x, y, z] E (0, 0))) : w.ownsRow n0 E 3 (boxV b) 1 [x, y, z] :=
  ⟨rfl, .inr ⟨b, 1, #[x, y, z], rfl, hn, h, Nat.le_refl _, by unfold maxLen; omega, rfl, rfl⟩⟩
theorem own_nil (w : World) (n0 : Nat) (E : TypeId) : w.ownsRow n0 E 1 (.slice none 0 0) 0 [] := ⟨rfl, .inl ⟨rfl, rfl⟩⟩

set_option maxHeartbeats 4000000 in
set_option maxRecDepth 100000 in
theorem RClone_any (s : SS) (v : Value) (w : World) (hv : SV w Any s v) (hcl : s.cells.length ≤ 1000000) : Calls Try.prog 27 #[v] w fun e W' => ∃ v', e = .returned v' ∧ OwnS W' w.heap.size s v' ∧ Below w.heap.size w W' := by
  have h0 := bI0
  have h1 := bS12
  have HV := Lib.hid hv
  obtain ⟨A, c, B, d, D, e, rfl, hr1, hr2, hr3, hc1, hc2, hc3, hl1, hl2, hl3, hl4⟩ := hv
  have hk := heap_alloc_new w (.cells #[.slice A s.cells.length c, .slice B s.tin.length d, .slice D s.tout.length e] 29)
  have hbw : Below w.heap.size w ((w.alloc (.cells #[.slice A s.cells.length c, .slice B s.tin.length d, .slice D s.tout.length e] 29)).alloc (.cells #[.slice none 0 0, .slice none 0 0, .slice none 0 0] 29)) := bl_al (bl_al (Below.refl _ _) _) _
  have hk2 := blk_al hk (.cells #[.slice none 0 0, .slice none 0 0, .slice none 0 0] 29)
  have hz1 : ((w.alloc (.cells #[.slice A s.cells.length c, .slice B s.tin.length d, .slice D s.tout.length e] 29)).alloc (.cells #[.slice none 0 0, .slice none 0 0, .slice none 0 0] 29)).heap.size = w.heap.size + 1 + 1 := by simp
  have hk3 := heap_alloc_new (w.alloc (.cells #[.slice A s.cells.length c, .slice B s.tin.length d, .slice D s.tout.length e] 29)) (.cells #[.slice none 0 0, .slice none 0 0, .slice none 0 0] 29)
  rw [World.size_alloc] at hk3
  have HI := Lib.hid (show s.I from ⟨fun l hl => by
    obtain ⟨i, hi, rfl⟩ := List.mem_iff_getElem.1 hl
    obtain ⟨_, _, _, _, _, _, _, hr⟩ := hr1 i hi
    exact hr.fits, hr2.fits, hr3.fits⟩)
  go_enter Try.func27, Try.ntmps27
  go_upto_region 1 with fail
  obtain ⟨w1, hw1⟩ : ∃ x, (w.alloc (.cells #[.slice A s.cells.length c, .slice B s.tin.length d, .slice D s.tout.length e] 29)).alloc (.cells #[.slice none 0 0, .slice none 0 0, .slice none 0 0] 29) = x := ⟨_, rfl⟩
  rw [hw1] at hbw hk2 hk3 hz1 ⊢
  have HB1 := Lib.hid hbw
  have HK1 := Lib.hid hk2
  have HK3 := Lib.hid hk3
  have HR1 := Lib.hid (hr1.later hbw)
  have HR2 := Lib.hid (hr2.later hbw)
  have HR3 := Lib.hid (hr3.later hbw)
  have HL := Lib.hid (show s.Lim from ⟨hl1, hl2, hl3, hl4⟩)
  clear hk hbw hk2 hk3 hw1 hr1 hr2 hr3 hl1 hl2 hl3 hl4 HV
  obtain ⟨z0, z1, z2⟩ := box3o HK1.out
  have hSS : (fun w' : World => w'.cell? ⟨w.heap.size, 1, none⟩ = some (.slice B s.tin.length d) ∧ w'.cell? ⟨w.heap.size, 2, none⟩ = some (.slice D s.tout.length e)) w1.drew ∧ (fun _ : World => True) w1.drew := ⟨⟨z1, z2⟩, trivial⟩
  refine wp_region_noPanic ?_
  refine wp_region_G (fun w' : World => w'.cell? ⟨w.heap.size, 1, none⟩ = some (.slice B s.tin.length d) ∧ w'.cell? ⟨w.heap.size, 2, none⟩ = some (.slice D s.tout.length e)) (fun _ : World => True) 10 (by kernel_rfl) ?_
  refine wpG_take1 (i := 1) (v := ?_) rfl (by kernel_rfl) (by kernel_rfl) (by kernel_rfl) (by decide) (fun _ _ _ h => h) (Or.inl ⟨by rfl, ?_⟩) hSS ?_
  rotate_left 1
  · (intro w hSw; (try dsimp only at hSw); (try simp only [List.getElem_toArray, List.getElem_cons_succ, List.getElem_cons_zero]); go_simp; (try with_reducible rfl))
  (try simp only [Act.put, List.getElem_toArray, List.getElem_cons_succ, List.getElem_cons_zero, List.setIfInBounds_toArray, List.set_cons_zero, List.set_cons_succ])
  refine wpG_take1 (i := 2) (v := ?_) rfl (by kernel_rfl) (by kernel_rfl) (by kernel_rfl) (by decide) (fun _ _ _ h => h) (Or.inl ⟨by rfl, ?_⟩) hSS ?_
  rotate_left 1
  · (intro w hSw; (try dsimp only at hSw); (try simp only [List.getElem_toArray, List.getElem_cons_succ, List.getElem_cons_zero]); go_simp; (try with_reducible rfl))
  (try simp only [Act.put, List.getElem_toArray, List.getElem_cons_succ, List.getElem_cons_zero, List.setIfInBounds_toArray, List.set_cons_zero, List.set_cons_succ])
  refine wpG_take1 (i := 5) (v := ?_) rfl (by kernel_rfl) (by kernel_rfl) (by kernel_rfl) (by decide) (fun _ _ _ h => h) (Or.inl ⟨by rfl, ?_⟩) hSS ?_
  rotate_left 1
  · (intro w hSw; (try dsimp only at hSw); (try simp only [List.getElem_toArray, List.getElem_cons_succ, List.getElem_cons_zero]); go_simp; (try with_reducible rfl))
  (try simp only [Act.put, List.getElem_toArray, List.getElem_cons_succ, List.getElem_cons_zero, List.setIfInBounds_toArray, List.set_cons_zero, List.set_cons_succ])
  refine wpG_take1 (i := 6) (v := ?_) rfl (by kernel_rfl) (by kernel_rfl) (by kernel_rfl) (by decide) (fun _ _ _ h => h) (Or.inl ⟨by rfl, ?_⟩) hSS ?_
  rotate_left 1
  · (intro w hSw; (try dsimp only at hSw); (try simp only [List.getElem_toArray, List.getElem_cons_succ, List.getElem_cons_zero]); go_simp; (try with_reducible rfl))
  (try simp only [Act.put, List.getElem_toArray, List.getElem_cons_succ, List.getElem_cons_zero, List.setIfInBounds_toArray, List.set_cons_zero, List.set_cons_succ])
  refine wpG_invS (fun A f l a wr => ∃ (l0 l3 l4 l7 l8 l9 : Bool) (v5 v8 v9 v12 v13 v3 : Value) (b3 : Nat), f = (!l0).toNat + (!l3).toNat + (!l4).toNat + (!l7).toNat + (!l8).toNat + (!l9).toNat + 1 ∧ l = #[l0, true, true, l3, l4, true, true, l7, l8, l9, false] ∧
    a = (((((A.put (some 5) v5).put (some 8) v8).put (some 9) v9).put (some 12) v12).put (some 13) v13).put (some 3) v3 ∧ Hid (Below w1.heap.size w1 wr) ∧ Hid (Rws wr w1.heap.size (rows1 l0 l3 l4 l7 l9 v5 v8 v9 v12 b3 s)) ∧ Hid ((l3 = true → l0 = true) ∧ (l7 = true → l4 = true) ∧ (l8 = true → v13 = .agg #[.slice none 0 0, v8, v12] ∧ l3 = true ∧ l7 = true) ∧ (l9 = true → v3 = .pointer (some ⟨b3, 0, none⟩))) ∧ Hid (l9 = false → v3 = undef)) (fun A f l a wr h => ?_) ?_ ⟨false, false, false, false, false, false, undef, undef, undef, undef, undef, undef, 0, rfl, rfl, (by simp only [Act.put, List.setIfInBounds_toArray, List.set_cons_zero, List.set_cons_succ]), Lib.hid (Below.refl _ _).drew, Lib.hid (nil_rws _ _ _ _ _ _ _ _), Lib.hid ⟨fun h => (by cases h), fun h => (by cases h), fun h => (by cases h), fun h => (by cases h)⟩, Lib.hid (fun _ => rfl)⟩
  · obtain ⟨_, _, _, _, _, _, _, _, _, _, _, _, _, _, _, _, hb, _⟩ := h
    exact ⟨⟨cell_bl hb.out z1, cell_bl hb.out z2⟩, trivial⟩
  rintro A' hA f l a wr ⟨l0, l3, l4, l7, l8, l9, v5, v8, v9, v12, v13, v3, b3, hf, rfl, ha, HBL, HRW, HC, HU⟩
  by_cases hall : (l0 && l3 && l4 && l7 && l8 && l9) = true
  · left
    simp only [Bool.and_eq_true] at hall
    obtain ⟨⟨⟨⟨⟨rfl, rfl⟩, rfl⟩, rfl⟩, rfl⟩, rfl⟩ := hall
    obtain ⟨-, -, h13, h3⟩ := HC.out
    obtain ⟨rfl, -, -⟩ := h13 rfl
    obtain rfl := h3 rfl
    subst hf ha hA
    have hrow := HRW.out.row none
    obtain ⟨B8, c8, e8, -, -⟩ := row_slice (HRW.out.row (some .inp))
    change v8 = .slice B8 s.tin.length c8 at e8
    obtain ⟨B12, c12, e12, -, -⟩ := row_slice (HRW.out.row (some .out))
    change v12 = .slice B12 s.tout.length c12 at e12
    subst e8 e12
    have hbx := box_row hrow
    have c0 : wr.cell? ⟨b3, 0, none⟩ = some (.slice none 0 0) := cell_of_blk hbx rfl
    have c1 : wr.cell? ⟨b3, 1, none⟩ = some (.slice none 0 0) := cell_of_blk hbx rfl
    have c2 : wr.cell? ⟨b3, 2, none⟩ = some (.slice none 0 0) := cell_of_blk hbx rfl
    have cf : ∀ j, wr.frozen? ⟨b3, j, none⟩ = false := fun j => frozen_of_blk hbx
    refine wpG_past (i := 10) (by kernel_rfl) rfl (by kernel_rfl) (fun K hK => ?_)
    (try simp only [Act.put, List.getElem_toArray, List.getElem_cons_succ, List.getElem_cons_zero, List.setIfInBounds_toArray, List.set_cons_zero, List.set_cons_succ])
    go_simp
    have hb3 : w1.heap.size ≤ b3 ∧ b3 < wr.heap.size := hrow.lt b3 rfl
    have hch : Chg (fun b => b = b3) wr (((wr.setCell ⟨b3, 0, none⟩ (.slice none 0 0)).setCell ⟨b3, 1, none⟩ (.slice B8 s.tin.length c8)).setCell ⟨b3, 2, none⟩ (.slice B12 s.tout.length c12)) :=
      (((Chg.refl (fun b => b = b3) wr).setCell (p := ⟨b3, 0, none⟩) (.inl rfl) _).setCell (p := ⟨b3, 1, none⟩) (.inl rfl) _).setCell (p := ⟨b3, 2, none⟩) (.inl rfl) _
    have hh := heap_setCell_same _ b3 2 _ _ (.slice B12 s.tout.length c12) (heap_setCell_same _ b3 1 _ _ (.slice B8 s.tin.length c8) (heap_setCell_same wr b3 0 _ _ (.slice none 0 0) hbx))
    have HBX := Lib.hid (HBL.out.trans (hch.below HBL.out.size fun b e => by omega))
    have hrw := (HRW.out.upd none (r := ⟨boxV b3, 29, 3, 1, [.slice none 0 0, .slice B8 s.tin.length c8, .slice B12 s.tout.length c12]⟩) (hch.mono fun b _ e => by subst e; rfl) (own_of3 hb3.1 hh) (fun b hb => .inl hb)).upd (some .all) (r := ⟨.slice none 0 0, 26, 1, 0, []⟩) (Chg.refl _ _) (own_nil _ _ _) (fun b hb => by simp [Value.ownBlock] at hb)
    rw [r1_end (fc := fun _ => .slice none 0 0)] at hrw
    have HRC := Lib.hid hrw
    obtain ⟨w2, hw2⟩ : ∃ x, ((wr.setCell ⟨b3, 0, none⟩ (.slice none 0 0)).setCell ⟨b3, 1, none⟩ (.slice B8 s.tin.length c8)).setCell ⟨b3, 2, none⟩ (.slice B12 s.tout.length c12) = x := ⟨_, rfl⟩
    rw [hw2] at HBX HRC ⊢
    have hSS2 : (fun w' : World => w'.cell? ⟨w.heap.size, 1, none⟩ = some (.slice B s.tin.length d) ∧ w'.cell? ⟨w.heap.size, 2, none⟩ = some (.slice D s.tout.length e)) w2 := ⟨cell_bl HBX.out z1, cell_bl HBX.out z2⟩
    refine hK.out _ _ hSS2 ?_
    clear hK K hSS hSS2 hch hh hrw hw2 hbx c0 c1 c2 cf hrow HRW HBL HU HC h13 h3 h0 h1
    refine wpG_done (by kernel_rfl) ?_
    refine NoPanic.normal ?_
    obtain ⟨vi, hvi⟩ : ∃ x, Value.slice B8 s.tin.length c8 = x := ⟨_, rfl⟩
    obtain ⟨vo, hvo⟩ : ∃ x, Value.slice B12 s.tout.length c12 = x := ⟨_, rfl⟩
    rw [hvi, hvo] at HRC
    have HVI := Lib.hid hvi
    have HVO := Lib.hid hvo
    clear hvi hvo
    go_wp2_with fail
    go_loopw [4] (fun i wr => ∃ j : Nat, j ≤ s.cells.length ∧ i = .int .i64 j ∧ Hid (Below w1.heap.size w1 wr) ∧ ∃ vc fc, Hid (Rws wr w1.heap.size (rowsC vc vi vo fc b3 s j))) (fun i _ => s.cells.length - (intOf i).toNat)
    case atStart => exact ⟨0, Nat.zero_le _, rfl, HBX, _, _, HRC⟩
    case round =>
      clear HBX HRC
      obtain ⟨j, hj, rfl, HBL, vc, fc, HRW⟩ := hrel
      have y0 := cell_bl HBL.out z0
      by_cases hlt : j < s.cells.length
      · have hj1 : (j : Int) < (s.cells.length : Int) := by omega
        have hj0 : (0 : Int) ≤ (j : Int) := by omega
        obtain ⟨a, l, Al, cl, rfl, Hl, hcl0, hlc, hrl⟩ := (HR1.out.later HBL.out).nd hlt
        have HRL := Lib.hid hrl
        have HLL := Lib.hid (show l.length ≤ LI by rw [← Hl.out]; exact HL.out.2.1 _ (List.getElem_mem hlt))
        have hbx := box_row (HRW.out.row none)
        have x0 : wr.cell? ⟨b3, 0, none⟩ = some vc := cell_of_blk hbx rfl
        have hz0 : wr.frozen? ⟨b3, 0, none⟩ = false := frozen_of_blk hbx
        obtain ⟨Av, cv, hvc, -⟩ := row_slice (HRW.out.row (some .all))
        change vc = .slice Av j cv at hvc
        subst hvc
        have hS0 : (fun w' : World => w'.cell? ⟨w.heap.size, 0, none⟩ = some (.slice (some a) s.cells.length c) ∧ w'.cell? (a.add j) = some (.slice Al l.length cl)) wr.drew ∧ (fun w' : World => w'.cell? ⟨b3, 0, none⟩ = some (.slice Av j cv)) wr.drew := ⟨⟨y0, hcl0⟩, x0⟩
        obtain ⟨i0, hi0, hq0, hq1, hq2⟩ := info_parts sIInfo
        go_upto_region 5 with fail
        refine wp_region_noPanic ?_
        refine wp_region_G (fun w' : World => w'.cell? ⟨w.heap.size, 0, none⟩ = some (.slice (some a) s.cells.length c) ∧ w'.cell? (a.add j) = some (.slice Al l.length cl)) (fun w' : World => w'.cell? ⟨b3, 0, none⟩ = some (.slice Av j cv)) 12 (by kernel_rfl) ?_
        refine wpG_take1 (i := 0) (v := ?_) rfl (by kernel_rfl) (by kernel_rfl) (by kernel_rfl) (by decide) (fun _ _ _ h => h) (Or.inl ⟨by rfl, ?_⟩) hS0 ?_
        rotate_left 1
        · (intro w hSw; (try dsimp only at hSw); (try simp only [List.getElem_toArray, List.getElem_cons_zero]); go_simp; (try with_reducible rfl))
        (try simp only [Act.put, List.getElem_toArray, List.getElem_cons_zero, List.setIfInBounds_toArray, List.set_cons_zero, List.set_cons_succ])
        refine wpG_take2 (i := 1) (v := ?_) rfl (by kernel_rfl) (by kernel_rfl) (by kernel_rfl) (by decide) rfl (by kernel_rfl) (by kernel_rfl) (fun _ _ _ h => h) (Or.inl ⟨by rfl, ?_⟩) hS0 ?_
        rotate_left 1
        · (intro w hSw; (try dsimp only at hSw); (try simp only [List.getElem_toArray, List.getElem_cons_succ, List.getElem_cons_zero]); go_simp; (try with_reducible rfl))
        (try simp only [Act.put, List.getElem_toArray, List.getElem_cons_succ, List.getElem_cons_zero, List.setIfInBounds_toArray, List.set_cons_zero, List.set_cons_succ])
        refine wpG_take1 (i := 3) (v := ?_) rfl (by kernel_rfl) (by kernel_rfl) (by kernel_rfl) (by decide) (fun _ _ _ h => h) (Or.inl ⟨by rfl, ?_⟩) hS0 ?_
        rotate_left 1
        · (intro w hSw; (try dsimp only at hSw); (try simp only [List.getElem_toArray, List.getElem_cons_succ, List.getElem_cons_zero]); go_simp; (try with_reducible rfl))
        (try simp only [Act.put, List.getElem_toArray, List.getElem_cons_succ, List.getElem_cons_zero, List.setIfInBounds_toArray, List.set_cons_zero, List.set_cons_succ])
        refine wpG_take1 (i := 4) (v := ?_) rfl (by kernel_rfl) (by kernel_rfl) (by kernel_rfl) (by decide) (fun _ _ _ h => h) (Or.inl ⟨by rfl, ?_⟩) hS0 ?_
        rotate_left 1
        · (intro w hSw; (try dsimp only at hSw); (try simp only [List.getElem_toArray, List.getElem_cons_succ, List.getElem_cons_zero]); go_simp; (try with_reducible rfl))
        (try simp only [Act.put, List.getElem_toArray, List.getElem_cons_succ, List.getElem_cons_zero, List.setIfInBounds_toArray, List.set_cons_zero, List.set_cons_succ])
        refine wpG_take1 (i := 5) (v := ?_) rfl (by kernel_rfl) (by kernel_rfl) (by kernel_rfl) (by decide) (fun _ _ _ h => h) (Or.inl ⟨by rfl, ?_⟩) hS0 ?_
        rotate_left 1
        · (intro w hSw; (try dsimp only at hSw); (try simp only [List.getElem_toArray, List.getElem_cons_succ, List.getElem_cons_zero]); go_simp; (try with_reducible rfl))
        (try simp only [Act.put, List.getElem_toArray, List.getElem_cons_succ, List.getElem_cons_zero, List.setIfInBounds_toArray, List.set_cons_zero, List.set_cons_succ])
        refine wpG_take1 (i := 6) (v := ?_) rfl (by kernel_rfl) (by kernel_rfl) (by kernel_rfl) (by decide) (fun _ _ _ h => h) (Or.inl ⟨by rfl, ?_⟩) hS0 ?_
        rotate_left 1
        · (intro w hSw; (try dsimp only at hSw); (try simp only [List.getElem_toArray, List.getElem_cons_succ, List.getElem_cons_zero]); go_simp; (try with_reducible rfl))
        (try simp only [Act.put, List.getElem_toArray, List.getElem_cons_succ, List.getElem_cons_zero, List.setIfInBounds_toArray, List.set_cons_zero, List.set_cons_succ])
        refine wpG_take1 (i := 7) (v := ?_) rfl (by kernel_rfl) (by kernel_rfl) (by kernel_rfl) (by decide) (fun _ _ _ h => h) (Or.inl ⟨by rfl, ?_⟩) hS0 ?_
        rotate_left 1
        · (intro w hSw; (try dsimp only at hSw); (try simp only [List.getElem_toArray, List.getElem_cons_succ, List.getElem_cons_zero]); go_simp; (try with_reducible rfl))
        (try simp only [Act.put, List.getElem_toArray, List.getElem_cons_succ, List.getElem_cons_zero, List.setIfInBounds_toArray, List.set_cons_zero, List.set_cons_succ])
        refine wpG_one (i := 2) (by kernel_rfl) rfl (fun K hK => ?_)
        (try simp only [List.getElem_toArray, List.getElem_cons_succ, List.getElem_cons_zero])
        go_simp
        have HB0 := Lib.hid (show Below wr.heap.size wr (wr.alloc (.cells #[] 3)).drew from (bl_al (Below.refl _ _) _).drew)
        have hS1 : (fun w' : World => w'.cell? ⟨w.heap.size, 0, none⟩ = some (.slice (some a) s.cells.length c) ∧ w'.cell? (a.add j) = some (.slice Al l.length cl)) (wr.alloc (.cells #[] 3)).drew ∧ (fun w' : World => w'.cell? ⟨b3, 0, none⟩ = some (.slice Av j cv)) (wr.alloc (.cells #[] 3)).drew := ⟨⟨cell_bl HB0.out y0, cell_bl HB0.out hcl0⟩, cell_bl HB0.out x0⟩
        have hsz := HBL.out.size
        have hd0 := HRW.out.upd (some (.el j)) (r := ⟨.slice (some ⟨wr.heap.size, 0, none⟩) 0 0, 3, 1, 0, []⟩) (W' := wr.alloc (.cells #[] 3)) (Chg.of_below (bl_al (Below.refl _ _) _)) (own_empty wr _ hsz) (fun b hb => .inr (by simp [Value.ownBlock] at hb; omega))
        have HD0 := Lib.hid (hd0.later (Below.refl _ _).drew)
        obtain ⟨wa, hwa⟩ : ∃ x, (wr.alloc (.cells #[] 3)).drew = x := ⟨_, rfl⟩
        rw [hwa] at hS1 HD0 HB0 ⊢
        refine hK.out _ _ hS1 ?_
        clear hK K hS0 hd0 hwa
        (try simp only [Act.put, List.getElem_toArray, List.getElem_cons_succ, List.getElem_cons_zero, List.setIfInBounds_toArray, List.set_cons_zero, List.set_cons_succ])
        have hszA := (bl_tt HBL.out HB0.out).size
        have hrow := HD0.out.row (some (.el j))
        rw [updR_same] at hrow
        refine wpG_one (i := 8) (by kernel_rfl) rfl (fun K hK => ?_)
        refine step_append_I (by rfl) (.tmp 23) (.tmp 28) (by rfl) w1.heap.size (.slice (some ⟨wr.heap.size, 0, none⟩) 0 0) 0 [] (by rfl) hrow Al l cl (by rfl) (HRL.out.later HB0.out) HLL.out rfl hszA (fun v8 wb ho hg hob => ?_)
        rw [Nat.zero_add, List.nil_append] at ho
        have hd1 := HD0.out.upd (some (.el j)) (r := ⟨v8, 3, 1, l.length, flatI l⟩) ((Chg.row hg).mono fun b _ hb => by rw [updR_same]; exact hb) ho (fun b hb => by
          rw [updR_same]
          rcases hob with h5 | h5
          · exact .inl (h5 ▸ hb)
          · exact .inr (by rw [h5] at hb; injection hb with hb; omega))
        have HD1 := Lib.hid hd1
        have HBB := Lib.hid (show Below wr.heap.size wr wb from HB0.out.grown hg HB0.out.size (fun g e => by simp [Value.ownBlock] at e; omega))
        have hS2 : (fun w' : World => w'.cell? ⟨w.heap.size, 0, none⟩ = some (.slice (some a) s.cells.length c) ∧ w'.cell? (a.add j) = some (.slice Al l.length cl)) wb ∧ (fun w' : World => w'.cell? ⟨b3, 0, none⟩ = some (.slice Av j cv)) wb := ⟨⟨cell_bl HBB.out y0, cell_bl HBB.out hcl0⟩, cell_bl HBB.out x0⟩
        obtain ⟨A8, c8', rfl, -⟩ := row_slice ho
        refine hK.out _ _ hS2 ?_
        clear hK K hd1 ho hg hob hrow hS1
        (try simp only [Act.put, List.getElem_toArray, List.getElem_cons_succ, List.getElem_cons_zero, List.setIfInBounds_toArray, List.set_cons_zero, List.set_cons_succ])
        have h1 := bII1'
        refine wpG_one (i := 9) (by kernel_rfl) rfl (fun K hK => ?_)
        (try simp only [List.getElem_toArray, List.getElem_cons_succ, List.getElem_cons_zero])
        go_simp
        have HBC := Lib.hid (show Below wr.heap.size wr (wb.alloc (.cells #[.slice A8 l.length c8'] 26)) from bl_al HBB.out _)
        have HD2 := Lib.hid (HD1.out.later (show Below wb.heap.size wb (wb.alloc (.cells #[.slice A8 l.length c8'] 26)) from bl_al (Below.refl _ _) _))
        have HN2 := Lib.hid (show (wb.alloc (.cells #[.slice A8 l.length c8'] 26)).heap[wb.heap.size]? = some (.cells #[.slice A8 l.length c8'] 26 (0, 0)) from heap_alloc_new wb _)
        have hS3 : (fun w' : World => w'.cell? ⟨w.heap.size, 0, none⟩ = some (.slice (some a) s.cells.length c) ∧ w'.cell? (a.add j) = some (.slice Al l.length cl)) (wb.alloc (.cells #[.slice A8 l.length c8'] 26)) ∧ (fun w' : World => w'.cell? ⟨b3, 0, none⟩ = some (.slice Av j cv)) (wb.alloc (.cells #[.slice A8 l.length c8'] 26)) := ⟨⟨cell_bl HBC.out y0, cell_bl HBC.out hcl0⟩, cell_bl HBC.out x0⟩
        obtain ⟨wc, hwc⟩ : ∃ x, (wb.alloc (.cells #[.slice A8 l.length c8'] 26)) = x := ⟨_, rfl⟩
        rw [hwc] at HBC HD2 HN2 hS3 ⊢
        refine hK.out _ _ hS3 ?_
        clear hK K hwc hS2 HD1
        (try simp only [Act.put, List.getElem_toArray, List.getElem_cons_succ, List.getElem_cons_zero, List.setIfInBounds_toArray, List.set_cons_zero, List.set_cons_succ])
        have hszC := (bl_tt HBL.out HBC.out).size
        have hrow := HD2.out.row (some .all)
        rw [updR_other (by simp), updR_other (by simp)] at hrow
        change wc.ownsRow w1.heap.size 26 1 (.slice Av j cv) j ((List.range j).map fc) at hrow
        refine wpG_one (i := 10) (by kernel_rfl) rfl (fun K hK => ?_)
        refine step_append_own (by rfl) (.tmp 22) (.tmp 30) 27 (by rfl) w1.heap.size 26 i0 _ 1 24 Try.underlying27 hi0 hq0 hq1 hq2 rfl (by decide) (.slice Av j cv) j ((List.range j).map fc) (by rfl) hrow ⟨wb.heap.size, 0, none⟩ 1 1 [.slice A8 l.length c8'] (by rfl) rfl (fun q u hq => by
          match q, hq with
          | 0, hq => injection hq with hq; subst hq; exact cell_of_blk HN2.out rfl) (fun u hu => by simp at hu; subst hu; rfl) (by unfold maxLen; omega) (by omega) hszC (fun vd wd ho hg hob => ?_)
        have hd3 := HD2.out.upd (some .all) (r := ⟨vd, 26, 1, j + 1, (List.range j).map fc ++ [.slice A8 l.length c8']⟩) ((Chg.row hg).mono fun b _ hb => hb) ho (fun b hb => by
          rcases hob with h5 | h5
          · exact .inl (h5 ▸ hb)
          · exact .inr (by rw [h5] at hb; injection hb with hb; omega))
        have HD3 := Lib.hid hd3
        have hav : ∀ g, (Value.slice Av j cv).ownBlock = some g → (rowsC (.slice Av j cv) vi vo fc b3 s j (some .all)).v.ownBlock = some g := fun g e => e
        have hsep : ∀ g, (Value.slice Av j cv).ownBlock = some g → g ≠ b3 := fun g e h => HRW.out.sep (some .all) none g (by simp) e (by rw [h]; rfl)
        have hlo : ∀ g, (Value.slice Av j cv).ownBlock = some g → w1.heap.size ≤ g := fun g e => (HRW.out.lt (some .all) g e).1
        have hchg : Chg (fun b => (Value.slice Av j cv).ownBlock = some b) wc wd := Chg.row hg
        have HBD := Lib.hid (show Below w1.heap.size w1 wd from (bl_tt HBL.out HBC.out).grown hg hszC (fun g e => hlo g e))
        have hbx3 := box_row (HD3.out.row none)
        have e0 : wd.cell? ⟨b3, 0, none⟩ = some (.slice Av j cv) := cell_of_blk hbx3 rfl
        have ez : wd.frozen? ⟨b3, 0, none⟩ = false := frozen_of_blk hbx3
        have hab : a.block < w1.heap.size := by
          obtain ⟨a', _, _, e', _, hc', _⟩ := HR1.out j hlt
          injection e' with e'
          subst e'
          have := World.block_lt_of_cell? w1 _ hc'
          rwa [block_add] at this
        have hS4 : (fun w' : World => w'.cell? ⟨w.heap.size, 0, none⟩ = some (.slice (some a) s.cells.length c) ∧ w'.cell? (a.add j) = some (.slice Al l.length cl)) wd ∧ (fun w' : World => w'.cell? ⟨b3, 0, none⟩ = some (.slice Av j cv)) wd := ⟨⟨cell_bl HBD.out z0, cell_kp hcl0 (by rw [block_add]; exact (HBD.out.block _ hab).trans (HBL.out.block _ hab).symm)⟩, e0⟩
        have hd4 := HD3.out.set none (g := b3) (o := 0) (by rfl) (by show 0 < 3; decide) vd
        have hd5 : Rws (wd.setCell ⟨b3, 0, none⟩ vd) w1.heap.size (rowsC vd vi vo (fun i => if i = j then .slice A8 l.length c8' else fc i) b3 s (j + 1)) := by
          rw [← rowsC_step (.slice Av j cv) vd vi vo fc b3 s j l (.slice A8 l.length c8') (.slice (some ⟨wr.heap.size, 0, none⟩) 0 0) (by rw [List.getD_eq_getElem?_getD, List.getElem?_eq_getElem hlt]; exact Hl.out)]
          exact hd4
        have HD5 := Lib.hid hd5
        have hb3lt := (HD3.out.lt none b3 rfl)
        have HBE := Lib.hid (show Below w1.heap.size w1 (wd.setCell ⟨b3, 0, none⟩ vd) from HBD.out.trans ((((Chg.refl (fun b => b = b3) wd).setCell (p := ⟨b3, 0, none⟩) (.inl rfl) vd)).below HBD.out.size fun b e => by omega))
        obtain ⟨Ad, cd', rfl, -⟩ := row_slice ho
        refine hK.out _ _ hS4 ?_
        clear hK K hd3 hd4 hd5 ho hg hob hrow hS3 hchg hav hsep hlo hbx3
        (try simp only [Act.put, List.getElem_toArray, List.getElem_cons_succ, List.getElem_cons_zero, List.setIfInBounds_toArray, List.set_cons_zero, List.set_cons_succ])
        refine wpG_one (i := 11) (by kernel_rfl) rfl (fun K hK => ?_)
        (try simp only [List.getElem_toArray, List.getElem_cons_succ, List.getElem_cons_zero])
        go_simp
        refine hK.out _ _ hS4 ?_
        clear hK K
        (try simp only [Act.put, List.getElem_toArray, List.getElem_cons_succ, List.getElem_cons_zero, List.setIfInBounds_toArray, List.set_cons_zero, List.set_cons_succ])
        refine wpG_past (i := 12) (by kernel_rfl) rfl (by kernel_rfl) (fun K hK => ?_)
        (try simp only [List.getElem_toArray, List.getElem_cons_succ, List.getElem_cons_zero])
        go_simp
        refine hK.out _ _ ⟨cell_bl HBE.out z0, ?_⟩ ?_
        rotate_left 1
        · clear hK K
          (try simp only [Act.put, List.getElem_toArray, List.getElem_cons_succ, List.getElem_cons_zero, List.setIfInBounds_toArray, List.set_cons_zero, List.set_cons_succ])
          refine wpG_done (by kernel_rfl) ?_
          refine NoPanic.normal ?_
          go_wp2_with fail
          exact ⟨⟨j + 1, by omega, by go_num, HBE, _, _, HD5⟩, by simp [intOf]; omega⟩
        · refine cell_kp hcl0 (by rw [block_add]; exact (HBE.out.block _ hab).trans (HBL.out.block _ hab).symm)
      · obtain rfl : j = s.cells.length := by omega
        have hj1 : ¬ (s.cells.length : Int) < (s.cells.length : Int) := by omega
        have hbx := box_row (HRW.out.row none)
        have x0 : wr.cell? ⟨b3, 0, none⟩ = some vc := cell_of_blk hbx rfl
        have x1 : wr.cell? ⟨b3, 1, none⟩ = some vi := cell_of_blk hbx rfl
        have x2 : wr.cell? ⟨b3, 2, none⟩ = some vo := cell_of_blk hbx rfl
        obtain ⟨Av, cv, hvc, -⟩ := row_slice (HRW.out.row (some .all))
        change vc = .slice Av s.cells.length cv at hvc
        subst hvc
        rw [← HVI.out] at x1
        rw [← HVO.out] at x2
        have hk3 := blk_bl HK3.out HBL.out
        have q0 : wr.cell? ⟨w.heap.size + 1, 0, none⟩ = some (.slice none 0 0) := cell_of_blk hk3 rfl
        have q1 : wr.cell? ⟨w.heap.size + 1, 1, none⟩ = some (.slice none 0 0) := cell_of_blk hk3 rfl
        have q2 : wr.cell? ⟨w.heap.size + 1, 2, none⟩ = some (.slice none 0 0) := cell_of_blk hk3 rfl
        have cf : ∀ j, wr.frozen? ⟨w.heap.size + 1, j, none⟩ = false := fun j => frozen_of_blk hk3
        have HRE := Lib.hid (rowsC_end HRW.out)
        have HK3E := Lib.hid hk3
        clear hbx hk3 HRW
        go_wp2_with fail
        have hch : Chg (fun b => b = w.heap.size + 1) wr (((wr.setCell ⟨w.heap.size + 1, 0, none⟩ (.slice Av s.cells.length cv)).setCell ⟨w.heap.size + 1, 1, none⟩ (.slice B8 s.tin.length c8)).setCell ⟨w.heap.size + 1, 2, none⟩ (.slice B12 s.tout.length c12)) :=
          (((Chg.refl (fun b => b = w.heap.size + 1) wr).setCell (p := ⟨w.heap.size + 1, 0, none⟩) (.inl rfl) _).setCell (p := ⟨w.heap.size + 1, 1, none⟩) (.inl rfl) _).setCell (p := ⟨w.heap.size + 1, 2, none⟩) (.inl rfl) _
        have hh := heap_setCell_same _ (w.heap.size + 1) 2 _ _ (.slice B12 s.tout.length c12) (heap_setCell_same _ (w.heap.size + 1) 1 _ _ (.slice B8 s.tin.length c8) (heap_setCell_same wr (w.heap.size + 1) 0 _ _ (.slice Av s.cells.length cv) HK3E.out))
        obtain ⟨w9, hw9⟩ : ∃ x, ((wr.setCell ⟨w.heap.size + 1, 0, none⟩ (.slice Av s.cells.length cv)).setCell ⟨w.heap.size + 1, 1, none⟩ (.slice B8 s.tin.length c8)).setCell ⟨w.heap.size + 1, 2, none⟩ (.slice B12 s.tout.length c12) = x := ⟨_, rfl⟩
        rw [hw9] at hch hh ⊢
        have t0 : w9.cell? ⟨w.heap.size + 1, 0, none⟩ = some (.slice Av s.cells.length cv) := cell_of_blk hh (by simp)
        have t1 : w9.cell? ⟨w.heap.size + 1, 1, none⟩ = some (.slice B8 s.tin.length c8) := cell_of_blk hh (by simp)
        have t2 : w9.cell? ⟨w.heap.size + 1, 2, none⟩ = some (.slice B12 s.tout.length c12) := cell_of_blk hh (by simp)
        refine bodyPost_ret (v := .agg #[.slice Av s.cells.length cv, .slice B8 s.tin.length c8, .slice B12 s.tout.length c12]) (by simp [results, Try.results27, go_sem, t0, t1, t2]) rfl ⟨_, rfl, ?_, (bl_tt HB1.out HBL.out).trans (hch.below (bl_tt HB1.out HBL.out).size fun b e => by omega)⟩
        have hrw := HRE.out.chg hch (fun i b hb e => by have := (HRE.out.lt i b hb).1; omega)
        rw [← HVI.out, ← HVO.out] at hrw
        exact ⟨_, _, _, _, rfl, hrw.mono (by omega), HI.out⟩
  · right
    have HC0 := HC.out
    refine ⟨f - 1, ?_, ?_, ?_⟩
    · clear HC HC0 HRW HU ha HBL
      subst hf
      revert hall
      revert l0 l3 l4 l7 l8 l9
      decide
    · have hc : (l8 = true → l3 = true ∧ l7 = true) := fun h => (HC0.2.2.1 h).2
      clear HC HC0 HRW HU ha HBL hf
      revert hall hc
      revert l0 l3 l4 l7 l8 l9
      decide +kernel
    intro i hi
    have hcase : (i = 0 ∧ l0 = false) ∨ (i = 3 ∧ l3 = false ∧ l0 = true) ∨ (i = 4 ∧ l4 = false) ∨ (i = 7 ∧ l7 = false ∧ l4 = true ∧ l3 = true) ∨ (i = 8 ∧ l8 = false ∧ l3 = true ∧ l7 = true) ∨ (i = 9 ∧ l9 = false) := by
      refine of_decide_eq_true ((List.all_eq_true (p := fun i => decide ((i = 0 ∧ l0 = false) ∨ (i = 3 ∧ l3 = false ∧ l0 = true) ∨ (i = 4 ∧ l4 = false) ∨ (i = 7 ∧ l7 = false ∧ l4 = true ∧ l3 = true) ∨ (i = 8 ∧ l8 = false ∧ l3 = true ∧ l7 = true) ∨ (i = 9 ∧ l9 = false)))).1 ?_ i hi)
      have hc : (l3 = true → l0 = true) ∧ (l7 = true → l4 = true) ∧ (l8 = true → l3 = true ∧ l7 = true) := ⟨HC0.1, HC0.2.1, fun h => (HC0.2.2.1 h).2⟩
      clear HC HC0 HRW HU ha HBL hf hi
      revert hall hc
      revert l0 l3 l4 l7 l8 l9
      decide +kernel
    clear hi hall
    subst ha hA
    rcases hcase with ⟨rfl, rfl⟩ | ⟨rfl, rfl, rfl⟩ | ⟨rfl, rfl⟩ | ⟨rfl, rfl, rfl, rfl⟩ | ⟨rfl, rfl, rfl, rfl⟩ | ⟨rfl, rfl⟩
    · refine wpOp_step rfl (fun K' hK0 => ?_)
      have hK := Lib.hid hK0
      clear hK0
      (try simp only [Act.put, List.getElem_toArray, List.getElem_cons_zero, List.setIfInBounds_toArray, List.set_cons_zero, List.set_cons_succ])
      go_simp
      obtain rfl : l3 = false := by
        rcases l3 with _ | _
        · rfl
        · cases HC0.1 rfl
      have hsz := HBL.out.size
      have hrw := HRW.out.upd (some .inp) (r := ⟨.slice (some ⟨wr.heap.size, 0, none⟩) 0 0, 3, 1, 0, []⟩) (W' := wr.alloc (.cells #[] 3)) (Chg.of_below (bl_al (Below.refl _ _) _)) (own_empty wr _ hsz) (fun b hb => .inr (by simp [Value.ownBlock] at hb; omega))
      rw [r1_0] at hrw
      exact hK.out _ _ ⟨true, false, l4, l7, l8, l9, _, v8, v9, v12, v13, v3, b3, (by subst hf; simp; omega), rfl, (by simp only [Act.put, List.setIfInBounds_toArray, List.set_cons_zero, List.set_cons_succ]), Lib.hid (bl_al HBL.out _), Lib.hid hrw, Lib.hid ⟨fun h => (by cases h), HC0.2.1, fun h => (by have := (HC0.2.2.1 h).2.1; cases this), HC0.2.2.2⟩, HU⟩
    · refine wpOp_step rfl (fun K' hK0 => ?_)
      have hK := Lib.hid hK0
      clear hK0
      have hsz := HBL.out.size
      have hrow := HRW.out.row (some .inp)
      change wr.ownsRow w1.heap.size 3 1 v5 0 [] at hrow
      refine step_append_I (by rfl) (.tmp 5) (.tmp 7) (by rfl) w1.heap.size v5 0 [] (by rfl) hrow B s.tin d (by rfl) (HR2.out.later HBL.out) HL.out.2.2.1 rfl hsz (fun v' w' ho hg hob => ?_)
      rw [Nat.zero_add, List.nil_append] at ho
      have hbl' : Below w1.heap.size w1 w' := HBL.out.grown hg hsz (fun g e => (hrow.lt g e).1)
      have hrw := HRW.out.upd (some .inp) (r := ⟨v', 3, 1, s.tin.length, flatI s.tin⟩) ((Chg.row hg).mono fun b _ hb => hb) ho (fun b hb => by
        rcases hob with h5 | h5
        · exact .inl (h5 ▸ hb)
        · exact .inr (by rw [h5] at hb; injection hb with hb; omega))
      rw [r1_3] at hrw
      have h8f : l8 = false := by
        rcases l8 with _ | _
        · rfl
        · have := (HC0.2.2.1 rfl).2.1; cases this
      subst h8f
      exact hK.out _ _ ⟨true, true, l4, l7, false, l9, v5, v', v9, v12, v13, v3, b3, (by subst hf; simp; omega), rfl, (by simp only [Act.put, List.getElem_toArray, List.getElem_cons_succ, List.getElem_cons_zero, List.setIfInBounds_toArray, List.set_cons_zero, List.set_cons_succ]), Lib.hid hbl', Lib.hid hrw, Lib.hid ⟨fun _ => rfl, HC0.2.1, fun h => (by cases h), HC0.2.2.2⟩, HU⟩
    · refine wpOp_step rfl (fun K' hK0 => ?_)
      have hK := Lib.hid hK0
      clear hK0
      (try simp only [Act.put, List.getElem_toArray, List.getElem_cons_succ, List.getElem_cons_zero, List.setIfInBounds_toArray, List.set_cons_zero, List.set_cons_succ])
      go_simp
      obtain rfl : l7 = false := by
        rcases l7 with _ | _
        · rfl
        · cases HC0.2.1 rfl
      have hsz := HBL.out.size
      have hrw := HRW.out.upd (some .out) (r := ⟨.slice (some ⟨wr.heap.size, 0, none⟩) 0 0, 3, 1, 0, []⟩) (W' := wr.alloc (.cells #[] 3)) (Chg.of_below (bl_al (Below.refl _ _) _)) (own_empty wr _ hsz) (fun b hb => .inr (by simp [Value.ownBlock] at hb; omega))
      rw [r1_4] at hrw
      exact hK.out _ _ ⟨l0, l3, true, false, l8, l9, v5, v8, _, v12, v13, v3, b3, (by subst hf; simp; omega), rfl, (by simp only [Act.put, List.setIfInBounds_toArray, List.set_cons_zero, List.set_cons_succ]), Lib.hid (bl_al HBL.out _), Lib.hid hrw, Lib.hid ⟨HC0.1, fun h => (by cases h), fun h => (by have := (HC0.2.2.1 h).2.2; cases this), HC0.2.2.2⟩, HU⟩
    · refine wpOp_step rfl (fun K' hK0 => ?_)
      have hK := Lib.hid hK0
      clear hK0
      have hsz := HBL.out.size
      have hrow := HRW.out.row (some .out)
      change wr.ownsRow w1.heap.size 3 1 v9 0 [] at hrow
      refine step_append_I (by rfl) (.tmp 9) (.tmp 11) (by rfl) w1.heap.size v9 0 [] (by rfl) hrow D s.tout e (by rfl) (HR3.out.later HBL.out) HL.out.2.2.2 rfl hsz (fun v' w' ho hg hob => ?_)
      rw [Nat.zero_add, List.nil_append] at ho
      have hbl' : Below w1.heap.size w1 w' := HBL.out.grown hg hsz (fun g e => (hrow.lt g e).1)
      have hrw := HRW.out.upd (some .out) (r := ⟨v', 3, 1, s.tout.length, flatI s.tout⟩) ((Chg.row hg).mono fun b _ hb => hb) ho (fun b hb => by
        rcases hob with h5 | h5
        · exact .inl (h5 ▸ hb)
        · exact .inr (by rw [h5] at hb; injection hb with hb; omega))
      rw [r1_7] at hrw
      have h8f : l8 = false := by
        rcases l8 with _ | _
        · rfl
        · have := (HC0.2.2.1 rfl).2.2; cases this
      subst h8f
      exact hK.out _ _ ⟨l0, true, true, true, false, l9, v5, v8, v9, v', v13, v3, b3, (by subst hf; simp; omega), rfl, (by simp only [Act.put, List.getElem_toArray, List.getElem_cons_succ, List.getElem_cons_zero, List.setIfInBounds_toArray, List.set_cons_zero, List.set_cons_succ]), Lib.hid hbl', Lib.hid hrw, Lib.hid ⟨HC0.1, fun _ => rfl, fun h => (by cases h), HC0.2.2.2⟩, HU⟩
    · refine wpOp_step rfl (fun K' hK0 => ?_)
      have hK := Lib.hid hK0
      clear hK0
      obtain ⟨B8, c8, e8, -, -⟩ := row_slice (HRW.out.row (some .inp))
      change v8 = .slice B8 s.tin.length c8 at e8
      obtain ⟨B12, c12, e12, -, -⟩ := row_slice (HRW.out.row (some .out))
      change v12 = .slice B12 s.tout.length c12 at e12
      subst e8 e12
      (try simp only [Act.put, List.getElem_toArray, List.getElem_cons_succ, List.getElem_cons_zero, List.setIfInBounds_toArray, List.set_cons_zero, List.set_cons_succ])
      go_simp
      exact hK.out _ _ ⟨l0, true, l4, true, true, l9, v5, _, v9, _, _, v3, b3, (by subst hf; simp; omega), rfl, (by simp only [Act.put, List.setIfInBounds_toArray, List.set_cons_zero, List.set_cons_succ]), HBL, HRW, Lib.hid ⟨HC0.1, HC0.2.1, fun _ => ⟨rfl, rfl, rfl⟩, HC0.2.2.2⟩, HU⟩
    · refine wpOp_step rfl (fun K' hK0 => ?_)
      have hK := Lib.hid hK0
      clear hK0
      obtain rfl := HU.out rfl
      (try simp only [Act.put, List.getElem_toArray, List.getElem_cons_succ, List.getElem_cons_zero, List.setIfInBounds_toArray, List.set_cons_zero, List.set_cons_succ])
      go_simp
      have hsz := HBL.out.size
      have hrw := HRW.out.upd none (r := ⟨boxV wr.heap.size, 29, 3, 1, [.slice none 0 0, .slice none 0 0, .slice none 0 0]⟩) (W' := wr.alloc (.cells #[.slice none 0 0, .slice none 0 0, .slice none 0 0] 29)) (Chg.of_below (bl_al (Below.refl _ _) _)) (own_box3 wr _ hsz _ _ _ _) (fun b hb => .inr (by simp [Value.ownBlock] at hb; omega))
      rw [r1_9] at hrw
      exact hK.out _ _ ⟨l0, l3, l4, l7, l8, true, v5, v8, v9, v12, v13, _, wr.heap.size, (by subst hf; simp), rfl, (by simp only [Act.put, List.setIfInBounds_toArray, List.set_cons_zero, List.set_cons_succ]), Lib.hid (bl_al HBL.out _), Lib.hid hrw, Lib.hid ⟨HC0.1, HC0.2.1, HC0.2.2.1, fun _ => rfl⟩, Lib.hid (fun h => (by cases h))⟩

end Go.Proofs.Ytekjfbnggfbfhaa
