/-
  store: the contract of New.
-/
import Derived.Test.YtekjfbnggfbfhaaSn
import Derived.Test.YtekjfbnggfbfhaaSv
namespace Go.Proofs.Ytekjfbnggfbfhaa
open Go Go.RowKit

/-- The store that New makes. -/
def newS (vs : List VD) (s : SS) : ST := ⟨⟨vs, List.range vs.length, 0⟩, [], fun i => s.cells.getD i [], vs.length, s.tin, s.tout⟩
/-- A frame with one variable more. -/
def FR.snoc (f : FR) (v : VD) (id : Nat) : FR := ⟨f.vs ++ [v], f.cs ++ [id], f.loc⟩
theorem newS_take (vs : List VD) (s : SS) (j : Nat) (hj : j < vs.length) (l : List Int) (hl : s.cells.getD j [] = l) :
    ((newS (vs.take j) s).newCell l).setCur ((newS (vs.take j) s).base.snoc vs[j] j) = newS (vs.take (j + 1)) s := by
  have h0 : ((newS (vs.take j) s).newCell l).calls.length = 0 := rfl
  have e1 : (vs.take j).length = j := by rw [List.length_take]; omega
  have e2 : (vs.take (j + 1)).length = j + 1 := by rw [List.length_take]; omega
  have e3 : vs.take (j + 1) = vs.take j ++ [vs[j]] := List.take_succ_eq_append_getElem hj
  simp only [ST.setCur, h0, if_true]
  simp only [newS, ST.newCell, FR.snoc, e1, e3]
  congr 1
  · rw [← e3, e2, List.range_succ]
  · funext i
    by_cases e : i = j
    · subst e; simp [← hl]
    · simp [e]
  · rw [← e3, e2]
theorem fitsL_get : ∀ {vs : List VD} {ls : List (List Int)} (i : Nat) (h : i < vs.length) (h' : i < ls.length), fitsL vs ls = true → fit1 vs[i] ls[i] = true
  | v :: vs, l :: ls, 0, _, _, h => by simp only [fitsL, Bool.and_eq_true] at h; exact h.1
  | v :: vs, l :: ls, i + 1, h, h', h0 => by
    simp only [fitsL, Bool.and_eq_true] at h0
    exact fitsL_get i (by simpa using h) (by simpa using h') h0.2
/-- What Fits says. -/
theorem fitB_all {vs : List VD} {s : SS} (h : fitB vs s = true) : vs.length ≤ 32 ∧ s.cells.length = vs.length ∧ s.tin.length ≤ 4096 ∧ s.tout.length ≤ 4096 ∧ ∀ i (hi : i < vs.length) (hi' : i < s.cells.length), vdB vs[i] = true ∧ fit1 vs[i] s.cells[i] = true := by
  simp only [fitB, svB, Bool.and_eq_true, decide_eq_true_eq] at h
  obtain ⟨⟨⟨⟨⟨h1, h2⟩, h3⟩, h4⟩, h5⟩, h6⟩ := h
  exact ⟨h1, h3, h4, h5, fun i hi hi' => ⟨List.all_eq_true.1 h2 _ (List.getElem_mem hi), fitsL_get i hi hi' h6⟩⟩
theorem newS_WF {vs : List VD} {s : SS} (h : fitB vs s = true) (hf : ∀ v ∈ vs, FldV v) (hc : ∀ l ∈ s.cells, ∀ x ∈ l, I64 x) (hi : ∀ x ∈ s.tin, I64 x) (ho : ∀ x ∈ s.tout, I64 x) (j : Nat) (hj : j ≤ vs.length) : (newS (vs.take j) s).WF := by
  obtain ⟨h32, hlen, h1, h2, hall⟩ := fitB_all h
  have e1 : (vs.take j).length = j := by rw [List.length_take]; omega
  refine ⟨⟨fun i => ((vs.getD i ⟨⟨#[]⟩, 0, 0⟩).k, (vs.getD i ⟨⟨#[]⟩, 0, 0⟩).n), ⟨by simp [newS], by simp [newS], by simp only [newS, e1]; omega, fun v hv => hf v (List.mem_of_mem_take hv), fun c hc => by simpa [newS] using hc, fun i hi hi' => ?_⟩, by simp [newS], fun i hi => ?_⟩, by simp [newS], fun i hi => ?_, ⟨h1, hi⟩, ⟨h2, ho⟩⟩
  · simp only [newS, e1] at hi hi' ⊢
    have : i < vs.length := by omega
    simp [this]
  · simp only [newS, e1] at hi ⊢
    have hv : i < vs.length := by omega
    have hv' : i < s.cells.length := by omega
    obtain ⟨a1, a2⟩ := hall i hv hv'
    simp only [List.getD_eq_getElem?_getD, List.getElem?_eq_getElem hv, List.getElem?_eq_getElem hv', Option.getD_some]
    unfold vdB at a1
    unfold fit1 at a2
    refine ⟨fun hk => ?_, fun hk => ?_, ?_⟩
    · rw [if_neg (by omega)] at a2
      have := of_decide_eq_true a2
      simp only [fixE, hk, if_true] at this
      omega
    · rw [if_neg (by omega)] at a2
      have := of_decide_eq_true a2
      simp only [fixE, hk] at this
      simpa using this
    · split at a1
      · next h => rcases h with h | h <;> simp [h]
      · split at a1
        · next h => simp [h]
        · cases a1
  · simp only [newS, e1] at hi ⊢
    have hv : i < vs.length := by omega
    have hv' : i < s.cells.length := by omega
    obtain ⟨a1, a2⟩ := hall i hv hv'
    simp only [List.getD_eq_getElem?_getD, List.getElem?_eq_getElem hv', Option.getD_some]
    refine ⟨?_, hc _ (List.getElem_mem hv')⟩
    unfold vdB at a1
    unfold fit1 at a2
    split at a2
    · exact of_decide_eq_true a2
    · have := of_decide_eq_true a2
      unfold fixE at this
      split at this
      · omega
      · next hk hk1 =>
        rw [if_neg (by omega)] at a1
        split at a1
        · have := of_decide_eq_true a1
          omega
        · cases a1

/-- A new cell whose elements lie in a row of their own. -/
theorem newCell_row {W w2 : World} {n0 : Nat} {P : Ph} {S : ST} (h : SR W n0 P S) (hb : Below W.heap.size W w2) (v : Value) (l : List Int) (ho : w2.ownsRow W.heap.size 3 1 v l.length (flatI l)) :
    Stp n0 (rows P S) W (rows (P.newCell S w2.heap.size v) (S.newCell l)) (w2.alloc (.cells #[v] 82)) := by
  have hn : n0 ≤ W.heap.size := by have := h.rws.lt .sb P.sb rfl; omega
  have hs := hb.size
  have s1 := Stp.take2 (W' := w2.alloc (.cells #[v] 82)) h.rws (bl_al hb _) (.cb S.nc) (.ci S.nc) (by simp) ⟨boxV w2.heap.size, 82, 1, 1, [v]⟩ ⟨v, 3, 1, l.length, flatI l⟩
    (own_new w2 n0 _ [_] (by omega) rfl) (own_mono (ho.alloc _) hn) (fun b e => by simp [Value.ownBlock] at e; omega) (fun b e => (ho.lt b e).1) (fun b e e2 => by simp [Value.ownBlock] at e; have := (ho.lt b e2).2; omega)
  exact s1.cast (rows_newCell h.wf P w2.heap.size v l).symm
/-- What frame.add leaves of a store (no local). -/
theorem snoc_fin {W W' : World} {n0 : Nat} {P : Ph} {S : ST} (v : VD) (id : Nat) (vv vc : Value) (hlen : S.cur.cs.length = S.cur.vs.length)
    (hst : Stp n0 (rows P S) W (updR (updR (updR (rows P S) (vI S) ⟨vv, 24, 3, S.cur.vs.length + 1, flatV S.cur.vs ++ [.string v.s, .int .u8 v.k, .int .i64 v.n]⟩) (cI S) ⟨vc, 79, 1, S.cur.vs.length + 1, ptrs P.cb S.cur.cs ++ [.pointer (some ⟨P.cb id, 0, none⟩)]⟩) (hI S) { rows P S (hI S) with xs := ((rows P S (hI S)).xs.set (oI S) vv).set (oI S + 1) vc }) W') :
    Stp n0 (rows P S) W (rows (P.setCur S vv vc) (S.setCur (S.cur.snoc v id))) W' := by
  refine hst.cast ?_
  rw [rows_setCur]
  obtain ⟨_, _, g3⟩ := hold_get P S
  have e1 : (S.cur.snoc v id).vs.length = S.cur.vs.length + 1 := by simp [FR.snoc]
  have e2 : (S.cur.snoc v id).cs.length = S.cur.vs.length + 1 := by simp [FR.snoc, hlen]
  have e3 : flatV (S.cur.snoc v id).vs = flatV S.cur.vs ++ [.string v.s, .int .u8 v.k, .int .i64 v.n] := flatV_snoc _ _
  have e4 : ptrs P.cb (S.cur.snoc v id).cs = ptrs P.cb S.cur.cs ++ [.pointer (some ⟨P.cb id, 0, none⟩)] := by simp [FR.snoc, ptrs]
  rw [e1, e2, e3, e4]
  have e5 : (((rows P S (hI S)).xs.set (oI S) vv).set (oI S + 1) vc).set (oI S + 2) (.int .i64 (S.cur.snoc v id).loc) = ((rows P S (hI S)).xs.set (oI S) vv).set (oI S + 1) vc := by
    have hl : oI S + 2 < (rows P S (hI S)).xs.length := (List.getElem?_eq_some_iff.1 g3).1
    refine List.ext_getElem? fun q => ?_
    by_cases e : q = oI S + 2
    · subst e
      rw [List.getElem?_set_self (by simpa using hl), List.getElem?_set_ne (by omega), List.getElem?_set_ne (by omega), g3]
      rfl
    · rw [List.getElem?_set_ne (by omega)]
  rw [e5]
/-- The store of New ahead of its loop. -/
theorem newS_start {W w2 w3 : World} {vI vO : Value} {tb : Nat} {s : SS} (hwf : (newS [] s).WF) (hb : Below W.heap.size W w2) (h1 : w2.heap[tb]? = some (.cells #[vI, vO] 93 (0, 0))) (ht : W.heap.size ≤ tb)
    (o1 : w2.ownsRow W.heap.size 3 1 vI s.tin.length (flatI s.tin)) (o2 : w2.ownsRow W.heap.size 3 1 vO s.tout.length (flatI s.tout)) (n1 : vI.ownBlock ≠ some tb) (n2 : vO.ownBlock ≠ some tb) (n3 : ∀ b, vI.ownBlock = some b → vO.ownBlock ≠ some b)
    (hw : w3 = w2.alloc (.cells #[.slice none 0 0, .slice none 0 0, .int .i64 0, .slice none 0 0, .pointer (some ⟨tb, 0, none⟩)] 77)) :
    SR w3 W.heap.size ⟨w2.heap.size, tb, vI, vO, .slice none 0 0, .slice none 0 0, .slice none 0 0, fun _ => .slice none 0 0, fun _ => .slice none 0 0, fun _ => 0, fun _ => .slice none 0 0⟩ (newS [] s) := by
  subst hw
  have hs := hb.size
  have htb := blk_lt h1
  refine ⟨⟨fun i => ?_, ?_⟩, hwf⟩
  · cases i with
    | sb => exact own_new w2 W.heap.size _ [_, _, _, _, _] hs rfl
    | tb => exact ⟨rfl, .inr ⟨tb, 1, #[vI, vO], rfl, ht, blk_al h1 _, Nat.le_refl _, by decide, rfl, rfl⟩⟩
    | tin => exact o1.alloc _
    | tout => exact o2.alloc _
    | bv => exact World.ownsRow_nil _ _ _ _
    | bc => exact World.ownsRow_nil _ _ _ _
    | calls => exact World.ownsRow_nil _ _ _ _
    | fv i => exact World.ownsRow_nil _ _ _ _
    | fc i => exact World.ownsRow_nil _ _ _ _
    | cb i => simp only [rows, newS, List.length_nil, Nat.not_lt_zero, if_false]; exact World.ownsRow_nil _ _ _ _
    | ci i => simp only [rows, newS, List.length_nil, Nat.not_lt_zero, if_false]; exact World.ownsRow_nil _ _ _ _
    | x i => exact World.ownsRow_nil _ _ _ _
  · have key : ∀ (i : Res) b, (rows ⟨w2.heap.size, tb, vI, vO, .slice none 0 0, .slice none 0 0, .slice none 0 0, fun _ => .slice none 0 0, fun _ => .slice none 0 0, fun _ => 0, fun _ => .slice none 0 0⟩ (newS [] s) i).v.ownBlock = some b → (i = .sb ∧ b = w2.heap.size) ∨ (i = .tb ∧ b = tb) ∨ (i = .tin ∧ vI.ownBlock = some b) ∨ (i = .tout ∧ vO.ownBlock = some b) := fun i b hb => by
      cases i with
      | sb => simp [rows, Value.ownBlock] at hb; exact .inl ⟨rfl, hb.symm⟩
      | tb => simp [rows, Value.ownBlock] at hb; exact .inr (.inl ⟨rfl, hb.symm⟩)
      | tin => exact .inr (.inr (.inl ⟨rfl, hb⟩))
      | tout => exact .inr (.inr (.inr ⟨rfl, hb⟩))
      | bv => simp [rows, Value.ownBlock] at hb
      | bc => simp [rows, Value.ownBlock] at hb
      | calls => simp [rows, Value.ownBlock] at hb
      | fv i => simp [rows, newS, nilR, Value.ownBlock] at hb
      | fc i => simp [rows, newS, nilR, Value.ownBlock] at hb
      | cb i => simp [rows, newS, nilR, Value.ownBlock] at hb
      | ci i => simp [rows, newS, nilR, Value.ownBlock] at hb
      | x i => simp [rows, nilR, Value.ownBlock] at hb
    intro i j b hij h1 h2
    have l1 := fun b (e : vI.ownBlock = some b) => (o1.lt b e).2
    have l2 := fun b (e : vO.ownBlock = some b) => (o2.lt b e).2
    rcases key i b h1 with ⟨e1, a1⟩ | ⟨e1, a1⟩ | ⟨e1, a1⟩ | ⟨e1, a1⟩ <;> rcases key j b h2 with ⟨e2, a2⟩ | ⟨e2, a2⟩ | ⟨e2, a2⟩ | ⟨e2, a2⟩
    · exact hij (e1.trans e2.symm)
    · omega
    · have := l1 b a2; omega
    · have := l2 b a2; omega
    · omega
    · exact hij (e1.trans e2.symm)
    · subst a1; exact n1 a2
    · subst a1; exact n2 a2
    · have := l1 b a1; omega
    · subst a2; exact n1 a1
    · exact hij (e1.trans e2.symm)
    · exact n3 b a1 a2
    · have := l2 b a1; omega
    · subst a2; exact n2 a1
    · exact n3 b a2 a1
    · exact hij (e1.trans e2.symm)

theorem Rws.mono {I : Type} {W : World} {n0 n1 : Nat} {d : I → RowD} (h : Rws W n1 d) (hn : n0 ≤ n1) : Rws W n0 d := ⟨fun i => own_mono (h.row i) hn, h.sep⟩
theorem SR.mono {W : World} {n0 n1 : Nat} {P : Ph} {S : ST} (h : SR W n1 P S) (hn : n0 ≤ n1) : SR W n0 P S := ⟨h.rws.mono hn, h.wf⟩
/-- frame.add at the store that New is making. -/
theorem add_new {vs : List VD} {s : SS} {j : Nat} {hj : j < vs.length} {l : List Int} {hl : s.cells.getD j [] = l} {W : World} {n1 : Nat} {P : Ph} (h : Rws W n1 (rows P ((newS (vs.take j) s).newCell l))) (hm : j ≤ 1000) (sb b : Nat) (hsb : P.sb = sb) (hb : P.cb j = b) (v : VD) (hv : vs[j] = v) :
    Calls Try.prog 32 [.pointer (some ⟨sb, 0, none⟩), .agg #[.string v.s, .int .u8 v.k, .int .i64 v.n], .pointer (some ⟨b, 0, none⟩)].toArray W fun e W' => ∃ u, e = .returned u ∧ ∃ P', Stp n1 (rows P ((newS (vs.take j) s).newCell l)) W (rows P' (newS (vs.take (j + 1)) s)) W' ∧ P'.sb = sb := by
  subst hsb hb hv
  have e1 : (vs.take j).length = j := by rw [List.length_take]; omega
  have hadd := add_any h .sb .bv .bc (by simp) (by simp) (by simp) P.sb 0 rfl rfl rfl (flatV (vs.take j)) (ptrs P.cb (List.range j)) j (by simp [rows, newS, ST.newCell, e1]) (by simp [rows, newS, ST.newCell, e1]) (by omega) vs[j] (some ⟨P.cb j, 0, none⟩)
  refine hadd.mono ?_
  rintro e W' ⟨⟨u, hu⟩, vv, vc, hst⟩
  refine ⟨u, hu, P.setCur ((newS (vs.take j) s).newCell l) vv vc, ?_, ?_⟩
  · have := snoc_fin (P := P) (S := (newS (vs.take j) s).newCell l) (W := W) (W' := W') (n0 := n1) vs[j] j vv vc (by simp [ST.cur, newS, ST.newCell]) (by
      have e2 : ((newS (vs.take j) s).newCell l).cur.vs.length = j := e1
      have e3 : ((newS (vs.take j) s).newCell l).cur.cs = List.range j := by show List.range (vs.take j).length = _; rw [e1]
      rw [e2, e3]
      exact hst)
    rw [show ((newS (vs.take j) s).newCell l).setCur (((newS (vs.take j) s).newCell l).cur.snoc vs[j] j) = newS (vs.take (j + 1)) s from newS_take vs s j hj l hl] at this
    exact this
  · unfold Ph.setCur; split <;> rfl

theorem fnCloneI : IsFn Try.prog 33 Try.f33 := ⟨Try.func33, by kernel_rfl, by kernel_rfl⟩
theorem buildSt (p : Option Addr) (w : World) : (Instr.build 77 #[(2, .pointer p)]).run Try.prog w = .ok (.agg #[.slice none 0 0, .slice none 0 0, .int .i64 0, .slice none 0 0, .pointer p]) w := by kernel_rfl
theorem buildCe (A : Option Addr) (l c : Nat) (w : World) : (Instr.build 82 #[(0, .slice A l c)]).run Try.prog w = .ok (.agg #[.slice A l c]) w := by kernel_rfl

/-- What New hands back. -/
def NewP (vs : List VD) (s : SS) (w : World) (e : Ending) (w' : World) : Prop := Below w.heap.size w w' ∧
  ((fitB vs s = false ∧ e = .returned (.tuple #[.pointer none, .int .i64 3])) ∨ (fitB vs s = true ∧ ∃ P : Ph, e = .returned (.tuple #[.pointer (some ⟨P.sb, 0, none⟩), .int .i64 0]) ∧ SR w' w.heap.size P (newS vs s)))

set_option maxHeartbeats 4000000 in
set_option maxRecDepth 100000 in
theorem New_any (vs : List VD) (s : SS) (A : Option Addr) (c : Nat) (v : Value) (w : World) (hrow : RowV w Any A vs) (hl : vs.length ≤ LV) (hv : SV w Any s v) : Calls Try.prog 10 #[.slice A vs.length c, v] w (NewP vs s w) := by
  have HFT := Lib.hid (fun w' (hb : Below w.heap.size w w') => Fits_any vs s A c v w' (hrow.later hb) hl (hv.later hb))
  obtain ⟨AC, cC, AI, cI', AO, cO, rfl, hr1, hr2, hr3, hc1, hc2, hc3, hl1, hl2, hl3, hl4⟩ := hv
  have hl' := LV_int hl
  have HF := Lib.hid (show ∀ u ∈ vs, FldV u from fun u hu => by
    obtain ⟨q, hq, rfl⟩ := List.mem_iff_getElem.1 hu
    obtain ⟨_, _, _, _, hfq⟩ := hrow q hq
    exact hfq)
  have HCF := Lib.hid (show ∀ l ∈ s.cells, ∀ x ∈ l, I64 x from fun l hl => by
    obtain ⟨q, hq, rfl⟩ := List.mem_iff_getElem.1 hl
    obtain ⟨_, _, _, _, _, _, _, hr⟩ := hr1 q hq
    exact hr.fits)
  have HIF := Lib.hid hr2.fits
  have HOF := Lib.hid hr3.fits
  have HROW := Lib.hid hrow
  have HR1 := Lib.hid hr1
  have HR2 := Lib.hid hr2
  have HR3 := Lib.hid hr3
  have HL2 := Lib.hid hl2
  obtain ⟨R, hR⟩ : ∃ R, fitB vs s = R := ⟨_, rfl⟩
  have HR := Lib.hid hR
  rw [hR] at HFT
  obtain ⟨n1, hn1⟩ : ∃ n, s.cells.length = n := ⟨_, rfl⟩
  obtain ⟨n2, hn2⟩ : ∃ n, s.tin.length = n := ⟨_, rfl⟩
  obtain ⟨n3, hn3⟩ : ∃ n, s.tout.length = n := ⟨_, rfl⟩
  have HN1 := Lib.hid hn1
  have HN2 := Lib.hid hn2
  have HN3 := Lib.hid hn3
  rw [hn1, hn2, hn3] at HFT
  rw [hn1, hn2, hn3]
  clear hrow hr1 hr2 hr3 hc1 hc2 hc3 hl1 hl2 hl3 hl4 hl hR hn1 hn2 hn3
  go_enter Try.func10, Try.ntmps10
  go_wp2_with fail
  refine (HFT.out _ (bl_al (Below.refl _ _) _)).mono ?_
  rintro e9 w1 ⟨rfl, bw1⟩
  have HB1 := Lib.hid (bl_tt (bl_al (Below.refl w.heap.size w) _) bw1)
  have hP := blk_bl (heap_alloc_new w (.cells #[.slice AC n1 cC, .slice AI n2 cI', .slice AO n3 cO] 29)) bw1
  clear bw1
  cases R
  · go_wp2_with fail
    go_ret2
    exact ⟨HB1.out, .inl ⟨HR.out, rfl⟩⟩
  · obtain ⟨h32, hlen, h4i, h4o, hall⟩ := fitB_all HR.out
    have HALL := Lib.hid hall
    have HLEN := Lib.hid hlen
    have HTN := Lib.hid (TNew_any s.tin s.tout AI AO cI' cO w1 (HR2.out.later HB1.out) (HR3.out.later HB1.out) h4i h4o)
    rw [HN2.out, HN3.out] at HTN
    have x1 : w1.cell? ⟨w.heap.size, 1, none⟩ = some (.slice AI n2 cI') := cell_of_blk hP rfl
    have x2 : w1.cell? ⟨w.heap.size, 2, none⟩ = some (.slice AO n3 cO) := cell_of_blk hP rfl
    have HP0 := Lib.hid hP
    have hbst := buildSt
    clear hlen h4i h4o hall hP
    go_wp2_with fail
    refine HTN.out.mono ?_
    rintro e9 w2 ⟨tb, vI, vO, rfl, ht, h1, o1, o2, t1, t2, t3, bw2⟩
    rw [← HN2.out] at o1
    rw [← HN3.out] at o2
    have HSR := Lib.hid (newS_start (newS_WF HR.out HF.out HCF.out HIF.out HOF.out 0 (Nat.zero_le _)) bw2 h1 ht o1 o2 t1 t2 t3 rfl)
    have HB2 := Lib.hid bw2
    clear ht h1 o1 o2 t1 t2 t3 bw2 x1 x2
    go_wp2_with fail
    go_loopw [30] (fun i wr => ∃ j : Nat, j ≤ vs.length ∧ i = .int .i64 j ∧ Hid (Below w1.heap.size w1 wr) ∧ ∃ P : Ph, Hid (SR wr w1.heap.size P (newS (vs.take j) s)) ∧ Hid (P.sb = w2.heap.size)) (fun i _ => vs.length - (intOf i).toNat)
    case atStart => exact ⟨0, Nat.zero_le _, rfl, Lib.hid (bl_al HB2.out _), _, HSR, Lib.hid rfl⟩
    case round =>
      obtain ⟨j, hj, rfl, HBL, P, HS, HSB⟩ := hrel
      by_cases hlt : j < vs.length
      · have hlc : j < s.cells.length := by rw [HLEN.out]; exact hlt
        obtain ⟨a, rfl, -, ⟨y0, y1, y2⟩, -⟩ := ((HROW.out.later HB1.out).later HBL.out) j hlt
        obtain ⟨b, l, A', c', rfl, Hl, x0, -, hri⟩ := ((HR1.out.later HB1.out).later HBL.out).nd hlc
        have HBB := Lib.hid (show b.block < w.heap.size by
          obtain ⟨a', _, _, hA, _, hcw, _⟩ := HR1.out j hlc
          injection hA with hA
          have := World.block_lt_of_cell? w _ hcw
          rw [block_add, ← hA] at this
          exact this)
        obtain ⟨v, hv⟩ : ∃ v, vs[j] = v := ⟨_, rfl⟩
        rw [hv] at y0 y1 y2
        have Hv := Lib.hid hv
        have hll : l.length ≤ LI := by rw [← Hl.out]; exact HL2.out _ (List.getElem_mem hlc)
        have Hgd := Lib.hid (show s.cells.getD j [] = l by rw [← Hl.out]; simp [hlc])
        obtain ⟨vm, vk, vn⟩ := v
        dsimp only at y0 y1 y2
        have hj1 : (j : Int) < (vs.length : Int) := by omega
        have hj2 : (j : Int) < (n1 : Int) := by have := HN1.out; have := HLEN.out; omega
        have HRI := Lib.hid hri
        have z0 : wr.cell? ⟨w.heap.size, 0, none⟩ = some (.slice (some b) n1 cC) := cell_bl HBL.out (cell_of_blk HP0.out rfl)
        have hbx := buildCe
        clear hri hv
        go_upto_region 10 with fail
        obtain ⟨wa, hwa⟩ : ∃ wa, wr.alloc (.cells #[.string vm, .int .u8 vk, .int .i64 vn] 24) = wa := ⟨_, rfl⟩
        have hba : Below wr.heap.size wr wa := hwa ▸ bl_al (Below.refl _ _) _
        have hvb : wa.heap[wr.heap.size]? = some (.cells #[.string vm, .int .u8 vk, .int .i64 vn] 24 (0, 0)) := hwa ▸ heap_alloc_new wr _
        rw [hwa]
        have q0 : wa.cell? ⟨wr.heap.size, 0, none⟩ = some (.string vm) := cell_of_blk hvb rfl
        have q1 : wa.cell? ⟨wr.heap.size, 1, none⟩ = some (.int .u8 vk) := cell_of_blk hvb rfl
        have q2 : wa.cell? ⟨wr.heap.size, 2, none⟩ = some (.int .i64 vn) := cell_of_blk hvb rfl
        have q3 := cell_bl hba z0
        have q4 := cell_bl hba x0
        have HBA := Lib.hid hba
        clear hwa hba hvb y0 y1 y2 x0 z0
        obtain ⟨S1, hS1⟩ : ∃ S1 : World → Prop, S1 = fun w' : World => w'.cell? ⟨wr.heap.size, 0, none⟩ = some (.string vm) ∧ w'.cell? ⟨wr.heap.size, 1, none⟩ = some (.int .u8 vk) ∧ w'.cell? ⟨wr.heap.size, 2, none⟩ = some (.int .i64 vn) ∧ w'.cell? ⟨w.heap.size, 0, none⟩ = some (.slice (some b) n1 cC) ∧ w'.cell? (b.add j) = some (.slice A' l.length c') := ⟨_, rfl⟩
        have HSa := Lib.hid (show S1 wa by rw [hS1]; exact ⟨q0, q1, q2, q3, q4⟩)
        have HSk := Lib.hid (show ∀ W W', S1 W → (∀ p u, W.cell? p = some u → (p.block = wr.heap.size ∨ p.block = w.heap.size ∨ p.block = b.block) → W'.cell? p = some u) → S1 W' by
          rw [hS1]
          rintro W W' ⟨a0, a1, a2, a3, a4⟩ hk
          exact ⟨hk _ _ a0 (.inl rfl), hk _ _ a1 (.inl rfl), hk _ _ a2 (.inl rfl), hk _ _ a3 (.inr (.inl rfl)), hk _ _ a4 (.inr (.inr (block_add b j)))⟩)
        have HSb := Lib.hid (show ∀ W W', S1 W → Below W.heap.size W W' → S1 W' from fun W W' h hb => HSk.out W W' h fun p u hp _ => cell_bl hb hp)
        have hSS : S1 wa.drew ∧ (fun _ : World => True) wa.drew := ⟨HSb.out _ _ HSa.out (Below.refl _ _).drew, trivial⟩
        refine wp_region_noPanic ?_
        refine wp_region_G S1 (fun _ : World => True) 12 (by kernel_rfl) ?_
        subst hS1
        refine wpG_take1 (i := 0) (v := ?_) rfl (by kernel_rfl) (by kernel_rfl) (by kernel_rfl) (by decide) (fun _ _ _ h => h) (Or.inl ⟨by rfl, ?_⟩) hSS ?_
        rotate_left 1
        · (intro w hSw; (try dsimp only at hSw); (try simp only [List.getElem_toArray, List.getElem_cons_zero]); go_simp; (try with_reducible rfl))
        (try simp only [Act.put, List.getElem_toArray, List.getElem_cons_zero, List.setIfInBounds_toArray, List.set_cons_zero, List.set_cons_succ])
        refine wpG_take1 (i := 1) (v := ?_) rfl (by kernel_rfl) (by kernel_rfl) (by kernel_rfl) (by decide) (fun _ _ _ h => h) (Or.inl ⟨by rfl, ?_⟩) hSS ?_
        rotate_left 1
        · (intro w hSw; (try dsimp only at hSw); (try simp only [List.getElem_toArray, List.getElem_cons_succ, List.getElem_cons_zero]); go_simp; (try with_reducible rfl))
        (try simp only [Act.put, List.getElem_toArray, List.getElem_cons_succ, List.getElem_cons_zero, List.setIfInBounds_toArray, List.set_cons_zero, List.set_cons_succ])
        refine wpG_take1 (i := 2) (v := ?_) rfl (by kernel_rfl) (by kernel_rfl) (by kernel_rfl) (by decide) (fun _ _ _ h => h) (Or.inl ⟨by rfl, ?_⟩) hSS ?_
        rotate_left 1
        · (intro w hSw; (try dsimp only at hSw); (try simp only [List.getElem_toArray, List.getElem_cons_succ, List.getElem_cons_zero]); go_simp; (try with_reducible rfl))
        (try simp only [Act.put, List.getElem_toArray, List.getElem_cons_succ, List.getElem_cons_zero, List.setIfInBounds_toArray, List.set_cons_zero, List.set_cons_succ])
        refine wpG_take1 (i := 3) (v := ?_) rfl (by kernel_rfl) (by kernel_rfl) (by kernel_rfl) (by decide) (fun _ _ _ h => h) (Or.inl ⟨by rfl, ?_⟩) hSS ?_
        rotate_left 1
        · (intro w hSw; (try dsimp only at hSw); (try simp only [List.getElem_toArray, List.getElem_cons_succ, List.getElem_cons_zero]); go_simp; (try with_reducible rfl))
        (try simp only [Act.put, List.getElem_toArray, List.getElem_cons_succ, List.getElem_cons_zero, List.setIfInBounds_toArray, List.set_cons_zero, List.set_cons_succ])
        refine wpG_take1 (i := 4) (v := ?_) rfl (by kernel_rfl) (by kernel_rfl) (by kernel_rfl) (by decide) (fun _ _ _ h => h) (Or.inl ⟨by rfl, ?_⟩) hSS ?_
        rotate_left 1
        · (intro w hSw; (try dsimp only at hSw); (try simp only [List.getElem_toArray, List.getElem_cons_succ, List.getElem_cons_zero]); go_simp; (try with_reducible rfl))
        (try simp only [Act.put, List.getElem_toArray, List.getElem_cons_succ, List.getElem_cons_zero, List.setIfInBounds_toArray, List.set_cons_zero, List.set_cons_succ])
        refine wpG_take1 (i := 5) (v := ?_) rfl (by kernel_rfl) (by kernel_rfl) (by kernel_rfl) (by decide) (fun _ _ _ h => h) (Or.inl ⟨by rfl, ?_⟩) hSS ?_
        rotate_left 1
        · (intro w hSw; (try dsimp only at hSw); (try simp only [List.getElem_toArray, List.getElem_cons_succ, List.getElem_cons_zero]); go_simp; (try with_reducible rfl))
        (try simp only [Act.put, List.getElem_toArray, List.getElem_cons_succ, List.getElem_cons_zero, List.setIfInBounds_toArray, List.set_cons_zero, List.set_cons_succ])
        refine wpG_take1 (i := 6) (v := ?_) rfl (by kernel_rfl) (by kernel_rfl) (by kernel_rfl) (by decide) (fun _ _ _ h => h) (Or.inl ⟨by rfl, ?_⟩) hSS ?_
        rotate_left 1
        · (intro w hSw; (try dsimp only at hSw); (try simp only [List.getElem_toArray, List.getElem_cons_succ, List.getElem_cons_zero]); go_simp; (try with_reducible rfl))
        (try simp only [Act.put, List.getElem_toArray, List.getElem_cons_succ, List.getElem_cons_zero, List.setIfInBounds_toArray, List.set_cons_zero, List.set_cons_succ])
        refine wpG_take1 (i := 7) (v := ?_) rfl (by kernel_rfl) (by kernel_rfl) (by kernel_rfl) (by decide) (fun _ _ _ h => h) (Or.inl ⟨by rfl, ?_⟩) hSS ?_
        rotate_left 1
        · (intro w hSw; (try dsimp only at hSw); (try simp only [List.getElem_toArray, List.getElem_cons_succ, List.getElem_cons_zero]); go_simp; (try with_reducible rfl))
        (try simp only [Act.put, List.getElem_toArray, List.getElem_cons_succ, List.getElem_cons_zero, List.setIfInBounds_toArray, List.set_cons_zero, List.set_cons_succ])
        refine wpG_take1 (i := 8) (v := ?_) rfl (by kernel_rfl) (by kernel_rfl) (by kernel_rfl) (by decide) (fun _ _ _ h => h) (Or.inl ⟨by rfl, ?_⟩) hSS ?_
        rotate_left 1
        · (intro w hSw; (try dsimp only at hSw); (try simp only [List.getElem_toArray, List.getElem_cons_succ, List.getElem_cons_zero]); go_simp; (try with_reducible rfl))
        (try simp only [Act.put, List.getElem_toArray, List.getElem_cons_succ, List.getElem_cons_zero, List.setIfInBounds_toArray, List.set_cons_zero, List.set_cons_succ])
        have had : Calls Try.prog 33 [.slice A' l.length c'].toArray wa.drew fun e w' => ∃ u, e = .returned u ∧ w'.ownsRow wa.drew.heap.size 3 1 u l.length (flatI l) ∧ Below wa.drew.heap.size wa.drew w' :=
          (CloneI_own l A' c' Any wa.drew ((HRI.out.later HBA.out).later (Below.refl _ _).drew) hll).mono fun e w' ⟨u, hu, h1, _, h2⟩ => ⟨u, hu, h1, h2⟩
        refine wpG_one (i := 9) (by kernel_rfl) rfl (fun K hK => ?_)
        refine step_callL (by rfl) (.func 33) [.tmp 43] _ (by rfl) 33 _ fnCloneI (by rfl) _ (by rfl) _ had ?_
        rintro v4 w4 ⟨ho4, hb4⟩
        obtain ⟨A4, c4, rfl, -, -⟩ := row_slice ho4
        have HO4 := Lib.hid ho4
        have HB4 := Lib.hid hb4
        have HS4 := Lib.hid (HSb.out _ _ hSS.1 hb4)
        refine hK.out _ _ ⟨HS4.out, trivial⟩ ?_
        clear hK K hSS had ho4 hb4 q0 q1 q2 q3 q4
        (try simp only [Act.put, List.getElem_toArray, List.getElem_cons_succ, List.getElem_cons_zero, List.setIfInBounds_toArray, List.set_cons_zero, List.set_cons_succ])
        refine wpG_one (i := 10) (by kernel_rfl) rfl (fun K hK => ?_)
        (try simp only [List.getElem_toArray, List.getElem_cons_succ, List.getElem_cons_zero])
        go_simp
        refine hK.out _ _ ⟨HS4.out, trivial⟩ ?_
        clear hK K
        (try simp only [Act.put, List.getElem_toArray, List.getElem_cons_succ, List.getElem_cons_zero, List.setIfInBounds_toArray, List.set_cons_zero, List.set_cons_succ])
        refine wpG_one (i := 11) (by kernel_rfl) rfl (fun K hK => ?_)
        (try simp only [List.getElem_toArray, List.getElem_cons_succ, List.getElem_cons_zero])
        go_simp
        have HS5 := Lib.hid (HSb.out _ _ HS4.out (bl_al (Below.refl _ _) (.cells #[.slice A4 l.length c4] 82)))
        refine hK.out _ _ ⟨HS5.out, trivial⟩ ?_
        clear hK K
        (try simp only [Act.put, List.getElem_toArray, List.getElem_cons_succ, List.getElem_cons_zero, List.setIfInBounds_toArray, List.set_cons_zero, List.set_cons_succ])
        have e1 : (vs.take j).length = j := by rw [List.length_take]; omega
        have s1 := newCell_row ((HS.out.later HBA.out).later (Below.refl _ _).drew) HB4.out (.slice A4 l.length c4) l HO4.out
        have had := add_new (hj := hlt) (hl := Hgd.out) s1.rws (by omega) w2.heap.size w4.heap.size HSB.out (by simp [Ph.newCell, newS, e1]) ⟨vm, vk, vn⟩ Hv.out
        dsimp only at had
        refine wpG_past (i := 12) (by kernel_rfl) rfl (by kernel_rfl) (fun K hK => ?_)
        refine step_callL (by rfl) (.func 32) [.tmp 37, .tmp 38, .tmp 46] _ (by rfl) 32 _ fnAdd (by rfl) _ (by rfl) _ had ?_
        rintro v6 w6 ⟨P', hst, hsb'⟩
        have hza : wr.heap.size < wa.drew.heap.size := World.block_lt_of_cell? _ _ HSa.out.1
        have hzw : w.heap.size < w1.heap.size := blk_lt HP0.out
        have hBl := HBL.out.size
        have hown : ∀ b', OwnB (rows (P.newCell (newS (vs.take j) s) w4.heap.size (.slice A4 l.length c4)) ((newS (vs.take j) s).newCell l)) b' → w1.heap.size ≤ b' ∧ b' ≠ wr.heap.size := fun b' hb' => by
          rcases s1.own b' hb' with ⟨q, hq⟩ | hq
          · have := HS.out.rws.lt q b' hq; omega
          · omega
        have hS6 := HSk.out _ _ HS5.out fun p u hp hpb => chg_cell hst.chg hp fun hb' => by
          have h1 := hown _ hb'
          have h2 := HBB.out
          rcases hpb with e | e | e <;> rw [e] at h1 <;> omega
        refine hK.out _ _ hS6 ?_
        have HST := Lib.hid (show SR w6 w1.heap.size P' (newS (vs.take (j + 1)) s) from ⟨hst.rws, newS_WF HR.out HF.out HCF.out HIF.out HOF.out (j + 1) hlt⟩)
        have HB6 := Lib.hid (show Below w1.heap.size w1 w6 by
          have b4 : Below w1.heap.size w1 w4 := bl_tt (bl_tt HBL.out HBA.out).drew HB4.out
          have b5 : Below w1.heap.size w1 (w4.alloc (.cells #[.slice A4 l.length c4] 82)) := bl_al b4 _
          exact b5.trans (hst.chg.below b5.size fun b' hb' => (hown b' hb').1))
        have HSB' := Lib.hid hsb'
        clear hK K hst had s1 hown hsb' hS6
        (try simp only [Act.put, List.getElem_toArray, List.getElem_cons_succ, List.getElem_cons_zero, List.setIfInBounds_toArray, List.set_cons_zero, List.set_cons_succ])
        refine wpG_done (by kernel_rfl) ?_
        refine NoPanic.normal ?_
        go_wp2_with fail
        go_roundw
        case rel => exact ⟨j + 1, by omega, by go_num, HB6, P', HST, HSB'⟩
        case measure => simp [intOf]; omega
      · obtain rfl : j = vs.length := by omega
        have hj1 : ¬ (vs.length : Int) < (vs.length : Int) := by omega
        go_wp2_with fail
        go_ret2
        refine ⟨HB1.out.trans (HBL.out.mono ?_), .inr ⟨HR.out, P, by rw [HSB.out]; rfl, ?_⟩⟩
        · have := HB1.out.size; omega
        · have h1 := HS.out
          rw [List.take_of_length_le (Nat.le_refl _)] at h1
          exact h1.mono HB1.out.size

end Go.Proofs.Ytekjfbnggfbfhaa
