/-
  Contracts of slices.Clip (at ints and at declarations), scope.child and scope.inner.
-/
import Derived.Test.YtldcjboignbfpaaScA
import Derived.Test.YtldcjboignbfpaaRowI
import Derived.Test.YtldcjboignbfpaaClV
import Derived.ArgAppend
import Derived.Deep.RegionHeld3
namespace Go.Proofs.Ytldcjboignbfpaa
open Go.RowKit

set_option maxHeartbeats 1000000 in
theorem ClipI_any (A : Option Addr) (l c : Nat) (hlc : l ≤ c) (hl : l ≤ LI) (w : World) : Calls Try.prog 83 #[.slice A l c] w fun e w' => e = .returned (.slice A l l) ∧ w = w' := by
  have hl' := LI_int hl
  have h1 : (l : Int) ≤ (c : Int) := by omega
  clear hl
  go_enter Try.func83, Try.ntmps83
  go_wp2_with fail
  go_ret
  exact ⟨rfl, rfl⟩
set_option maxHeartbeats 1000000 in
theorem ClipV_any (A : Option Addr) (l c : Nat) (hlc : l ≤ c) (hl : l ≤ LV) (w : World) : Calls Try.prog 84 #[.slice A l c] w fun e w' => e = .returned (.slice A l l) ∧ w = w' := by
  have hl' := LV_int hl
  have h1 : (l : Int) ≤ (c : Int) := by omega
  clear hl
  go_enter Try.func84, Try.ntmps84
  go_wp2_with fail
  go_ret
  exact ⟨rfl, rfl⟩

/-- 'append(s, x)' where s is full, as one step of a region that draws its order. -/
theorem step_append_grows {P : Program} {w : World} {ops : Array Oper} {o : Oper} {a : Act} {K : Act → World → Prop} {Q : Exit → Act → World → Prop} {F : Prop} (hgd : o.guard = none) (s x : Operand) (t : TypeId)
    (hop : o.op = Op.call { callee := Callee.builtin Builtin.append, args := #[s, x], argTypes := #[t, t] }) (e : TypeId) (i : TypeInfo) (z : Value) (size bytes : Nat) (h1 : P.underlying t = some (.slice e)) (h2 : P.info? e = some i) (h3 : i.zero = some z) (h4 : i.size = size) (h5 : i.bytes = bytes) (h6 : z.cells.size = size) (h7 : 0 < size)
    (ao : Option Addr) (n cap : Nat) (olds : List Value) (hs : a.eval s = .slice ao n cap) (hnone : ao = none → n = 0 ∧ cap = 0) (hlo : olds.length = n * size) (holds : ∀ b, ao = some b → ∀ j u, olds[j]? = some u → w.cell? (b.add j) = some u)
    (ad : Addr) (m c : Nat) (news : List Value) (hx : a.eval x = .slice (some ad) m c) (hn : news.length = m * size) (hc : ∀ j u, news[j]? = some u → w.cell? (ad.add j) = some u) (h1c : ∀ u ∈ news, u.oneCell' = true)
    (hfull : cap < n + m) (b1 : n + m ≤ maxLen) (b2 : (n + m) * bytes ≤ 140737488355328)
    (hK : ∀ v' w', w'.ownsRow w.heap.size e size v' (n + m) (olds ++ news) → w.grownBy w' none → K (a.put o.dst v') w') :
    if Region.wanted o (yielded ops a.tmps) = true then Oper.wp P o a w K Q else F := by
  have hw : Region.wanted o (yielded ops a.tmps) = true := by simp [Region.wanted, hgd]
  rw [if_pos hw]
  cases ao with
  | some b =>
    obtain ⟨v', w', hrun, r1, r2⟩ := run_append_arg_grows (P := P) w t o.type e i z size bytes h1 h2 h3 h4 h5 h6 h7 b n cap olds hlo (holds b rfl) ad m c news hn hc hfull b1 b2
    unfold Oper.wp
    simp [execOp, hop, resolve, invoke, builtin, hs, hx, hrun, Result.andThen]
    exact hK v' w' r1 r2
  | none =>
    obtain ⟨rfl, rfl⟩ := hnone rfl
    obtain rfl : olds = [] := List.eq_nil_of_length_eq_zero (by simpa using hlo)
    obtain ⟨v', w', hrun, r1, r2, _⟩ := run_append_own (P := P) w w.heap.size t o.type e i z size bytes h1 h2 h3 h4 h5 h6 h7 (.slice none 0 0) 0 [] (World.ownsRow_nil w _ e size) ad m c news hn hc h1c b1 b2 (Nat.le_refl _)
    unfold Oper.wp
    simp [execOp, hop, resolve, invoke, builtin, hs, hx, hrun, Result.andThen]
    exact hK v' w' r1 r2

set_option maxHeartbeats 2000000 in
theorem child_any (q : List Int) (A : Option Addr) (c : Nat) (i : Int) (hi : I64 i) (S : Nat → Prop) (w : World) (hrow : RowI w S A q) (hlc : q.length ≤ c) (hl : q.length ≤ 100000) :
    Calls Try.prog 71 #[.slice A q.length c, .int .i64 i] w (NewI w (q ++ [i])) := by
  obtain ⟨i0, hi0, hz0, hz1, hz2⟩ := info_parts intInfo
  have HROW := Lib.hid hrow
  have HI := Lib.hid hi
  have hbI := buildI1
  have hm1 : q.length + 1 ≤ maxLen := by unfold maxLen; omega
  have hm2 : (q.length + 1) * 8 ≤ 140737488355328 := by omega
  have hnone : A = none → q.length = 0 ∧ q.length = 0 := fun h => by
    subst h
    cases q with
    | nil => simp
    | cons x xs => obtain ⟨_, h, _⟩ := hrow 0 (by simp); cases h
  have hold : ∀ b, A = some b → ∀ (j : Nat) u, (q.map fun x => Value.int .i64 x)[j]? = some u → (w.alloc (.cells #[.int .i64 i] 3)).cell? (b.add j) = some u := fun b hb j u hj => by
    subst hb
    exact cell_al (hrow.news.1 j u hj) _
  have hnew : ∀ (j : Nat) (u : Value), [Value.int .i64 i][j]? = some u → (w.alloc (.cells #[.int .i64 i] 3)).cell? ((⟨w.heap.size, 0, none⟩ : Addr).add j) = some u := fun j u h => by
    have := news_newN w 3 [Value.int .i64 i] j u h
    simpa using this
  clear hrow hi
  go_enter Try.func71, Try.ntmps71
  go_wp2_with fail
  refine (ClipI_any A q.length c hlc (by unfold LI; omega) _).mono ?_
  rintro e w' ⟨rfl, rfl⟩
  go_wp2_with (at_builtin; refine wpList_append_grows (P := Try.prog) _ rfl (.tmp 6) (.tmp 8) 47 rfl 3 i0 _ 1 8 Try.underlying47 hi0 hz0 hz1 hz2 rfl (by decide) A q.length q.length _ rfl hnone (by simp) hold ⟨w.heap.size, 0, none⟩ 1 1 [.int .i64 i] rfl rfl hnew (by intro u hu; simp at hu; subst hu; rfl) (by omega) hm1 hm2 ?_; intro v' w' h2 h3)
  have h2' : w'.ownsRow (w.heap.size + 1) 3 1 v' (q ++ [i]).length ((q ++ [i]).map (fun x => Value.int .i64 x)) := by
    have := h2
    simp only [World.size_alloc] at this
    simpa using this
  have hbl : Below w.heap.size w w' := ((Below.refl w.heap.size w).alloc (Nat.le_refl _) _).grown h3 (by simp) (fun g e => by cases e)
  obtain ⟨A', c', rfl, hcc, hri⟩ := ownsRow_rowI h2' (by
    intro x hx
    simp only [List.mem_append, List.mem_singleton] at hx
    rcases hx with hx | rfl
    · exact HROW.out.fits x hx
    · exact HI.out)
  have HRI := Lib.hid (hri.mono (S' := From w.heap.size) fun b hb => by have := (h2'.lt b hb).1; show w.heap.size ≤ b; omega)
  have HB := Lib.hid hbl
  have HC := Lib.hid hcc
  clear h2 h2' h3 hbl hold hnew hri hcc hnone
  go_wp2_with fail
  go_ret
  exact ⟨A', c', rfl, HRI.out, HC.out, HB.out⟩

theorem buildV2 (s : ByteArray) (k : Int) (w : World) : (Instr.build 56 #[(0, .string s), (1, .int .u8 k)]).run Try.prog w = .ok (.agg #[.string s, .int .u8 k, .int .i64 0]) w := by kernel_rfl
theorem buildSV1 (a0 a1 a2 : Value) (w : World) : (Instr.buildSlice 35 1 #[(0, .agg #[a0, a1, a2])]).run Try.prog w = .ok (.slice (some ⟨w.heap.size, 0, none⟩) 1 1) (w.alloc (.cells #[a0, a1, a2] 56)) := by kernel_rfl

/-- scope.inner. -/
def innerV (k : Int) (s : ByteArray) (i : Nat) (vs : List VD) : List VD := if k = 54 ∧ i = 1 then vs ++ [⟨s, 1, 0⟩] else if k = 55 ∧ i = 0 then vs ++ [⟨s, 3, 0⟩] else vs
/-- The row of the visible declarations: it may be the old one. -/
def ShRow (w : World) (S : Nat → Prop) (vs : List VD) (e : Ending) (w' : World) : Prop := ∃ A' c', e = .returned (.slice A' vs.length c') ∧ RowV w' (fun b => S b ∨ w.heap.size ≤ b) A' vs ∧ vs.length ≤ c' ∧ Below w.heap.size w w'

/-- A row of declarations that an append has made. -/
theorem ownsRow_rowV {w w' : World} {base : Nat} {E : TypeId} {v : Value} {vs : List VD} {u : VD} {news : List Value} (hn : ∀ i (hi : i < vs.length), news[i * 3]? = some (.string vs[i].s) ∧ news[i * 3 + 1]? = some (.int .u8 vs[i].k) ∧ news[i * 3 + 2]? = some (.int .i64 vs[i].n))
    (hl : news.length = vs.length * 3) (hf : ∀ i (hi : i < vs.length), FldV vs[i]) (hu : FldV u) (h : w'.ownsRow base E 3 v (vs.length + 1) (news ++ [.string u.s, .int .u8 u.k, .int .i64 u.n])) :
    ∃ A c, v = .slice A (vs ++ [u]).length c ∧ (vs ++ [u]).length ≤ c ∧ RowV w' (fun b => base ≤ b) A (vs ++ [u]) := by
  rcases h.2 with ⟨_, h0⟩ | ⟨g, cap, cur, rfl, hb, hg, hc, hm, hz, hx⟩
  · omega
  · refine ⟨some ⟨g, 0, none⟩, cap, by simp, by simpa using hc, fun i hi => ?_⟩
    have ha : (⟨g, 0, none⟩ : Addr).add (i * 3) = ⟨g, i * 3, none⟩ := by unfold Addr.add; split <;> simp_all
    have hcell : ∀ j x, (news ++ [Value.string u.s, .int .u8 u.k, .int .i64 u.n])[j]? = some x → w'.cell? ⟨g, j, none⟩ = some x := fun j x hj => by
      have hlt := (List.getElem?_eq_some_iff.1 hj).1
      rw [h.cellAt j (by simp at hlt; omega)]; exact hj
    refine ⟨⟨g, 0, none⟩, rfl, hb, ?_, ?_⟩
    · rw [ha]
      by_cases e : i < vs.length
      · obtain ⟨e0, e1, e2⟩ := hn i e
        rw [List.getElem_append_left e]
        exact ⟨hcell (i * 3) _ (by rw [List.getElem?_append_left (by omega)]; exact e0), hcell (i * 3 + 1) _ (by rw [List.getElem?_append_left (by omega)]; exact e1), hcell (i * 3 + 2) _ (by rw [List.getElem?_append_left (by omega)]; exact e2)⟩
      · have e' : i = vs.length := by simp at hi; omega
        subst e'
        simp only [List.getElem_append_right (Nat.le_refl _), Nat.sub_self, List.getElem_cons_zero]
        exact ⟨hcell (vs.length * 3) _ (by rw [List.getElem?_append_right (by omega)]; simp [hl]), hcell (vs.length * 3 + 1) _ (by rw [List.getElem?_append_right (by omega)]; simp [hl]), hcell (vs.length * 3 + 2) _ (by rw [List.getElem?_append_right (by omega)]; simp [hl])⟩
    · by_cases e : i < vs.length
      · rw [List.getElem_append_left e]; exact hf i e
      · have e' : i = vs.length := by simp at hi; omega
        subst e'
        simpa using hu

set_option maxHeartbeats 4000000 in
set_option maxRecDepth 100000 in
theorem inner_any (t : T) (i : Nat) (hi64 : i ≤ 4000000000) (vs : List VD) (A : Option Addr) (c : Nat) (S S' : Nat → Prop) (v : Value) (w : World) (hv : NV w S' t v) (hrow : RowV w S A vs) (hlc : vs.length ≤ c) (hl : vs.length ≤ 100000) :
    Calls Try.prog 73 #[v, .int .i64 i, .slice A vs.length c] w (ShRow w S (innerV t.k t.s i vs)) := by
  obtain ⟨i0, hi0, hz0, hz1, hz2⟩ := info_parts vdInfo
  obtain ⟨B, tc, rfl, hft, -⟩ := hv.open_
  have HROW := Lib.hid hrow
  have HLC := Lib.hid hlc
  have HFT := Lib.hid hft
  have hb2 := buildV2
  have hbs := buildSV1
  have hm1 : vs.length + 1 ≤ maxLen := by unfold maxLen; omega
  have hm2 : (vs.length + 1) * 32 ≤ 140737488355328 := by omega
  have hlv : vs.length ≤ LV := by unfold LV; omega
  obtain ⟨news, hnl, hnc, hn1, hnv⟩ : ∃ news : List Value, news.length = vs.length * 3 ∧ (∀ b, A = some b → ∀ (j : Nat) u, news[j]? = some u → w.cell? (b.add j) = some u) ∧ (A = none → vs.length = 0 ∧ vs.length = 0) ∧ (∀ i (hi : i < vs.length), news[i * 3]? = some (.string vs[i].s) ∧ news[i * 3 + 1]? = some (.int .u8 vs[i].k) ∧ news[i * 3 + 2]? = some (.int .i64 vs[i].n)) := by
    cases A with
    | none =>
      have h0 : vs = [] := by
        cases vs with
        | nil => rfl
        | cons x xs => obtain ⟨_, h, _⟩ := hrow 0 (by simp); cases h
      subst h0
      exact ⟨[], rfl, (fun b h => by cases h), (fun _ => ⟨rfl, rfl⟩), fun i hi => absurd hi (by simp)⟩
    | some a =>
      obtain ⟨news, h1, h2, _, h4⟩ := hrow.news
      exact ⟨news, h1, (fun b h => by injection h with h; subst h; exact h2), (fun h => by cases h), h4⟩
  have HNV := Lib.hid hnv
  have HFV := Lib.hid (show ∀ i (hi : i < vs.length), FldV vs[i] from fun i hi => (hrow i hi).choose_spec.2.2.2)
  clear hrow hlc hft hv hnv
  generalize t.k = tk, t.n = tn, t.s = ts, t.ks.length = tl at *
  obtain ⟨V, hV⟩ : ∃ V, innerV tk ts i vs = V := ⟨_, rfl⟩
  rw [hV]
  have HV := Lib.hid hV
  clear hV
  have key : ∀ (kd : Int) (hkd : kd = 1 ∨ kd = 3) (W' : World) (v' : Value), (((w.alloc (.cells #[.int .u8 tk, .int .i64 tn, .string ts, .slice B tl tc] 24)).alloc (.cells #[.string ts, .int .u8 kd, .int .i64 0] 56)).drew).grownBy W' none →
      W'.ownsRow ((w.alloc (.cells #[.int .u8 tk, .int .i64 tn, .string ts, .slice B tl tc] 24)).alloc (.cells #[.string ts, .int .u8 kd, .int .i64 0] 56)).drew.heap.size 56 3 v' (vs.length + 1) (news ++ [.string ts, .int .u8 kd, .int .i64 0]) → V = vs ++ [⟨ts, kd, 0⟩] → ShRow w S V (.returned v') W' := by
    intro kd hkd W' v' hg ho hVV
    subst hVV
    obtain ⟨A', c', rfl, hcc, hrr⟩ := ownsRow_rowV (w := w) (u := ⟨ts, kd, 0⟩) HNV.out hnl HFV.out ⟨HFT.out.2.2, (show (0 : Int) ≤ kd ∧ kd < 256 by rcases hkd with rfl | rfl <;> decide), (by decide : (-9223372036854775808 : Int) ≤ 0 ∧ (0 : Int) ≤ 9223372036854775807)⟩ ho
    refine ⟨A', c', rfl, hrr.mono fun b hb => .inr ?_, hcc, ?_⟩
    · simp at hb; omega
    · exact ((((Below.refl w.heap.size w).alloc (Nat.le_refl _) _).alloc (by simp) _).drew).grown hg (by simp; omega) (fun g e => by cases e)
  have HKEY := Lib.hid key
  have hnc' : ∀ o o' b, A = some b → ∀ (j : Nat) u, news[j]? = some u → ((w.alloc o).alloc o').drew.cell? (b.add j) = some u := fun o o' b hb j u hj => cell_al (cell_al (hnc b hb j u hj) o) o'
  have hnw : ∀ (kd : Int) (j : Nat) (u : Value), [Value.string ts, .int .u8 kd, .int .i64 0][j]? = some u → ((w.alloc (.cells #[.int .u8 tk, .int .i64 tn, .string ts, .slice B tl tc] 24)).alloc (.cells #[.string ts, .int .u8 kd, .int .i64 0] 56)).drew.cell? ((⟨w.heap.size + 1, 0, none⟩ : Addr).add j) = some u := fun kd j u h => by
    have := news_newN (w.alloc (.cells #[.int .u8 tk, .int .i64 tn, .string ts, .slice B tl tc] 24)) 56 [Value.string ts, .int .u8 kd, .int .i64 0] j u h
    simpa using this
  have HNC := Lib.hid hnc'
  have HNW := Lib.hid hnw
  clear key hnc hnc' hnw
  by_cases h54 : tk = 54 ∧ i = 1
  · obtain ⟨rfl, rfl⟩ := h54
    have HVV := Lib.hid (show V = vs ++ [⟨ts, 1, 0⟩] by rw [← HV.out]; simp [innerV])
    go_enter Try.func73, Try.ntmps73
    go_wp2_with fail
    go_region_held3 (fun w' => w'.cell? ⟨w.heap.size, 2, none⟩ = some (.string ts))
      (first | exact hk5 | (simp; done))
      (first
        | (refine step_append_grows (by rfl) (.tmp 16) (.tmp 20) 35 (by rfl) 56 i0 _ 3 32 Try.underlying35 hi0 hz0 hz1 hz2 rfl (by decide) A vs.length vs.length news (by rfl) hn1 hnl (HNC.out _ _) ⟨w.heap.size + 1, 0, none⟩ 1 1 [.string ts, .int .u8 1, .int .i64 0] (by rfl) rfl (HNW.out 1) (by intro u hu; simp at hu; rcases hu with rfl | rfl | rfl <;> rfl) (by omega) hm1 hm2 ?_; intro v' w' h2 h3; have HF := Lib.hid (HKEY.out 1 (.inl rfl) w' v' h3 h2 HVV.out); have hk5 : w'.cell? ⟨w.heap.size, 2, none⟩ = some (.string ts) := (World.cell?_of_block (a := ⟨w.heap.size, 2, none⟩) (h3.block _ (by simp; omega) (by simp))).trans (by simp); clear h2 h3)
        | (go_at_call 84; refine (ClipV_any A vs.length c HLC.out hlv _).mono ?_; rintro e wq ⟨rfl, rfl⟩)
        | fail)
    all_goals
      clear hk5
      go_wp2_with fail
      go_ret
      exact HF.out
  by_cases h55 : tk = 55 ∧ i = 0
  · obtain ⟨rfl, rfl⟩ := h55
    have HVV := Lib.hid (show V = vs ++ [⟨ts, 3, 0⟩] by rw [← HV.out]; simp [innerV])
    go_enter Try.func73, Try.ntmps73
    go_wp2_with fail
    go_region_held3 (fun w' => w'.cell? ⟨w.heap.size, 2, none⟩ = some (.string ts))
      (first | exact hk5 | (simp; done))
      (first
        | (refine step_append_grows (by rfl) (.tmp 31) (.tmp 35) 35 (by rfl) 56 i0 _ 3 32 Try.underlying35 hi0 hz0 hz1 hz2 rfl (by decide) A vs.length vs.length news (by rfl) hn1 hnl (HNC.out _ _) ⟨w.heap.size + 1, 0, none⟩ 1 1 [.string ts, .int .u8 3, .int .i64 0] (by rfl) rfl (HNW.out 3) (by intro u hu; simp at hu; rcases hu with rfl | rfl | rfl <;> rfl) (by omega) hm1 hm2 ?_; intro v' w' h2 h3; have HF := Lib.hid (HKEY.out 3 (.inr rfl) w' v' h3 h2 HVV.out); have hk5 : w'.cell? ⟨w.heap.size, 2, none⟩ = some (.string ts) := (World.cell?_of_block (a := ⟨w.heap.size, 2, none⟩) (h3.block _ (by simp; omega) (by simp))).trans (by simp); clear h2 h3)
        | (go_at_call 84; refine (ClipV_any A vs.length c HLC.out hlv _).mono ?_; rintro e wq ⟨rfl, rfl⟩)
        | fail)
    all_goals
      clear hk5
      go_wp2_with fail
      go_ret
      exact HF.out
  have HVV := Lib.hid (show V = vs by rw [← HV.out]; unfold innerV; rw [if_neg h54, if_neg h55])
  have HF := Lib.hid (show ∀ o, ShRow w S V (.returned (.slice A vs.length c)) (w.alloc o) from fun o => by
    rw [HVV.out]
    exact ⟨A, c, rfl, (HROW.out.later ((Below.refl _ _).alloc (Nat.le_refl _) _)).mono fun b hb => .inl hb, HLC.out, (Below.refl _ _).alloc (Nat.le_refl _) _⟩)
  by_cases k54 : tk = 54
  · subst k54
    have hne : ¬ i = 1 := fun e => h54 ⟨rfl, e⟩
    have e1 : (i == 1) = false := by simpa using hne
    have e2 : ((i : Int) == 1) = false := by simp; omega
    clear h54 h55 hne
    go_enter Try.func73, Try.ntmps73
    go_wp2_with fail
    go_ret
    exact HF.out _
  have f54 : (tk == 54) = false := by simpa using k54
  by_cases k55 : tk = 55
  · subst k55
    have hne : ¬ i = 0 := fun e => h55 ⟨rfl, e⟩
    have e1 : (i == 0) = false := by simpa using hne
    have e2 : ((i : Int) == 0) = false := by simp; omega
    clear h54 h55 hne
    go_enter Try.func73, Try.ntmps73
    go_wp2_with fail
    go_ret
    exact HF.out _
  have f55 : (tk == 55) = false := by simpa using k55
  clear h54 h55 k54 k55
  go_enter Try.func73, Try.ntmps73
  go_wp2_with fail
  go_ret
  exact HF.out _

end Go.Proofs.Ytldcjboignbfpaa
