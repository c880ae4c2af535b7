/-
  checker: the contract of reject; what it asks of a node holds for every node of a valid body.
-/
import Derived.Test.YtldcjboignbfpaaCm
import Derived.Test.YtldcjboignbfpaaScR
namespace Go.Proofs.Ytldcjboignbfpaa
open Go Go.RowKit

theorem rejE_nd (k n : Int) (s : ByteArray) (ks : List T) : rejE (.nd k n s ks) = (if k = 56 then 9
  else if k = 40 ∨ k = 41 ∨ k = 42 then if idxB (kid (.nd k n s ks) 0) (kid (.nd k n s ks) 0).s || menB (kid (.nd k n s ks) 1) (kid (.nd k n s ks) 0).s then 8 else 0
  else if k = 43 then if aliB ks [(kid (.nd k n s ks) 0).s, (kid (.nd k n s ks) 1).s] then 8 else 0
  else if k = 44 ∨ k = 45 then if aliB ks [(kid (.nd k n s ks) 0).s, s] then 8 else 0
  else if 46 ≤ k ∧ k ≤ 49 then if aliB ks [(kid (.nd k n s ks) 0).s] then 8 else 0
  else if k = 50 ∨ k = 51 then if dupB ks then 8 else 0
  else if k = 52 then if conB (kid (.nd k n s ks) 3) && !conB (kid (.nd k n s ks) 0) then 10 else 0
  else if k = 53 then if conB (kid (.nd k n s ks) 0) then 10 else 0
  else 0) := rfl
theorem reject_any (t : T) (v : Value) (w : World) (hv : NV w Any t v) (h : RejOK t) : Calls Try.prog 81 #[v] w (NmE w (rejE t)) := by
  obtain ⟨A, c, rfl, hf, hlk, hlc, hrow⟩ := hv.open_
  have hd : ∀ x ∈ t.ks, dep x ≤ 1000 := fun x hx => by
    have h1 := dep_le hx
    have h2 := h.d
    cases t with
    | nd k n s ks => simp only [dep, T.ks_nd] at *; omega
  obtain ⟨hdd, h2, h1, h4, hp⟩ := h
  obtain ⟨k, n, s, ks⟩ := t
  simp only [T.k_nd, T.n_nd, T.s_nd, T.ks_nd] at *
  rw [rejE_nd]
  by_cases e1 : k = 56
  · subst e1
    rw [if_pos rfl]
    exact reject_set n s ks A c w hrow (h2 (by omega))
  rw [if_neg e1]
  by_cases e2 : k = 40 ∨ k = 41 ∨ k = 42
  · rw [if_pos e2]
    have hl := h2 (by omega)
    rw [kid_eq (t := .nd k n s ks) (i := 0) (by simp; omega), kid_eq (t := .nd k n s ks) (i := 1) (by simp; omega)]
    exact reject_upd k n s ks A c w e2 hrow hl hd (hp (by omega))
  rw [if_neg e2]
  by_cases e3 : k = 43
  · subst e3
    rw [if_pos rfl]
    have hl := h2 (by omega)
    rw [kid_eq (t := .nd 43 n s ks) (i := 0) (by simp; omega), kid_eq (t := .nd 43 n s ks) (i := 1) (by simp; omega)]
    exact reject_swap n s ks A c w hrow hl hlk hd (hp (by omega))
  rw [if_neg e3]
  by_cases e4 : k = 44 ∨ k = 45
  · rw [if_pos e4]
    have hl := h1 (by omega)
    rw [kid_eq (t := .nd k n s ks) (i := 0) (by simp; omega)]
    exact reject_pp k n s ks A c w e4 hrow hl hlk hd (hp (by omega))
  rw [if_neg e4]
  by_cases e5 : 46 ≤ k ∧ k ≤ 49
  · rw [if_pos e5]
    have hl := h1 (by omega)
    rw [kid_eq (t := .nd k n s ks) (i := 0) (by simp; omega)]
    exact reject_tr k n s ks A c w (by omega) hrow hl hlk hd (hp (by omega))
  rw [if_neg e5]
  by_cases e6 : k = 50 ∨ k = 51
  · rw [if_pos e6]
    exact reject_call k n s ks A c w e6 hrow hlk hlc
  rw [if_neg e6]
  by_cases e7 : k = 52
  · subst e7
    rw [if_pos rfl]
    have hl := h4 (by omega)
    rw [kid_eq (t := .nd 52 n s ks) (i := 0) (by simp; omega), kid_eq (t := .nd 52 n s ks) (i := 3) (by simp; omega)]
    exact reject_if n s ks A c w hrow hl
  rw [if_neg e7]
  by_cases e8 : k = 53
  · subst e8
    rw [if_pos rfl]
    have hl := h4 (by omega)
    rw [kid_eq (t := .nd 53 n s ks) (i := 0) (by simp; omega)]
    exact reject_from n s ks A c w hrow hl
  rw [if_neg e8]
  exact reject_none k n s A ks.length c w (by omega) e1

/-- A node of a valid tree. -/
def Node3 (t : T) : Prop := isE t = true ∨ isS t = true ∨ isB t = true
theorem isP_shape {t : T} (h : isP t = true) : t.k = 3 → 1 ≤ t.ks.length := by
  intro h3
  have hE := isP_E h
  obtain ⟨k, n, s, ks⟩ := t
  simp only [T.k_nd, T.ks_nd] at *
  subst h3
  rw [isE] at hE
  simp at hE
  omega
theorem isS_shape {k n : Int} {s : ByteArray} {ks : List T} (h : isS (.nd k n s ks) = true) :
    (k = 40 ∨ k = 41 ∨ k = 42 ∨ k = 43 ∨ k = 56 → 2 ≤ ks.length) ∧ (44 ≤ k ∧ k ≤ 49 → 1 ≤ ks.length) ∧ (k = 52 ∨ k = 53 → 4 ≤ ks.length) ∧ 40 ≤ k ∧ k ≤ 56 := by
  rw [isS] at h
  repeat' split at h
  all_goals first
    | cases h
    | (simp only [kidsB, Bool.and_eq_true, decide_eq_true_eq] at h; omega)
theorem node3_kids {k n : Int} {s : ByteArray} {ks : List T} (h : Node3 (.nd k n s ks)) : ∀ t ∈ ks, Node3 t := by
  intro t ht
  rcases h with h | h | h
  · exact .inl (isE_kids h t ht)
  · rcases (isS_EB h).2 t ht with h | h
    · exact .inl h
    · exact .inr (.inr h)
  · exact .inr (.inl (((isB_iff _ _ _ _).1 h).2.2 t ht))
theorem node3_po (t : T) : Node3 t → ∀ x ∈ po t, Node3 x ∧ dep x ≤ dep t := by
  induction t using T.ind with
  | _ k n s ks ih =>
    intro h x hx
    rw [po, List.mem_cons] at hx
    rcases hx with rfl | hx
    · exact ⟨h, Nat.le_refl _⟩
    · obtain ⟨t, ht, hx⟩ := mem_pos.1 hx
      obtain ⟨h1, h2⟩ := ih t ht (node3_kids h t ht) x hx
      have := dep_le ht
      exact ⟨h1, by simp only [dep]; omega⟩
theorem isE_item {t : T} (h : isE t = true) : t.k = 3 → 1 ≤ t.ks.length := fun h3 => isP_shape (t := t) (by simp [isP, h3, h]) h3
theorem rejOK_of {t : T} (h : Node3 t) (hd : dep t ≤ 1000) : RejOK t := by
  obtain ⟨k, n, s, ks⟩ := t
  have hpl : ∀ x ∈ ks, 40 ≤ k ∧ k ≤ 49 → x.k = 3 → 1 ≤ x.ks.length := fun x hx hk h3 => by
    rcases node3_kids h x hx with h' | h' | h'
    · exact isE_item h' h3
    · obtain ⟨k', n', s', ks'⟩ := x
      have := (isS_shape h').2.2.2
      simp only [T.k_nd] at h3
      omega
    · have := isB_k h'
      omega
  rcases h with h' | h' | h'
  · have := isE_shape h'
    exact ⟨hd, fun h => by simp at h; omega, fun h => by simp at h; omega, fun h => by simp at h; omega, fun h x hx => hpl x hx h⟩
  · have := isS_shape h'
    exact ⟨hd, this.1, this.2.1, this.2.2.1, fun h x hx => hpl x hx h⟩
  · have := isB_k h'
    simp only [T.k_nd] at this
    exact ⟨hd, fun h => by simp at h; omega, fun h => by simp at h; omega, fun h => by simp at h; omega, fun h x hx => hpl x hx h⟩
theorem rejOK_po {t : T} (h : Node3 t) (hd : dep t ≤ 1000) : ∀ x ∈ po t, RejOK x := fun x hx =>
  have ⟨h1, h2⟩ := node3_po t h x hx
  rejOK_of h1 (by omega)

end Go.Proofs.Ytldcjboignbfpaa

/-
  checker: the contract of check.
-/
namespace Go.Proofs.Ytldcjboignbfpaa
open Go Go.RowKit
attribute [local go_sem] Oper.semAt_some

/-- 'row = append(row, ..)' on a row of one's own, in a round. -/
theorem wpListIn_append_own_at {F : Fence} {n : Nat} {P : Program} (w : World) {ops : Array Oper} {rest : List Oper} {o : Oper} {a : Act} {Q : Exit → Act → World → Prop}
    (hg : o.guard = none) (s x : Operand) (t : TypeId) (hop : o.op = Op.call { callee := Callee.builtin Builtin.append, args := #[s, x], argTypes := #[t, t] })
    (base : Nat) (e : TypeId) (i : TypeInfo) (z : Value) (size bytes : Nat) (h1 : P.underlying t = some (.slice e)) (h2 : P.info? e = some i) (h3 : i.zero = some z) (h4 : i.size = size) (h5 : i.bytes = bytes) (h6 : z.cells.size = size) (h7 : 0 < size)
    (v : Value) (k : Nat) (xs : List Value) (hs : a.eval s = v) (hown : w.ownsRow base e size v k xs) (ad : Addr) (m c : Nat) (news : List Value) (hx : a.eval x = .slice (some ad) m c) (hn : news.length = m * size)
    (hc : ∀ j u, news[j]? = some u → w.cell? (ad.add j) = some u) (h1c : ∀ u ∈ news, u.oneCell' = true) (b1 : k + m ≤ maxLen) (b2 : (k + m) * bytes ≤ 140737488355328) (b3 : base ≤ w.heap.size)
    (hK : ∀ v' w', w'.ownsRow base e size v' (k + m) (xs ++ news) → w.grownBy w' v.ownBlock → (v'.ownBlock = v.ownBlock ∨ v'.ownBlock = some w.heap.size) → wpListIn F n P ops Q rest (a.put o.dst v') w') :
    wpListIn F n P ops Q (o :: rest) a w := by
  refine wpListIn_plain hg fun K hK' => ?_
  obtain ⟨v', w', hrun, r1, r2, _, r4⟩ := run_append_own_at (P := P) w base t o.type e i z size bytes h1 h2 h3 h4 h5 h6 h7 v k xs hown ad m c news hn hc h1c b1 b2 b3
  unfold Oper.wpIn
  refine ⟨?_, ?_⟩
  · simp [Oper.about, hop, resolve, Target.leads, Sem.run_pure]
  · rw [Oper.semAt_plain F _ _ (by rw [hop]; intro c hc'; cases hc')]
    simp [execOp, hop, resolve, invoke, builtin, hs, hx, hrun, Result.andThen]
    exact hK' _ _ (hK v' w' r1 r2 r4)

theorem rejInfo : (Try.prog.info? 96).map (fun i => (i.zero, i.size, i.bytes)) = some (some (.agg #[.int .i64 0, .slice none 0 0, .int .i64 0, .string ⟨#[]⟩]), 4, 56) := by kernel_rfl
theorem buildRj (p : Int) (A : Option Addr) (l c : Nat) (e : Int) (s : ByteArray) (w : World) : (Instr.build 96 #[(0, .int .i64 p), (1, .slice A l c), (2, .int .i64 e), (3, .string s)]).run Try.prog w = .ok (.agg #[.int .i64 p, .slice A l c, .int .i64 e, .string s]) w := by kernel_rfl
theorem buildSRj (a0 a1 a2 a3 : Value) (w : World) : (Instr.buildSlice 63 1 #[(0, .agg #[a0, a1, a2, a3])]).run Try.prog w = .ok (.slice (some ⟨w.heap.size, 0, none⟩) 1 1) (w.alloc (.cells #[a0, a1, a2, a3] 96)) := by kernel_rfl

/-- How many nodes reject reports. -/
def rejN (l : List T) : Nat := (l.filter fun x => rejE x != 0).length
/-- The box of the rejections and its row; N of them. -/
structure RS (W : World) (n0 fb N : Nat) (pv : Value) : Prop where
  box : W.heap[fb]? = some (.cells #[pv] 63 (0, 0))
  row : ∃ xs, W.ownsRow n0 96 4 pv N xs ∧ ∀ u ∈ xs, u.oneCell' = true
  ge : n0 ≤ fb
  ne : pv.ownBlock ≠ some fb

section
variable {W W' : World} {n0 fb N N' : Nat} {pv pv' : Value}
theorem RS.lt (h : RS W n0 fb N pv) : fb < W.heap.size ∧ ∀ b, pv.ownBlock = some b → n0 ≤ b ∧ b < W.heap.size := ⟨blk_lt h.box, let ⟨_, hr, _⟩ := h.row; hr.lt⟩
theorem RS.chg {C : Nat → Prop} (h : RS W n0 fb N pv) (hc : Chg C W W') (hC : ∀ b, b = fb ∨ pv.ownBlock = some b → ¬ C b) : RS W' n0 fb N pv := by
  refine ⟨hc.keep h.box (hC _ (.inl rfl)), ?_, h.ge, h.ne⟩
  obtain ⟨xs, ⟨e1, h2⟩, h9⟩ := h.row
  refine ⟨xs, ⟨e1, ?_⟩, h9⟩
  rcases h2 with h2 | ⟨g, cap, cur, rfl, hb, hg, h3⟩
  · exact .inl h2
  · exact .inr ⟨g, cap, cur, rfl, hb, hc.keep hg (hC _ (.inr rfl)), h3⟩
theorem RS.later (h : RS W n0 fb N pv) (hb : Below W.heap.size W W') : RS W' n0 fb N pv := h.chg (C := fun _ => False) (Chg.of_below hb) (fun _ _ h => h)
theorem RS.put (h : RS W n0 fb N pv) (ho : ∃ xs, W'.ownsRow n0 96 4 pv' N' xs ∧ ∀ u ∈ xs, u.oneCell' = true) (hg : W.grownBy W' pv.ownBlock) (hob : ∀ b, pv'.ownBlock = some b → pv.ownBlock = some b ∨ W.heap.size ≤ b) :
    RS (W'.setCell ⟨fb, 0, none⟩ pv') n0 fb N' pv' := by
  have hp' : W'.heap[fb]? = some (.cells #[pv] 63 (0, 0)) := (hg.block _ (blk_lt h.box) (fun e => h.ne e.symm)).trans h.box
  have hnp : pv'.ownBlock ≠ some fb := fun e => by
    rcases hob _ e with e | e
    · exact h.ne e
    · have := blk_lt h.box; omega
  refine ⟨by have := heap_setCell_same W' fb 0 _ _ pv' hp'; simpa using this, ?_, h.ge, hnp⟩
  obtain ⟨xs, ⟨e1, h2⟩, h9⟩ := ho
  refine ⟨xs, ⟨e1, ?_⟩, h9⟩
  rcases h2 with h2 | ⟨g, cap, cur, rfl, hb, hg', h3⟩
  · exact .inl h2
  · refine .inr ⟨g, cap, cur, rfl, hb, ?_, h3⟩
    rw [Below.heap_setCell _ _ _ _ (fun e => hnp (by subst e; rfl))]
    exact hg'
theorem RS.slice (h : RS W n0 fb N pv) : ∃ A c, pv = .slice A N c := by
  obtain ⟨xs, ⟨e1, h2⟩, _⟩ := h.row
  rcases h2 with ⟨rfl, rfl⟩ | ⟨g, cap, cur, rfl, _⟩
  · exact ⟨_, _, rfl⟩
  · exact ⟨_, _, rfl⟩
end
theorem rejN_snoc (l : List T) (x : T) : rejN (l ++ [x]) = rejN l + one1 (rejE x) := by
  unfold rejN one1
  rw [List.filter_append, List.length_append]
  by_cases h : rejE x = 0
  · simp [h]
  · simp [h]
theorem rejN_le (l : List T) : rejN l ≤ l.length := List.length_filter_le _ _
/-- What check holds in memory. -/
def ChkI (p : Int) (N : Nat) (pre : List T) (C : Nat → Prop) (W : World) : Prop :=
  ∃ pv, (∀ b, C b ↔ b = N ∨ b = N + 1 + 1 ∨ pv.ownBlock = some b) ∧ W.heap[N]? = some (.cells #[.int .i64 p] 3 (0, 0)) ∧ RS W (N + 1 + 1) (N + 1 + 1) (rejN pre) pv

set_option maxHeartbeats 8000000 in
set_option maxRecDepth 100000 in
theorem check_any (t : T) (p : Int) (v : Value) (w : World) (hv : NV w Any t v) (hd : dep t ≤ 1000) (hsz : (po t).length ≤ 100000) (hok : ∀ x ∈ po t, RejOK x) : Calls Try.prog 66 #[.int .i64 p, v] w fun e w' => ∃ pv xs, e = .returned pv ∧ w'.ownsRow w.heap.size 96 4 pv (rejN (po t)) xs ∧ (∀ u ∈ xs, u.oneCell' = true) ∧ Below w.heap.size w w' := by
  have HV := Lib.hid hv
  obtain ⟨A, c, rfl, -⟩ := hv.open_
  clear hv
  have HD := Lib.hid hd
  have HOK := Lib.hid hok
  have HSZ := Lib.hid hsz
  clear hok hd hsz
  generalize t.k = k, t.n = n, t.s = s, t.ks.length = m at *
  refine (callsIn_wide (n := 3)).1 (callsIn_of_wp_marks Try.func66 rfl trivial ((wpIn_wide (n := 3)).2 ?_))
  simp only [Try.ntmps66, List.size_toArray, List.length_cons, List.length_nil, Nat.reduceAdd, Nat.reduceSub, Array.replicate_succ, Array.replicate_zero, List.push_toArray, List.append_toArray, List.nil_append, List.cons_append]
  go_wp2_with fail
  refine (Walk_any t _ _ (HV.out.later (bl_al (bl_al (bl_al (Below.refl _ _) _) _) _))).mono ?_
  rintro e x6 ⟨gr, k6, n6, s6, A6, m6, c6, rfl, hgr, hgb, hn6, bx6⟩
  have q6 := bl_tt (bl_al (bl_al (bl_al (Below.refl w.heap.size w) _) _) _) bx6
  have hPB := blk_bl (blk_al (blk_al (heap_alloc_new w (.cells #[.int .i64 p] 3)) (.cells #[.int .u8 k, .int .i64 n, .string s, .slice A m c] 24)) (.cells #[.slice none 0 0] 63)) bx6
  have hLB := blk_bl (heap_alloc_new ((w.alloc (.cells #[.int .i64 p] 3)).alloc (.cells #[.int .u8 k, .int .i64 n, .string s, .slice A m c] 24)) (.cells #[.slice none 0 0] 63)) bx6
  simp only [World.size_alloc] at hPB hLB hgr
  have HGB := Lib.hid hgb
  have HN6 := Lib.hid hn6
  have HQ6 := Lib.hid q6
  have HPB := Lib.hid hPB
  have HLB := Lib.hid hLB
  have HGR := Lib.hid hgr
  clear bx6 hgb hn6 q6 hPB hLB hgr
  go_wp2_with fail
  refine (wpIn_wide (n := 3)).1 ?_
  refine range_walk (n := 3) (gf := 47) (lb := #[.pointer (some ⟨gr, 0, none⟩)]) rfl (run_callFunc fnWalk1) (Walk1_stops (3 - 1) gr t x6 _ k6 n6 s6 A6 m6 c6 HGB.out HN6.out HD.out) rfl
    (ChkI p w.heap.size) (fun _ _ _ => False) (fun b => b = w.heap.size ∨ b = w.heap.size + 1 + 1)
    (fun pre C W W' ⟨pv, h1, h2, h3⟩ hc => ⟨pv, h1, hc.keep h2 (fun h => h ((h1 _).2 (.inl rfl))), h3.chg hc (fun b hb h => h ((h1 _).2 (.inr hb)))⟩)
    (fun _ _ _ _ h _ => h)
    (fun pre C W ⟨pv, h1, h2, h3⟩ b hb => by rcases (h1 b).1 hb with rfl | rfl | h; exact blk_lt h2; exact h3.lt.1; exact (h3.lt.2 b h).2)
    (fun _ _ _ h => h.elim)
    (fun b hb hr => by have := HGR.out; rcases hr with hr | hr <;> rcases hb with hb | hb <;> first | omega | (have := hr.1; simp at this; omega)) ?_
    ⟨.slice none 0 0, fun b => by simp [Value.ownBlock], HPB.out, ⟨HLB.out, ⟨[], World.ownsRow_nil _ _ _ _, by simp⟩, Nat.le_refl _, by simp [Value.ownBlock]⟩⟩ ?_ ?_ ?_
  · rintro b (rfl | hb)
    · exact blk_lt HGB.out
    · exact hb.2
  · rintro l pre x C W pv' v ⟨pv, hC, hpb, hrs⟩ hCl hl hlW hpre ⟨Ap, mp, cp, rfl⟩ hnx
    have hxm : x ∈ po t := by
      obtain ⟨ys, hys⟩ := hpre
      rw [← hys]; simp
    have HRJ := Lib.hid (HOK.out x hxm)
    have HNL := Lib.hid (show rejN pre ≤ 100000 from by
      have h1 := rejN_le pre
      have h2 := HSZ.out
      have h3 := hpre.length_le
      simp at h3
      omega)
    have HNX := Lib.hid hnx
    obtain ⟨Ax, cx, rfl, -⟩ := hnx.open_
    change Code.wpIn (Fence.wide.inRound l) (3 - 1 - 1) Try.prog _ _ _ _
    gi_wp2
    refine ⟨(Chg.refl _ _).alloc _, fun W2 hW2 => ?_⟩
    have hwl := blk_lt hpb
    have hbx := hW2.keep (heap_alloc_new W (.cells #[.int .u8 x.k, .int .i64 x.n, .string x.s, .slice Ax x.ks.length cx] 24)) (show ¬ W.heap.size = l by omega)
    have hpb2 := hW2.keep (blk_al hpb (.cells #[.int .u8 x.k, .int .i64 x.n, .string x.s, .slice Ax x.ks.length cx] 24)) (fun h => hCl ((hC _).2 (.inl h.symm)))
    have hrs2 := (hrs.later (bl_al (Below.refl _ _) (.cells #[.int .u8 x.k, .int .i64 x.n, .string x.s, .slice Ax x.ks.length cx] 24))).chg hW2 (fun b hb h => hCl ((hC _).2 (.inr (by rcases hb with rfl | hb; exact .inl h.symm; exact .inr (h ▸ hb)))))
    have hnx2 : NV W2 Any x (nv x.k x.n x.s Ax x.ks.length cx) := HNX.out.keep (fun _ _ _ => trivial) fun b hb hlt => by
      rw [hW2.block b (by simp; omega) (show ¬ b = l by omega)]
      exact Below.heap_alloc W _ b hlt
    obtain ⟨m0, m1, m2, m3⟩ := box4 hbx
    have HCC := Lib.hid hC
    have HPB2 := Lib.hid hpb2
    have HRS2 := Lib.hid hrs2
    have HNX2 := Lib.hid hnx2
    have HLW := Lib.hid hlW
    clear hW2 hbx hpre hC hpb2 hrs hrs2 hnx hnx2 hxm hpb
    change Code.wpIn (Fence.wide.inRound l) (3 - 1 - 1) Try.prog _ _ _ _
    obtain ⟨er, her⟩ : ∃ er, rejE x = er := ⟨_, rfl⟩
    have HRJC := Lib.hid (her ▸ reject_any x _ _ HNX2.out HRJ.out)
    have HER := Lib.hid her
    clear her
    gi_wp2
    refine ⟨trivial, CallsIn.inRound l (callsIn_wide.2 ?_)⟩
    refine HRJC.out.mono ?_
    rintro e w3 ⟨s3, rfl, bw3⟩
    have HPB3 := Lib.hid (blk_bl HPB2.out bw3)
    have hrs3 := HRS2.out.later bw3
    have HB3 := Lib.hid bw3
    clear bw3 m0 m1 m2 m3
    by_cases he0 : er = 0
    · subst he0
      have HRS3 := Lib.hid hrs3
      clear hrs3
      gi_wp2
      refine ⟨C, ⟨pv, HCC.out, HPB3.out, ?_⟩, fun b hb => .inl hb, Chg.of_below HB3.out⟩
      rw [rejN_snoc, HER.out]
      exact HRS3.out
    · have e1 : (er == 0) = false := by simpa using he0
      have e2 : (er != 0) = true := by simpa using he0
      obtain ⟨Apv, cpv, rfl⟩ := hrs3.slice
      have y0 : w3.cell? ⟨w.heap.size, 0, none⟩ = some (.int .i64 p) := cell_of_blk HPB3.out rfl
      have y1 : w3.cell? ⟨w.heap.size + 1 + 1, 0, none⟩ = some (.slice Apv (rejN pre) cpv) := cell_of_blk hrs3.box rfl
      obtain ⟨xs, hown, h1c⟩ := hrs3.row
      have hl3 := hrs3.lt
      have hge := hrs3.ge
      have HRS3 := Lib.hid hrs3
      have hown' := hown.alloc (.cells #[.int .i64 p, .slice Ap mp cp, .int .i64 er, .string s3] 96)
      have hnl := HNL.out
      have HN1 := Lib.hid (news_newN w3 96 [.int .i64 p, .slice Ap mp cp, .int .i64 er, .string s3])
      have hbb := buildRj
      have hbs := buildSRj
      obtain ⟨i0, hi0, hz0, hz1, hz2⟩ := info_parts rejInfo
      clear hrs3 hown
      gi_wp2_with (gi_at_builtin; refine wpListIn_append_own_at (P := Try.prog) _ rfl (.tmp 21) (.tmp 27) 63 rfl (w.heap.size + 1 + 1) 96 i0 _ 4 56 Try.underlying63 hi0 hz0 hz1 hz2 rfl (by decide) (.slice Apv (rejN pre) cpv) (rejN pre) xs rfl hown' ⟨w3.heap.size, 0, none⟩ 1 1 [.int .i64 p, .slice Ap mp cp, .int .i64 er, .string s3] rfl rfl HN1.out (by intro u hu; simp at hu; rcases hu with rfl | rfl | rfl | rfl <;> rfl) (by unfold maxLen; omega) (by omega) (by simp; omega) ?_; intro v' w' h2 h3 h5; have hbx := (h3.block _ (by simp; omega) (fun e => HRS3.out.ne e.symm)).trans (blk_al HRS3.out.box _); have z0 : w'.cell? ⟨w.heap.size + 1 + 1, 0, none⟩ = some (.slice Apv (rejN pre) cpv) := cell_of_blk hbx rfl; have z1 : w'.frozen? ⟨w.heap.size + 1 + 1, 0, none⟩ = false := frozen_of_blk hbx; clear hbx; obtain ⟨g8, cap8, rfl⟩ := ownsRow_succ h2)
      have hob : ∀ b, (Value.slice (some ⟨g8, 0, none⟩) (rejN pre + 1) cap8).ownBlock = some b → (Value.slice Apv (rejN pre) cpv).ownBlock = some b ∨ w3.heap.size ≤ b := fun b hb => by
        rcases h5 with h5 | h5
        · exact .inl (h5 ▸ hb)
        · exact .inr (by rw [h5] at hb; injection hb with hb; simp at hb; omega)
      have hput := HRS3.out.put (W' := w') (pv' := .slice (some ⟨g8, 0, none⟩) (rejN pre + 1) cap8) (N' := rejN pre + 1) ⟨_, h2, fun u hu => by
          rw [List.mem_append] at hu
          rcases hu with hu | hu
          · exact h1c u hu
          · simp at hu; rcases hu with rfl | rfl | rfl | rfl <;> rfl⟩ ⟨h3.os, h3.tape, h3.output, Nat.le_trans (by simp) h3.size, fun b hb hne => (h3.block b (by simp; omega) hne).trans (Below.heap_alloc w3 _ b hb)⟩ hob
      have hch : Chg C W2 (w'.setCell ⟨w.heap.size + 1 + 1, 0, none⟩ (.slice (some ⟨g8, 0, none⟩) (rejN pre + 1) cap8)) :=
        (((Chg.of_below HB3.out).alloc _).trans2 (Chg.row h3) (fun b _ h => (HCC.out b).2 (.inr (.inr h)))).setCell (.inl ((HCC.out _).2 (.inr (.inl rfl)))) _
      have hpb4 : (w'.setCell ⟨w.heap.size + 1 + 1, 0, none⟩ (.slice (some ⟨g8, 0, none⟩) (rejN pre + 1) cap8)).heap[w.heap.size]? = some (.cells #[.int .i64 p] 3 (0, 0)) := by
        rw [Below.heap_setCell _ _ _ _ (by simp; omega), h3.block _ (by simp; omega) (fun e => by have := (hl3.2 _ e.symm).1; omega)]
        exact blk_al HPB3.out _
      refine ⟨fun b => b = w.heap.size ∨ b = w.heap.size + 1 + 1 ∨ (Value.slice (some ⟨g8, 0, none⟩) (rejN pre + 1) cap8).ownBlock = some b, ⟨_, fun _ => Iff.rfl, hpb4, ?_⟩, fun b hb => ?_, hch⟩
      · rw [rejN_snoc, HER.out, one1, if_neg he0]
        exact hput
      · rcases hb with hb | hb | hb
        · exact .inl ((HCC.out _).2 (.inl hb))
        · exact .inl ((HCC.out _).2 (.inr (.inl hb)))
        · rcases hob b hb with h | h
          · exact .inl ((HCC.out _).2 (.inr (.inr h)))
          · exact .inr (Nat.le_trans HB3.out.size h)
  · intro D C W' hD hC hch hK
    obtain ⟨pv, hC1, hpb7, hr7⟩ := hC
    obtain ⟨Apv, cpv, rfl⟩ := hr7.slice
    have r0 : W'.cell? ⟨w.heap.size + 1 + 1, 0, none⟩ = some (.slice Apv (rejN (po t)) cpv) := cell_of_blk hr7.box rfl
    have hq6 := HQ6.out.size
    have hlR := blk_lt HLB.out
    have HB7 := Lib.hid (show Below w.heap.size w W' from HQ6.out.trans (hch.below hq6 (fun b h => by omega)))
    have HK := Lib.hid hK
    have HR7 := Lib.hid hr7
    clear hch hK hr7 hC1 hpb7
    go_wp2_with fail
    refine ⟨by simp, .inl ⟨_, _, rfl, run_takeDeferred HK.out, ?_⟩⟩
    have hb9 := HB7.out.trans ((Chg.putObj W' D (.deferred none)).below (B := w.heap.size) HB7.out.size (fun b hb => by have : b = D := hb; omega))
    obtain ⟨xs, ⟨e1, h2⟩, h9⟩ := HR7.out.row
    refine ⟨.slice Apv (rejN (po t)) cpv, by simp [results, Try.results66, go_sem], _, xs, rfl, ⟨e1, ?_⟩, h9, hb9⟩
    rcases h2 with h2 | ⟨g, cap, cur, h8, hb, hg, h3⟩
    · exact .inl h2
    · refine .inr ⟨g, cap, cur, h8, by omega, (World.putObj_heap_other (fun e => ?_)).trans hg, h3⟩
      subst e
      rw [HK.out] at hg
      cases hg
  · intro D pre C W' hD hC
    exact hC.elim

end Go.Proofs.Ytldcjboignbfpaa
