/-
  The contract of ast.Walk and of its closures: the nodes of a tree, one by one, in pre-order.
-/
import Derived.Test.YtldcjboignbfpaaRf
import Derived.Test.YtldcjboignbfpaaRowI
import Derived.Test.YtldcjboignbfpaaBld
import Derived.Test.YtldcjboignbfpaaPi
import Derived.Deep.DeepCutAuto
import Derived.Test.YtldcjboignbfpaaClone
import Derived.Laws.EntriesVeiled
namespace Go.Proofs.Ytldcjboignbfpaa
open Go Go.RowKit

mutual
/-- The nodes of a tree, in pre-order. -/
def po : T → List T
  | .nd k n s ks => .nd k n s ks :: pos ks
def pos : List T → List T
  | [] => []
  | t :: ts => po t ++ pos ts
end
theorem pos_append : ∀ a b : List T, pos (a ++ b) = pos a ++ pos b
  | [], b => by simp [pos]
  | t :: ts, b => by simp [pos, pos_append ts b]
theorem pos_take {ks : List T} {j : Nat} (h : j < ks.length) : pos (ks.take (j + 1)) = pos (ks.take j) ++ po ks[j] := by
  rw [List.take_succ_eq_append_getElem h, pos_append]; simp [pos]
theorem pos_pre {ks : List T} {j : Nat} (h : j < ks.length) : pos (ks.take j) ++ po ks[j] <+: pos ks := by
  have e : pos ks = pos (ks.take (j + 1)) ++ pos (ks.drop (j + 1)) := by rw [← pos_append, List.take_append_drop]
  rw [e, pos_take h]
  exact ⟨_, rfl⟩

mutual
/-- The depth of a tree. -/
def dep : T → Nat
  | .nd _ _ _ ks => 1 + deps ks
def deps : List T → Nat
  | [] => 0
  | t :: ts => max (dep t) (deps ts)
end
theorem dep_le {t : T} : ∀ {ks : List T}, t ∈ ks → dep t ≤ deps ks
  | u :: us, h => by
    simp only [List.mem_cons] at h
    rcases h with rfl | h
    · simp only [deps]; omega
    · have := dep_le h; simp only [deps]; omega

/-- What the iterator holds in memory: the box of yield, the box of the path (a row of its own), the box of the closure. -/
structure It (C : Nat → Prop) (W : World) (n0 l yb pb vb : Nat) (pv : Value) (q : List Int) : Prop where
  y : W.heap[yb]? = some (.cells #[.func (.yield l) #[] #[]] 61 (0, 0))
  v : W.heap[vb]? = some (.cells #[.func (.func 48) #[] #[.pointer (some ⟨yb, 0, none⟩), .pointer (some ⟨pb, 0, none⟩), .pointer (some ⟨vb, 0, none⟩)]] 27 (0, 0))
  p : W.heap[pb]? = some (.cells #[pv] 47 (0, 0))
  row : W.ownsRow n0 3 1 pv q.length (q.map fun x => Value.int .i64 x)
  fits : ∀ x ∈ q, I64 x
  gy : n0 ≤ yb
  gp : n0 ≤ pb
  gv : n0 ≤ vb
  nyp : yb ≠ pb
  nvp : vb ≠ pb
  ry : pv.ownBlock ≠ some yb
  rp : pv.ownBlock ≠ some pb
  rv : pv.ownBlock ≠ some vb
  cy : ¬ C yb
  cp : ¬ C pb
  cv : ¬ C vb
  cr : ∀ b, pv.ownBlock = some b → ¬ C b

section
variable {C C' D : Nat → Prop} {W W' : World} {n0 l yb pb vb : Nat} {pv pv' : Value} {q q' : List Int}
theorem It.lt (h : It C W n0 l yb pb vb pv q) : yb < W.heap.size ∧ pb < W.heap.size ∧ vb < W.heap.size ∧ ∀ b, pv.ownBlock = some b → n0 ≤ b ∧ b < W.heap.size := ⟨blk_lt h.y, blk_lt h.p, blk_lt h.v, h.row.lt⟩
/-- What turns none of its blocks. -/
theorem It.chg (h : It C W n0 l yb pb vb pv q) (hc : Chg D W W') (hD : ∀ b, b = yb ∨ b = pb ∨ b = vb ∨ pv.ownBlock = some b → ¬ D b) (hC : ∀ b, b = yb ∨ b = pb ∨ b = vb ∨ pv.ownBlock = some b → ¬ C' b) : It C' W' n0 l yb pb vb pv q :=
  { h with
    y := hc.keep h.y (hD _ (.inl rfl))
    v := hc.keep h.v (hD _ (.inr (.inr (.inl rfl))))
    p := hc.keep h.p (hD _ (.inr (.inl rfl)))
    row := by
      obtain ⟨e1, h2⟩ := h.row
      refine ⟨e1, ?_⟩
      rcases h2 with h2 | ⟨g, cap, cur, rfl, hb, hg, h3⟩
      · exact .inl h2
      · exact .inr ⟨g, cap, cur, rfl, hb, hc.keep hg (hD _ (.inr (.inr (.inr rfl)))), h3⟩
    cy := hC _ (.inl rfl)
    cp := hC _ (.inr (.inl rfl))
    cv := hC _ (.inr (.inr (.inl rfl)))
    cr := fun b hb => hC _ (.inr (.inr (.inr hb))) }
theorem It.later (h : It C W n0 l yb pb vb pv q) (hb : Below W.heap.size W W') : It C W' n0 l yb pb vb pv q :=
  h.chg (D := fun _ => False) (Chg.of_below hb) (fun _ _ h => h) (fun b hb => by
    rcases hb with rfl | rfl | rfl | hb
    · exact h.cy
    · exact h.cp
    · exact h.cv
    · exact h.cr b hb)
/-- The path has turned, and its slice is stored. -/
theorem It.put (h : It C W n0 l yb pb vb pv q) (ho : W'.ownsRow n0 3 1 pv' q'.length (q'.map fun x => Value.int .i64 x)) (hq : ∀ x ∈ q', I64 x) (hg : W.grownBy W' pv.ownBlock)
    (hob : ∀ b, pv'.ownBlock = some b → pv.ownBlock = some b ∨ W.heap.size ≤ b) (hC : ∀ b, C b → b < W.heap.size) : It C (W'.setCell ⟨pb, 0, none⟩ pv') n0 l yb pb vb pv' q' := by
  have hlt := h.lt
  have hc : Chg (fun b => b = pb ∨ pv.ownBlock = some b) W (W'.setCell ⟨pb, 0, none⟩ pv') := ((Chg.row hg).mono fun _ _ h => .inr h).setCell (.inl (.inl rfl)) _
  have hp' : W'.heap[pb]? = some (.cells #[pv] 47 (0, 0)) := (hg.block _ (blk_lt h.p) (fun e => h.rp e.symm)).trans h.p
  have hnp : pv'.ownBlock ≠ some pb := fun e => by
    rcases hob _ e with e | e
    · exact h.rp e
    · have := hlt.2.1; omega
  refine { h with
    y := hc.keep h.y (fun hh => by rcases hh with hh | hh; exact h.nyp hh; exact h.ry hh)
    v := hc.keep h.v (fun hh => by rcases hh with hh | hh; exact h.nvp hh; exact h.rv hh)
    p := by have := heap_setCell_same W' pb 0 _ _ pv' hp'; simpa using this
    row := ?_
    fits := hq
    ry := fun e => by
      rcases hob _ e with e | e
      · exact h.ry e
      · have := hlt.1; omega
    rp := hnp
    rv := fun e => by
      rcases hob _ e with e | e
      · exact h.rv e
      · have := hlt.2.2.1; omega
    cr := fun b hb hcb => by
      rcases hob _ hb with e | e
      · exact h.cr b e hcb
      · have := hC b hcb; omega }
  obtain ⟨e1, h2⟩ := ho
  refine ⟨e1, ?_⟩
  rcases h2 with h2 | ⟨g, cap, cur, rfl, hb, hg', h3⟩
  · exact .inl h2
  · refine .inr ⟨g, cap, cur, rfl, hb, ?_, h3⟩
    rw [Below.heap_setCell _ _ _ _ (fun e => hnp (by subst e; rfl))]
    exact hg'
end

/-- What a call of the closure leaves. -/
def VisP (J Jx : List T → (Nat → Prop) → World → Prop) (n0 l yb pb vb : Nat) (pre xs : List T) (C : Nat → Prop) (pv : Value) (q : List Int) (W : World) (e : Ending) (W' : World) : Prop :=
  (e = .returned (.bool true) ∧ ∃ C' pv', J (pre ++ xs) C' W' ∧ It C' W' n0 l yb pb vb pv' q ∧ (∀ b, C' b → C b ∨ W.heap.size ≤ b) ∧ (∀ b, pv'.ownBlock = some b → pv.ownBlock = some b ∨ W.heap.size ≤ b) ∧ Chg (fun b => C b ∨ b = pb ∨ pv.ownBlock = some b) W W') ∨
  (e = .returned (.bool false) ∧ ∃ pre' C', Jx pre' C' W' ∧ Chg (fun b => C b ∨ b = pb ∨ pv.ownBlock = some b) W W')

/-- Between two rounds of the closure's loop. -/
def VInv (J : List T → (Nat → Prop) → World → Prop) (n0 l yb pb vb : Nat) (pre : List T) (t : T) (done : List T) (C : Nat → Prop) (pv : Value) (q : List Int) (W0 wr : World) (C' : Nat → Prop) (pv' : Value) : Prop :=
  J (pre ++ (t :: done)) C' wr ∧ It C' wr n0 l yb pb vb pv' q ∧ (∀ b, C' b → C b ∨ W0.heap.size ≤ b) ∧ (∀ b, pv'.ownBlock = some b → pv.ownBlock = some b ∨ W0.heap.size ≤ b) ∧ Chg (fun b => C b ∨ b = pb ∨ pv.ownBlock = some b) W0 wr

theorem fnCloneN : IsFn Try.prog 21 Try.f21 := ⟨Try.func21, by kernel_rfl, by kernel_rfl⟩
theorem fnCloneI : IsFn Try.prog 49 Try.f49 := ⟨Try.func49, by kernel_rfl, by kernel_rfl⟩
def NewIV (w : World) (xs : List Int) (v : Value) (w' : World) : Prop := ∃ A' c', v = .slice A' xs.length c' ∧ RowI w' (From w.heap.size) A' xs ∧ xs.length ≤ c' ∧ Below w.heap.size w w'
theorem newIV_of {P : Program} {f : FuncId} {args : Array Value} {w : World} {xs : List Int} (h : Calls P f args w (NewI w xs)) : Calls P f args w fun e w' => ∃ v, e = .returned v ∧ NewIV w xs v w' :=
  h.mono fun _ _ ⟨A, c, he, hn⟩ => ⟨_, he, A, c, rfl, hn⟩

set_option maxHeartbeats 8000000 in
set_option maxRecDepth 100000 in
theorem visit_any (n l n0 yb pb vb : Nat) (R : Nat → Prop) (xs : List T) (J Jx : List T → (Nat → Prop) → World → Prop) (hJ : ∀ pre C W W', J pre C W → Chg (fun b => ¬ C b) W W' → J pre C W') (hJlt : ∀ pre C W, J pre C W → ∀ b, C b → b < W.heap.size)
    (hR : ∀ b, R b → b < n0) (hl0 : l < n0)
    (hY : ∀ pre x C W pv v, J pre C W → (pre ++ [x]) <+: xs → (∃ A m c, pv = .slice A m c) → NV W (fun b => l < b) x v →
      YieldAt (Fw none) (n - 1) Try.prog l #[pv, v] W fun e W' =>
        (e = .returned (.bool true) ∧ ∃ C', J (pre ++ [x]) C' W' ∧ (∀ b, C' b → C b ∨ W.heap.size ≤ b) ∧ Chg C W W') ∨
        (e = .returned (.bool false) ∧ ∃ C', Jx (pre ++ [x]) C' W' ∧ Chg C W W')) (t : T) :
    ∀ (pre : List T) (C : Nat → Prop) (W : World) (pv : Value) (q : List Int) (v : Value), J pre C W → It C W n0 l yb pb vb pv q → NV W R t v → (∀ b, C b → ¬ R b) → (pre ++ po t) <+: xs → q.length + dep t ≤ 1000 →
      Calls Try.prog 48 #[v, .pointer (some ⟨yb, 0, none⟩), .pointer (some ⟨pb, 0, none⟩), .pointer (some ⟨vb, 0, none⟩)] W (VisP J Jx n0 l yb pb vb pre (po t) C pv q W) := by
  have HJ := Lib.hid hJ
  have HJLT := Lib.hid hJlt
  have HY := Lib.hid hY
  have HRR := Lib.hid hR
  clear hJ hJlt hY hR
  obtain ⟨i0, hi0, hz0, hz1, hz2⟩ := info_parts intInfo
  induction t using T.ind with
  | _ k nn s ks ih =>
  intro pre C W pv q v hj hit hv hCR hpre hdep
  have HIH := Lib.hid ih
  have HJ0 := Lib.hid hj
  have HIT := Lib.hid hit
  have HV := Lib.hid hv
  have HCR := Lib.hid hCR
  have HPRE := Lib.hid hpre
  obtain ⟨A, c, rfl, hf, hlk, hlc, hrow⟩ := hv.open_
  simp only [T.k_nd, T.n_nd, T.s_nd, T.ks_nd] at *
  have hlk' := LK_int hlk
  have HROW := Lib.hid hrow
  have hlts := hit.lt
  obtain ⟨Ap, cp, rfl, hcp, hri⟩ := ownsRow_rowI hit.row hit.fits
  have HRI := Lib.hid hri
  have HLT := Lib.hid hlts
  have hly := hlts.1
  have hlp := hlts.2.1
  have hlv := hlts.2.2.1
  clear ih hj hit hv hCR hpre hrow hri hlts hcp hlc
  simp only [dep] at hdep
  have hql : q.length ≤ 1000 := by omega
  go_enter Try.func48, Try.ntmps48
  go_upto_region 1 with fail
  have hbW := (Below.refl W.heap.size W).alloc (Nat.le_refl _) (.cells #[.int .u8 k, .int .i64 nn, .string s, .slice A ks.length c] 24)
  obtain ⟨W0, hW0⟩ : ∃ W0, W.alloc (.cells #[.int .u8 k, .int .i64 nn, .string s, .slice A ks.length c] 24) = W0 := ⟨_, rfl⟩
  rw [hW0] at hbW ⊢
  have hnb : W0.heap[W.heap.size]? = some (.cells #[.int .u8 k, .int .i64 nn, .string s, .slice A ks.length c] 24 (0, 0)) := by rw [← hW0]; exact heap_alloc_new W _
  have HZ0 := Lib.hid (show W0.heap.size = W.heap.size + 1 by rw [← hW0]; simp)
  have HBW := Lib.hid hbW
  have HNB := Lib.hid hnb
  have HIT0 := Lib.hid (HIT.out.later hbW)
  have HS := Lib.hid (show ∀ w' : World, w'.heap[yb]? = W0.heap[yb]? → w'.heap[pb]? = W0.heap[pb]? → w'.heap[W.heap.size]? = W0.heap[W.heap.size]? → (fun w' : World => (w'.cell? ⟨yb, 0, none⟩ = some (.func (.yield l) #[] #[])) ∧ (w'.cell? ⟨pb, 0, none⟩ = some (.slice Ap q.length cp)) ∧ (w'.cell? ⟨W.heap.size, 0, none⟩ = some (.int .u8 k) ∧ w'.cell? ⟨W.heap.size, 1, none⟩ = some (.int .i64 nn) ∧ w'.cell? ⟨W.heap.size, 2, none⟩ = some (.string s) ∧ w'.cell? ⟨W.heap.size, 3, none⟩ = some (.slice A ks.length c))) w' from fun w' h1 h2 h3 => ⟨cell_of_blk (h1.trans HIT0.out.y) rfl, cell_of_blk (h2.trans HIT0.out.p) rfl, box4 (h3.trans hnb)⟩)
  have HSB := Lib.hid (show ∀ w' : World, Below W0.heap.size W0 w' → (fun w' : World => (w'.cell? ⟨yb, 0, none⟩ = some (.func (.yield l) #[] #[])) ∧ (w'.cell? ⟨pb, 0, none⟩ = some (.slice Ap q.length cp)) ∧ (w'.cell? ⟨W.heap.size, 0, none⟩ = some (.int .u8 k) ∧ w'.cell? ⟨W.heap.size, 1, none⟩ = some (.int .i64 nn) ∧ w'.cell? ⟨W.heap.size, 2, none⟩ = some (.string s) ∧ w'.cell? ⟨W.heap.size, 3, none⟩ = some (.slice A ks.length c))) w' from fun w' h => HS.out w' (h.block _ (by have := HIT0.out.lt.1; omega)) (h.block _ (by have := HIT0.out.lt.2.1; omega)) (h.block _ (blk_lt hnb)))
  clear hW0 hbW hnb
  have hdr := (Below.refl W0.heap.size W0).drew
  have hSS : (fun w' : World => (w'.cell? ⟨yb, 0, none⟩ = some (.func (.yield l) #[] #[])) ∧ (w'.cell? ⟨pb, 0, none⟩ = some (.slice Ap q.length cp)) ∧ (w'.cell? ⟨W.heap.size, 0, none⟩ = some (.int .u8 k) ∧ w'.cell? ⟨W.heap.size, 1, none⟩ = some (.int .i64 nn) ∧ w'.cell? ⟨W.heap.size, 2, none⟩ = some (.string s) ∧ w'.cell? ⟨W.heap.size, 3, none⟩ = some (.slice A ks.length c))) W0.drew := HSB.out _ hdr
  refine wp_region_noPanic ?_
  refine (wpIn_wide (n := n)).1 ?_
  refine wpIn_region_I (ro := none) (fun w' : World => (w'.cell? ⟨yb, 0, none⟩ = some (.func (.yield l) #[] #[])) ∧ (w'.cell? ⟨pb, 0, none⟩ = some (.slice Ap q.length cp)) ∧ (w'.cell? ⟨W.heap.size, 0, none⟩ = some (.int .u8 k) ∧ w'.cell? ⟨W.heap.size, 1, none⟩ = some (.int .i64 nn) ∧ w'.cell? ⟨W.heap.size, 2, none⟩ = some (.string s) ∧ w'.cell? ⟨W.heap.size, 3, none⟩ = some (.slice A ks.length c))) (by kernel_rfl) ?_
  refine wpI_take (i := 0) (v := ?_) rfl (by kernel_rfl) (by kernel_rfl) (by kernel_rfl) (by kernel_rfl) (fun _ _ _ h => h) (Or.inl ⟨by rfl, ?_⟩) hSS ?_
  rotate_left 1
  · (intro w hSw; (try dsimp only at hSw); (try simp only [List.getElem_toArray, List.getElem_cons_succ, List.getElem_cons_zero]); go_simp; (try with_reducible rfl))
  (try simp only [Act.put, List.getElem_toArray, List.getElem_cons_succ, List.getElem_cons_zero, List.setIfInBounds_toArray, List.set_cons_zero, List.set_cons_succ])
  refine wpI_take (i := 1) (v := ?_) rfl (by kernel_rfl) (by kernel_rfl) (by kernel_rfl) (by kernel_rfl) (fun _ _ _ h => h) (Or.inl ⟨by rfl, ?_⟩) hSS ?_
  rotate_left 1
  · (intro w hSw; (try dsimp only at hSw); (try simp only [List.getElem_toArray, List.getElem_cons_succ, List.getElem_cons_zero]); go_simp; (try with_reducible rfl))
  (try simp only [Act.put, List.getElem_toArray, List.getElem_cons_succ, List.getElem_cons_zero, List.setIfInBounds_toArray, List.set_cons_zero, List.set_cons_succ])
  refine wpI_take (i := 3) (v := ?_) rfl (by kernel_rfl) (by kernel_rfl) (by kernel_rfl) (by kernel_rfl) (fun _ _ _ h => h) (Or.inl ⟨by rfl, ?_⟩) hSS ?_
  rotate_left 1
  · (intro w hSw; (try dsimp only at hSw); (try simp only [List.getElem_toArray, List.getElem_cons_succ, List.getElem_cons_zero]); go_simp; (try with_reducible rfl))
  (try simp only [Act.put, List.getElem_toArray, List.getElem_cons_succ, List.getElem_cons_zero, List.setIfInBounds_toArray, List.set_cons_zero, List.set_cons_succ])
  refine wpI_one (i := 2) (by kernel_rfl) rfl (by kernel_rfl) (by rfl) (fun K hK => ?_)
  refine step_call1 (by rfl) (.func 49) (.tmp 9) _ (by rfl) 49 _ fnCloneI (by rfl) _ (by rfl) _ (newIV_of (CloneI_any q Ap cp _ _ ((HRI.out.later HBW.out).later hdr) (by unfold LI; omega))) ?_
  rintro v2 w2 ⟨A2, c2, rfl, _, _, bw2⟩
  have b2 := bl_tt hdr bw2
  have hSS2 : (fun w' : World => (w'.cell? ⟨yb, 0, none⟩ = some (.func (.yield l) #[] #[])) ∧ (w'.cell? ⟨pb, 0, none⟩ = some (.slice Ap q.length cp)) ∧ (w'.cell? ⟨W.heap.size, 0, none⟩ = some (.int .u8 k) ∧ w'.cell? ⟨W.heap.size, 1, none⟩ = some (.int .i64 nn) ∧ w'.cell? ⟨W.heap.size, 2, none⟩ = some (.string s) ∧ w'.cell? ⟨W.heap.size, 3, none⟩ = some (.slice A ks.length c))) w2 := HSB.out _ b2
  refine hK.out _ _ hSS2 ?_
  clear hK K hSS
  (try simp only [Act.put, List.getElem_toArray, List.getElem_cons_succ, List.getElem_cons_zero, List.setIfInBounds_toArray, List.set_cons_zero, List.set_cons_succ])
  refine wpI_one (i := 4) (by kernel_rfl) rfl (by kernel_rfl) (by rfl) (fun K hK => ?_)
  refine step_call1 (by rfl) (.func 21) (.tmp 11) _ (by rfl) 21 _ fnCloneN (by rfl) _ (by rfl) _ (newV_of (Clone_any (.nd k nn s ks) _ _ ((HV.out.later HBW.out).later b2).any)) ?_
  rintro v3 w3 ⟨k3, n3, s3, A3, l3, c3, rfl, hn3, bw3⟩
  have b3 := bl_tt b2 bw3
  have hSS3 : (fun w' : World => (w'.cell? ⟨yb, 0, none⟩ = some (.func (.yield l) #[] #[])) ∧ (w'.cell? ⟨pb, 0, none⟩ = some (.slice Ap q.length cp)) ∧ (w'.cell? ⟨W.heap.size, 0, none⟩ = some (.int .u8 k) ∧ w'.cell? ⟨W.heap.size, 1, none⟩ = some (.int .i64 nn) ∧ w'.cell? ⟨W.heap.size, 2, none⟩ = some (.string s) ∧ w'.cell? ⟨W.heap.size, 3, none⟩ = some (.slice A ks.length c))) w3 := HSB.out _ b3
  refine hK.out _ _ hSS3 ?_
  clear hK K hSS2
  (try simp only [Act.put, List.getElem_toArray, List.getElem_cons_succ, List.getElem_cons_zero, List.setIfInBounds_toArray, List.set_cons_zero, List.set_cons_succ])
  have bW3 := bl_tt HBW.out b3
  have hj3 := HJ.out _ _ _ _ HJ0.out (Chg.of_below bW3)
  have hit3 := HIT.out.later bW3
  obtain ⟨yfn, ytmps, yas, ybo, hyr, hyR⟩ := HY.out pre (.nd k nn s ks) C w3 (.slice A2 q.length c2) (nv k3 n3 s3 A3 l3 c3) hj3 (by
    have := HPRE.out
    simp only [po] at this
    exact (List.prefix_append_right_inj pre).2 ⟨_, rfl⟩ |>.trans this) ⟨_, _, _, rfl⟩ (hn3.mono fun b hb => by have h1 := HIT.out.gp; have h2 := b2.size; have h3 := HZ0.out; have h4 : w2.heap.size ≤ b := hb; omega)
  refine wpI_yield (i := 5) (by kernel_rfl) rfl (by kernel_rfl) (by rfl) (l := l) (f := yfn) (tmps := ytmps) (assign := yas) (body := ybo) ?_ hyR ?_
  · (try simp only [List.getElem_toArray, List.getElem_cons_succ, List.getElem_cons_zero])
    go_simp
  · clear hyr hyR
    rintro e W1 (⟨rfl, C1, hj1, hC1, hch1⟩ | ⟨rfl, C1, hjx1, hch1⟩)
    · have hSS4 : (fun w' : World => (w'.cell? ⟨yb, 0, none⟩ = some (.func (.yield l) #[] #[])) ∧ (w'.cell? ⟨pb, 0, none⟩ = some (.slice Ap q.length cp)) ∧ (w'.cell? ⟨W.heap.size, 0, none⟩ = some (.int .u8 k) ∧ w'.cell? ⟨W.heap.size, 1, none⟩ = some (.int .i64 nn) ∧ w'.cell? ⟨W.heap.size, 2, none⟩ = some (.string s) ∧ w'.cell? ⟨W.heap.size, 3, none⟩ = some (.slice A ks.length c))) W1 := HS.out _ ((hch1.block _ (by have := hit3.lt.1; omega) hit3.cy).trans (b3.block _ (by have := HIT0.out.lt.1; omega))) ((hch1.block _ (by have := hit3.lt.2.1; omega) hit3.cp).trans (b3.block _ (by have := HIT0.out.lt.2.1; omega))) ((hch1.block _ (by have := bW3.size; have := b3.size; have := HZ0.out; omega) (fun h => by have := HJLT.out _ _ _ HJ0.out _ h; omega)).trans (b3.block _ (by have := HZ0.out; omega)))
      refine ⟨_, rfl, hSS4, ?_⟩
      (try simp only [Act.put, List.getElem_toArray, List.getElem_cons_succ, List.getElem_cons_zero, List.setIfInBounds_toArray, List.set_cons_zero, List.set_cons_succ])
      refine wpI_take (i := 6) (v := ?_) rfl (by kernel_rfl) (by kernel_rfl) (by kernel_rfl) (by kernel_rfl) (fun _ _ _ h => h) (Or.inl ⟨by rfl, ?_⟩) hSS4 ?_
      rotate_left 1
      · (intro w hSw; (try dsimp only at hSw); (try simp only [List.getElem_toArray, List.getElem_cons_succ, List.getElem_cons_zero]); go_simp; (try with_reducible rfl))
      (try simp only [Act.put, List.getElem_toArray, List.getElem_cons_succ, List.getElem_cons_zero, List.setIfInBounds_toArray, List.set_cons_zero, List.set_cons_succ])
      refine wpI_done (by kernel_rfl) ?_
      refine NoPanic.normal ?_
      obtain ⟨_, _, _, _, _, m3⟩ := hSS4
      have hit1 : It C1 W1 n0 l yb pb vb (.slice Ap q.length cp) q := hit3.chg hch1 (fun b hb => by
        rcases hb with rfl | rfl | rfl | hb
        · exact hit3.cy
        · exact hit3.cp
        · exact hit3.cv
        · exact hit3.cr b hb) (fun b hb hc => by
        have hl3 := hit3.lt
        rcases hC1 b hc with h | h
        · rcases hb with rfl | rfl | rfl | hb
          · exact hit3.cy h
          · exact hit3.cp h
          · exact hit3.cv h
          · exact hit3.cr b hb h
        · rcases hb with rfl | rfl | rfl | hb
          · omega
          · omega
          · omega
          · have := hl3.2.2.2 b hb; omega)
      have HI0 := Lib.hid (show VInv J n0 l yb pb vb pre (.nd k nn s ks) [] C (.slice Ap q.length cp) q W0 W1 C1 (.slice Ap q.length cp) from ⟨hj1, hit1, fun b hb => by
        have := b3.size
        rcases hC1 b hb with h | h
        · exact .inl h
        · exact .inr (by omega), fun b hb => .inl hb, (Chg.of_below b3).trans2 hch1 fun b _ h => .inl h⟩)
      clear hj1 hC1 hch1 hSS3 hj3 hit3 hit1 b3 b2 bW3 bw2 bw3 hn3 hdr HJ0 HIT0 HSB HS HRI
      go_wp2_with fail
      go_loopw [18] (fun i wr => ∃ (j : Nat) (C' : Nat → Prop) (pv' : Value), j ≤ ks.length ∧ i = .int .i64 j ∧ VInv J n0 l yb pb vb pre (.nd k nn s ks) (pos (ks.take j)) C (.slice Ap q.length cp) q W0 wr C' pv') (fun i _ => ks.length - (intOf i).toNat)
      case atStart => exact ⟨0, C1, _, Nat.zero_le _, rfl, HI0.out⟩
      case round =>
        obtain ⟨j, C', pv', hj, rfl, hinv⟩ := hrel
        have HINV := Lib.hid hinv
        clear m3 HI0
        by_cases hlt : j < ks.length
        · obtain ⟨hjj, hit, hCC, hob, hch⟩ := hinv
          have hn0p := hit.gp
          have hrow := HROW.out.keep (w' := wr) (S' := R) (fun b hb _ => hb) (fun b hb hblt => by
            have hb0 := HRR.out b hb
            rw [hch.block b (by have := HZ0.out; omega) (fun h => by
              rcases h with h | h | h
              · exact HCR.out b h hb
              · omega
              · have := HLT.out.2.2.2 b h; omega)]
            exact HBW.out.block b hblt)
          obtain ⟨a, u, A1, c1, rfl, _, Hu, ⟨q0, q1, q2, q3⟩, hnu⟩ := hrow.nd hlt
          obtain ⟨Aq, cq, rfl, _, _⟩ := ownsRow_rowI hit.row hit.fits
          have p1 : wr.cell? ⟨pb, 0, none⟩ = some (.slice Aq q.length cq) := cell_of_blk hit.p rfl
          have hltw := hit.lt
          have hCl := HJLT.out _ _ _ hjj
          have hn0w : n0 ≤ wr.heap.size := by have := hltw.2.1; omega
          have hsz0 := hch.size
          have bk : Below wr.heap.size wr ((wr.alloc (.cells #[.int .u8 u.k, .int .i64 u.n, .string u.s, .slice A1 u.ks.length c1] 24)).alloc (.cells #[.int .i64 (j : Int)] 3)) := ((Below.refl _ _).alloc (Nat.le_refl _) _).alloc (by simp) _
          have hitk := hit.later bk
          have hpk := hitk.p
          have p2 : (wr.alloc (.cells #[.int .u8 u.k, .int .i64 u.n, .string u.s, .slice A1 u.ks.length c1] 24)).cell? ⟨pb, 0, none⟩ = some (.slice Aq q.length cq) := cell_al p1 _
          have hm1 : q.length + 1 ≤ maxLen := by unfold maxLen; omega
          have hm2 : (q.length + 1) * 8 ≤ 140737488355328 := by omega
          have HJJ := Lib.hid hjj
          have HITK := Lib.hid hitk
          have HITR := Lib.hid hit
          have HNU := Lib.hid hnu
          have HCC := Lib.hid hCC
          have HOB := Lib.hid hob
          have HCHR := Lib.hid hch
          have HLW := Lib.hid hltw
          have HCL := Lib.hid hCl
          have hrowk := hitk.row
          have hbI := buildI1
          have hnew : ∀ (i : Nat) (u' : Value), [Value.int .i64 (j : Int)][i]? = some u' → ((wr.alloc (.cells #[.int .u8 u.k, .int .i64 u.n, .string u.s, .slice A1 u.ks.length c1] 24)).alloc (.cells #[.int .i64 (j : Int)] 3)).cell? ((⟨wr.heap.size + 1, 0, none⟩ : Addr).add i) = some u' := fun i u' h => by
            have := news_newN (wr.alloc (.cells #[.int .u8 u.k, .int .i64 u.n, .string u.s, .slice A1 u.ks.length c1] 24)) 3 [Value.int .i64 (j : Int)] i u' h
            simpa using this
          clear hjj hit hCC hob hch hrow hnu hitk hCl hltw
          go_wp2_with (at_builtin; refine wpList_append_own_at (P := Try.prog) _ rfl (.tmp 23) (.tmp 25) 47 rfl n0 3 i0 _ 1 8 Try.underlying47 hi0 hz0 hz1 hz2 rfl (by decide) (.slice Aq q.length cq) q.length _ rfl hrowk ⟨wr.heap.size + 1, 0, none⟩ 1 1 [.int .i64 (j : Int)] rfl rfl hnew (by intro u' hu'; simp at hu'; subst hu'; rfl) hm1 hm2 (by simp; omega) ?_; intro v2 w2 h2 h3 h4 h5; obtain ⟨g2, cap2, rfl⟩ := ownsRow_succ h2; have hbx := (h3.block _ (blk_lt hpk) (fun e => HITK.out.rp e.symm)).trans hpk; have hy0 : w2.cell? ⟨pb, 0, none⟩ = some (.slice Aq q.length cq) := cell_of_blk hbx rfl; have hy1 : w2.frozen? ⟨pb, 0, none⟩ = false := frozen_of_blk hbx; have hob2 : ∀ b, (Value.slice (some ⟨g2, 0, none⟩) (q.length + 1) cap2).ownBlock = some b → (Value.slice Aq q.length cq).ownBlock = some b ∨ ((wr.alloc (.cells #[.int .u8 u.k, .int .i64 u.n, .string u.s, .slice A1 u.ks.length c1] 24)).alloc (.cells #[.int .i64 (j : Int)] 3)).heap.size ≤ b := (fun b hb => by rcases h5 with h5 | h5; exact .inl (h5 ▸ hb); exact .inr (by rw [hb] at h5; injection h5 with h5; omega)); have hst := HITK.out.put (q' := q ++ [(j : Int)]) (by simpa using h2) (by intro x hx; simp only [List.mem_append, List.mem_singleton] at hx; rcases hx with hx | rfl; exact HITK.out.fits x hx; exact ⟨by omega, by omega⟩) h3 hob2 (fun b hb => by have := HCL.out b hb; simp; omega); have hkb : w2.heap[wr.heap.size]? = some (.cells #[.int .u8 u.k, .int .i64 u.n, .string u.s, .slice A1 u.ks.length c1] 24 (0, 0)) := (h3.block _ (by simp; omega) (fun e => by have := HLW.out.2.2.2 _ e.symm; omega)).trans (blk_al (heap_alloc_new wr (.cells #[.int .u8 u.k, .int .i64 u.n, .string u.s, .slice A1 u.ks.length c1] 24)) _); have hvb : w2.heap[vb]? = some _ := (h3.block _ (blk_lt HITK.out.v) (fun e => HITK.out.rv e.symm)).trans HITK.out.v; have y3 : w2.cell? ⟨vb, 0, none⟩ = some (.func (.func 48) #[] #[.pointer (some ⟨yb, 0, none⟩), .pointer (some ⟨pb, 0, none⟩), .pointer (some ⟨vb, 0, none⟩)]) := cell_of_blk hvb rfl; obtain ⟨k0, k1, k2, k3'⟩ := box4 hkb; have HST := Lib.hid hst; have HGR := Lib.hid h3; have HOB2 := Lib.hid hob2; have hne1 : ¬ wr.heap.size = pb := (fun e => by have := HLW.out.2.1; omega); have hne2 : ¬ pb = wr.heap.size := (fun e => hne1 e.symm); have hne3 : ¬ vb = pb := HITK.out.nvp; have hne4 : ¬ pb = vb := (fun e => hne3 e.symm); clear h2 h3 h4 h5 hst hbx hkb hvb hob2)
          have hchA : Chg (fun b => b = pb ∨ (Value.slice Aq q.length cq).ownBlock = some b) wr (w2.setCell ⟨pb, 0, none⟩ (.slice (some ⟨g2, 0, none⟩) (q.length + 1) cap2)) := ((((Chg.refl _ wr).alloc _).alloc _).trans2 (Chg.row HGR.out) (fun b _ h => .inr h)).setCell (.inl (.inl rfl)) _
          have hszA := hchA.size
          have hjA : J (pre ++ ((.nd k nn s ks) :: pos (ks.take j))) C' (w2.setCell ⟨pb, 0, none⟩ (.slice (some ⟨g2, 0, none⟩) (q.length + 1) cap2)) := HJ.out _ _ _ _ HJJ.out (hchA.mono fun b _ hb hc => by
            rcases hb with rfl | hb
            · exact HITR.out.cp hc
            · exact HITR.out.cr b hb hc)
          have hnA : NV (w2.setCell ⟨pb, 0, none⟩ (.slice (some ⟨g2, 0, none⟩) (q.length + 1) cap2)) R u (nv u.k u.n u.s A1 u.ks.length c1) := HNU.out.keep (fun b hb _ => hb) (fun b hb hblt => hchA.block b hblt (fun h => by
            have hb0 := HRR.out b hb
            rcases h with h | h
            · have := HITR.out.gp; omega
            · have := (HLW.out.2.2.2 b h).1; omega))
          have hCRA : ∀ b, C' b → ¬ R b := fun b hb hr => by
            rcases HCC.out b hb with h | h
            · exact HCR.out b h hr
            · have := HRR.out b hr; have := HIT.out.gp; have := HZ0.out; omega
          have hpreA : (pre ++ ((.nd k nn s ks) :: pos (ks.take j))) ++ po u <+: xs := by
            have h := HPRE.out
            refine List.IsPrefix.trans ?_ h
            rw [List.append_assoc]
            refine (List.prefix_append_right_inj pre).2 ?_
            simp only [po, List.cons_append, List.prefix_cons_inj]
            rw [← Hu.out]
            exact pos_pre hlt
          have hdA : (q ++ [(j : Int)]).length + dep u ≤ 1000 := by
            have : dep u ≤ deps ks := by rw [← Hu.out]; exact dep_le (List.getElem_mem hlt)
            simp
            omega
          have HC := Lib.hid (HIH.out u (by rw [← Hu.out]; exact List.getElem_mem hlt) _ C' _ _ _ _ hjA HST.out hnA hCRA hpreA hdA)
          have HCHA := Lib.hid hchA
          have HSZA := Lib.hid hszA
          have hE := HST.out.lt.2.1
          clear hjA hnA hCRA hpreA hdA hchA hszA
          have HCHW := Lib.hid (show Chg (fun b => C b ∨ b = pb ∨ (Value.slice Ap q.length cp).ownBlock = some b) W0 (w2.setCell ⟨pb, 0, none⟩ (.slice (some ⟨g2, 0, none⟩) (q.length + 1) cap2)) from HCHR.out.trans2 HCHA.out fun b hb h => by
            rcases h with h | h
            · exact .inr (.inl h)
            · rcases HOB.out b h with h | h
              · exact .inr (.inr h)
              · omega)
          have HOBW := Lib.hid (show ∀ b, (Value.slice (some ⟨g2, 0, none⟩) (q.length + 1) cap2).ownBlock = some b → (Value.slice Ap q.length cp).ownBlock = some b ∨ W0.heap.size ≤ b from fun b hb => by
            rcases HOB2.out b hb with h | h
            · exact HOB.out b h
            · exact .inr (by simp at h; omega))
          refine HC.out.mono ?_
          rintro e W5 (⟨rfl, C2, pv3, hj2, hit2, hC2, hob3, hch2⟩ | ⟨rfl, pre', C2, hjx2, hch2⟩)
          · have hrow2 := hit2.row
            rw [show (q ++ [(j : Int)]).length = q.length + 1 by simp] at hrow2
            obtain ⟨g3, cap3, rfl⟩ := ownsRow_succ hrow2
            have hcap3 : q.length ≤ cap3 := by
              rcases hrow2.2 with ⟨h, _⟩ | ⟨g', cap', cur, hv', _, _, hc', _⟩
              · cases h
              · cases hv'; omega
            have hcap4 : (q.length : Int) ≤ (cap3 : Int) := by omega
            have hlt2 := hit2.lt
            have x0 : W5.cell? ⟨pb, 0, none⟩ = some (.slice (some ⟨g3, 0, none⟩) (q.length + 1) cap3) := cell_of_blk hit2.p rfl
            have x1 : W5.frozen? ⟨pb, 0, none⟩ = false := frozen_of_blk hit2.p
            have hpop := ownsRow_pop (size := 1) (n := q.length) (xs := q.map fun x => Value.int .i64 x) (last := [.int .i64 (j : Int)]) (by simp) (by simpa using hrow2)
            have hC2l := HJLT.out _ _ _ hj2
            have hst2 := hit2.put (q' := q) hpop HIT.out.fits (only_refl _ _) (fun b hb => .inl hb) hC2l
            have hjF : J (pre ++ ((.nd k nn s ks) :: pos (ks.take (j + 1)))) C2 (W5.setCell ⟨pb, 0, none⟩ (.slice (some ⟨g3, 0, none⟩) q.length cap3)) := by
              have := HJ.out _ _ _ _ hj2 (((Chg.refl (fun b => b = pb) W5).setCell (p := ⟨pb, 0, none⟩) (.inl rfl) (.slice (some ⟨g3, 0, none⟩) q.length cap3)).mono fun b _ hb hc => by rw [show b = pb from hb] at hc; exact hit2.cp hc)
              rw [pos_take hlt, Hu.out]
              simpa using this
            have HF := Lib.hid (show VInv J n0 l yb pb vb pre (.nd k nn s ks) (pos (ks.take (j + 1))) C (.slice Ap q.length cp) q W0 (W5.setCell ⟨pb, 0, none⟩ (.slice (some ⟨g3, 0, none⟩) q.length cap3)) C2 (.slice (some ⟨g3, 0, none⟩) q.length cap3) from ⟨hjF, hst2, fun b hb => by
                rcases hC2 b hb with h | h
                · exact HCC.out b h
                · exact .inr (by have := HSZA.out; omega), fun b hb => by
                rcases hob3 b hb with h | h
                · exact HOBW.out b h
                · exact .inr (by have := HSZA.out; omega), (HCHW.out.trans2 hch2 fun b hb h => by
                rcases h with h | h | h
                · rcases HCC.out b h with h | h
                  · exact .inl h
                  · omega
                · exact .inr (.inl h)
                · rcases HOBW.out b h with h | h
                  · exact .inr (.inr h)
                  · omega).setCell (.inl (.inr (.inl rfl))) _⟩)
            clear hrow2 hlt2 hpop hC2l hst2 hjF hj2 hit2 hC2 hob3 hch2
            go_wp2_with fail
            go_roundw
            case rel => exact ⟨j + 1, C2, _, by omega, by go_num, HF.out⟩
            case measure => simp [intOf]; omega
          · have HX := Lib.hid hjx2
            have HF := Lib.hid (show Chg (fun b => C b ∨ b = pb ∨ (Value.slice Ap q.length cp).ownBlock = some b) W W5 from (Chg.of_below HBW.out).trans2 (HCHW.out.trans2 hch2 fun b hb h => by
                rcases h with h | h | h
                · rcases HCC.out b h with h | h
                  · exact .inl h
                  · omega
                · exact .inr (.inl h)
                · rcases HOBW.out b h with h | h
                  · exact .inr (.inr h)
                  · omega) fun b _ h => h)
            clear hjx2 hch2
            go_wp2_with fail
            go_ret
            exact .inr ⟨rfl, _, _, HX.out, HF.out⟩
        · obtain rfl : j = ks.length := by omega
          clear hinv
          go_wp2_with fail
          go_ret
          have hinv := HINV.out
          rw [List.take_of_length_le (Nat.le_refl _)] at hinv
          obtain ⟨hjj, hit, hCC, hob, hch⟩ := hinv
          refine .inl ⟨rfl, C', pv', by simpa [po] using hjj, hit, fun b hb => (hCC b hb).imp id fun h => ?_, fun b hb => (hob b hb).imp id fun h => ?_, (Chg.of_below HBW.out).trans2 hch fun b _ h => h⟩
          · have := HZ0.out; omega
          · have := HZ0.out; omega
    · have hSS4 : (fun w' : World => (w'.cell? ⟨yb, 0, none⟩ = some (.func (.yield l) #[] #[])) ∧ (w'.cell? ⟨pb, 0, none⟩ = some (.slice Ap q.length cp)) ∧ (w'.cell? ⟨W.heap.size, 0, none⟩ = some (.int .u8 k) ∧ w'.cell? ⟨W.heap.size, 1, none⟩ = some (.int .i64 nn) ∧ w'.cell? ⟨W.heap.size, 2, none⟩ = some (.string s) ∧ w'.cell? ⟨W.heap.size, 3, none⟩ = some (.slice A ks.length c))) W1 := HS.out _ ((hch1.block _ (by have := hit3.lt.1; omega) hit3.cy).trans (b3.block _ (by have := HIT0.out.lt.1; omega))) ((hch1.block _ (by have := hit3.lt.2.1; omega) hit3.cp).trans (b3.block _ (by have := HIT0.out.lt.2.1; omega))) ((hch1.block _ (by have := bW3.size; have := b3.size; have := HZ0.out; omega) (fun h => by have := HJLT.out _ _ _ HJ0.out _ h; omega)).trans (b3.block _ (by have := HZ0.out; omega)))
      refine ⟨_, rfl, hSS4, ?_⟩
      (try simp only [Act.put, List.getElem_toArray, List.getElem_cons_succ, List.getElem_cons_zero, List.setIfInBounds_toArray, List.set_cons_zero, List.set_cons_succ])
      refine wpI_take (i := 6) (v := ?_) rfl (by kernel_rfl) (by kernel_rfl) (by kernel_rfl) (by kernel_rfl) (fun _ _ _ h => h) (Or.inl ⟨by rfl, ?_⟩) hSS4 ?_
      rotate_left 1
      · (intro w hSw; (try dsimp only at hSw); (try simp only [List.getElem_toArray, List.getElem_cons_succ, List.getElem_cons_zero]); go_simp; (try with_reducible rfl))
      (try simp only [Act.put, List.getElem_toArray, List.getElem_cons_succ, List.getElem_cons_zero, List.setIfInBounds_toArray, List.set_cons_zero, List.set_cons_succ])
      refine wpI_done (by kernel_rfl) ?_
      refine NoPanic.normal ?_
      have HJX := Lib.hid hjx1
      have HCH := Lib.hid ((Chg.of_below (C := fun b => C b ∨ b = pb ∨ (Value.slice Ap q.length cp).ownBlock = some b) bW3).trans2 hch1 fun b _ h => .inl h)
      clear hjx1 hch1 hSS4 hSS3 hj3 hit3
      go_wp2_with fail
      go_ret
      exact .inr ⟨rfl, _, _, HJX.out, HCH.out⟩

end Go.Proofs.Ytldcjboignbfpaa

/-
  The contracts of ast.Walk and of the iterator that it hands back.
-/
namespace Go.Proofs.Ytldcjboignbfpaa
open Go Go.RowKit

set_option maxHeartbeats 4000000 in
set_option maxRecDepth 100000 in
theorem Walk1_stops (n gr : Nat) (t : T) (W : World) (S : Nat → Prop) (k nn : Int) (s : ByteArray) (A : Option Addr) (m c : Nat) (hgr : W.heap[gr]? = some (.cells #[.int .u8 k, .int .i64 nn, .string s, .slice A m c] 24 (0, 0)))
    (hn : NV W S t (nv k nn s A m c)) (hd : dep t ≤ 1000) : WalkC n Try.prog 47 #[.pointer (some ⟨gr, 0, none⟩)] (po t) (fun b => b = gr ∨ S b) W := by
  intro l J Jx C W1 hl0 hCR hch hJ hJlt hY h0
  refine (callsIn_wide (n := n)).2 ?_
  have hgr1 := hch.keep hgr fun h => hCR _ h (.inl rfl)
  have hn1 : NV W1 (fun b => S b ∧ b < W1.heap.size) t (nv k nn s A m c) := hn.keep (fun b hb hlt => ⟨hb, Nat.lt_of_lt_of_le hlt hch.size⟩) fun b hb hlt => hch.block b hlt fun h => hCR _ h (.inr hb)
  have hgl := blk_lt hgr1
  have HJ := Lib.hid hJ
  have HJLT := Lib.hid hJlt
  have HY := Lib.hid hY
  have H0 := Lib.hid h0
  have HN := Lib.hid hn1
  have HGR := Lib.hid hgr1
  have HC := Lib.hid (show ∀ b, C b → ¬ (S b ∧ b < W1.heap.size) from fun b hb hs => hCR b hb (.inr hs.1))
  obtain ⟨m0, m1, m2, m3⟩ := box4 hgr1
  have z0 := fun o1 o2 o3 => cell_al (cell_al (cell_al m0 o1) o2) o3
  have z1 := fun o1 o2 o3 => cell_al (cell_al (cell_al m1 o1) o2) o3
  have z2 := fun o1 o2 o3 => cell_al (cell_al (cell_al m2 o1) o2) o3
  have z3 := fun o1 o2 o3 => cell_al (cell_al (cell_al m3 o1) o2) o3
  clear hCR hch hJ hJlt hY h0 hgr hn hn1 hgr1 m0 m1 m2 m3
  show Calls Try.prog 47 #[.func (.yield l) #[] #[], .pointer (some ⟨gr, 0, none⟩)] W1 _
  go_enter Try.func47, Try.ntmps47
  go_wp2_with fail
  obtain ⟨Wv, hWv⟩ : ∃ Wv, (((W1.alloc (.cells #[.func (.yield l) #[] #[]] 61)).alloc (.cells #[.slice none 0 0] 47)).alloc (.cells #[.func (.func 48) #[] #[.pointer (some ⟨W1.heap.size, 0, none⟩), .pointer (some ⟨W1.heap.size + 1, 0, none⟩), .pointer (some ⟨W1.heap.size + 1 + 1, 0, none⟩)]] 27)) = Wv := ⟨_, rfl⟩
  have hb3 : Below W1.heap.size W1 Wv := by rw [← hWv]; exact bl_al (bl_al (bl_al (Below.refl _ _) _) _) _
  have hit : It C Wv W1.heap.size l W1.heap.size (W1.heap.size + 1) (W1.heap.size + 1 + 1) (.slice none 0 0) [] := by
    have hCl := HJLT.out _ _ _ H0.out
    have hy := blk_al (blk_al (heap_alloc_new W1 (.cells #[.func (.yield l) #[] #[]] 61)) (.cells #[.slice none 0 0] 47)) (.cells #[.func (.func 48) #[] #[.pointer (some ⟨W1.heap.size, 0, none⟩), .pointer (some ⟨W1.heap.size + 1, 0, none⟩), .pointer (some ⟨W1.heap.size + 1 + 1, 0, none⟩)]] 27)
    have hp := blk_al (heap_alloc_new (W1.alloc (.cells #[.func (.yield l) #[] #[]] 61)) (.cells #[.slice none 0 0] 47)) (.cells #[.func (.func 48) #[] #[.pointer (some ⟨W1.heap.size, 0, none⟩), .pointer (some ⟨W1.heap.size + 1, 0, none⟩), .pointer (some ⟨W1.heap.size + 1 + 1, 0, none⟩)]] 27)
    have hv := heap_alloc_new ((W1.alloc (.cells #[.func (.yield l) #[] #[]] 61)).alloc (.cells #[.slice none 0 0] 47)) (.cells #[.func (.func 48) #[] #[.pointer (some ⟨W1.heap.size, 0, none⟩), .pointer (some ⟨W1.heap.size + 1, 0, none⟩), .pointer (some ⟨W1.heap.size + 1 + 1, 0, none⟩)]] 27)
    simp only [World.size_alloc] at hp hv
    rw [hWv] at hy hp hv
    exact ⟨hy, hv, hp, World.ownsRow_nil _ _ _ _, (by simp), by omega, by omega, by omega, by omega, by omega, by simp [Value.ownBlock], by simp [Value.ownBlock], by simp [Value.ownBlock],
      (fun h => by have := hCl _ h; omega), (fun h => by have := hCl _ h; omega), (fun h => by have := hCl _ h; omega), (by simp [Value.ownBlock])⟩
  rw [hWv]
  have hj := HJ.out _ _ _ _ H0.out (Chg.of_below hb3)
  refine (visit_any n l W1.heap.size W1.heap.size (W1.heap.size + 1) (W1.heap.size + 1 + 1) (fun b => S b ∧ b < W1.heap.size) (po t) J Jx HJ.out HJLT.out (fun b hb => hb.2) hl0 HY.out t [] C Wv (.slice none 0 0) [] _ hj hit (HN.out.later hb3) HC.out (by simp) (by simpa using hd)).mono ?_
  rintro e W5 (⟨rfl, C2, pv3, hj2, -, -, -, hch2⟩ | ⟨rfl, pre', C2, hjx2, hch2⟩)
  · have HF := Lib.hid (show Chg C W1 W5 from (Chg.of_below hb3).trans2 hch2 fun b hb h => by
      rcases h with h | h | h
      · exact h
      · omega
      · simp [Value.ownBlock] at h)
    have HX := Lib.hid hj2
    clear hj2 hch2 z0 z1 z2 z3 hWv hit hj
    go_wp2_with fail
    go_end0
    exact ⟨⟨_, rfl⟩, .inl ⟨C2, by simpa using HX.out, HF.out⟩⟩
  · have HF := Lib.hid (show Chg C W1 W5 from (Chg.of_below hb3).trans2 hch2 fun b hb h => by
      rcases h with h | h | h
      · exact h
      · omega
      · simp [Value.ownBlock] at h)
    have HX := Lib.hid hjx2
    clear hjx2 hch2 z0 z1 z2 z3 hWv hit hj
    go_wp2_with fail
    go_end0
    exact ⟨⟨_, rfl⟩, .inr ⟨pre', C2, HX.out, HF.out⟩⟩

set_option maxHeartbeats 2000000 in
theorem Walk_any (t : T) (v : Value) (w : World) (hv : NV w Any t v) : Calls Try.prog 27 #[v] w fun e w' => ∃ gr k n s A m c, e = .returned (.func (.func 47) #[] #[.pointer (some ⟨gr, 0, none⟩)]) ∧ w.heap.size ≤ gr ∧
    w'.heap[gr]? = some (.cells #[.int .u8 k, .int .i64 n, .string s, .slice A m c] 24 (0, 0)) ∧ NV w' (fun b => w.heap.size ≤ b ∧ b < w'.heap.size) t (nv k n s A m c) ∧ Below w.heap.size w w' := by
  have HV := Lib.hid hv
  obtain ⟨A, c, rfl, -⟩ := hv.open_
  clear hv
  generalize t.k = k, t.n = n, t.s = s, t.ks.length = m at *
  go_enter Try.func27, Try.ntmps27
  go_wp2_with fail
  refine (Clone_any t _ _ (HV.out.later ((Below.refl _ _).alloc (Nat.le_refl _) _))).mono ?_
  rintro e w1 ⟨k1, n1, s1, A1, m1, c1, rfl, hn1, bw1⟩
  have hb : Below w.heap.size w (w1.alloc (.cells #[.int .u8 k1, .int .i64 n1, .string s1, .slice A1 m1 c1] 24)) := bl_al (bl_tt (bl_al (Below.refl _ _) _) bw1) _
  have HB := Lib.hid hb
  have HZ := Lib.hid (show w.heap.size ≤ w1.heap.size by have := bw1.size; simp at this; omega)
  have HN := Lib.hid hn1
  clear bw1 hn1 hb
  go_wp2_with fail
  go_ret
  refine ⟨w1.heap.size, k1, n1, s1, A1, m1, c1, rfl, HZ.out, heap_alloc_new w1 _, HN.out.keep (fun b hb hlt => ⟨?_, by simp; omega⟩) (fun b _ hlt => Below.heap_alloc w1 _ b hlt), HB.out⟩
  have hb' : w.heap.size + 1 ≤ b := by simpa using hb
  omega

theorem fnWalk1 : IsFn Try.prog 47 Try.f47 := ⟨Try.func47, by kernel_rfl, by kernel_rfl⟩

end Go.Proofs.Ytldcjboignbfpaa
