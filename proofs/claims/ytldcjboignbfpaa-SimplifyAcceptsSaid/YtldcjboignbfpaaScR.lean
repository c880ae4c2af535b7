/-
  The list of faults that scope.Check gathers, and the contract of the closure that adds to it.
-/
import Derived.Test.YtldcjboignbfpaaScC
import Derived.Test.YtldcjboignbfpaaWk
namespace Go.Proofs.Ytldcjboignbfpaa
open Go Go.RowKit

/-- Box fb holds the slice pv of N faults; its row is the call's own. -/
structure FS (W : World) (n0 fb N : Nat) (pv : Value) : Prop where
  box : W.heap[fb]? = some (.cells #[pv] 48 (0, 0))
  row : ∃ xs, W.ownsRow n0 66 4 pv N xs
  ge : n0 ≤ fb
  ne : pv.ownBlock ≠ some fb

section
variable {W W' : World} {n0 fb N N' : Nat} {pv pv' : Value}
theorem FS.lt (h : FS W n0 fb N pv) : fb < W.heap.size ∧ ∀ b, pv.ownBlock = some b → n0 ≤ b ∧ b < W.heap.size := ⟨blk_lt h.box, let ⟨_, hr⟩ := h.row; hr.lt⟩
theorem FS.chg {C : Nat → Prop} (h : FS W n0 fb N pv) (hc : Chg C W W') (hC : ∀ b, b = fb ∨ pv.ownBlock = some b → ¬ C b) : FS W' n0 fb N pv := by
  refine ⟨hc.keep h.box (hC _ (.inl rfl)), ?_, h.ge, h.ne⟩
  obtain ⟨xs, e1, h2⟩ := h.row
  refine ⟨xs, e1, ?_⟩
  rcases h2 with h2 | ⟨g, cap, cur, rfl, hb, hg, h3⟩
  · exact .inl h2
  · exact .inr ⟨g, cap, cur, rfl, hb, hc.keep hg (hC _ (.inr rfl)), h3⟩
theorem FS.later (h : FS W n0 fb N pv) (hb : Below W.heap.size W W') : FS W' n0 fb N pv := h.chg (C := fun _ => False) (Chg.of_below hb) (fun _ _ h => h)
theorem FS.put (h : FS W n0 fb N pv) (ho : ∃ xs, W'.ownsRow n0 66 4 pv' N' xs) (hg : W.grownBy W' pv.ownBlock) (hob : ∀ b, pv'.ownBlock = some b → pv.ownBlock = some b ∨ W.heap.size ≤ b) :
    FS (W'.setCell ⟨fb, 0, none⟩ pv') n0 fb N' pv' := by
  have hp' : W'.heap[fb]? = some (.cells #[pv] 48 (0, 0)) := (hg.block _ (blk_lt h.box) (fun e => h.ne e.symm)).trans h.box
  have hnp : pv'.ownBlock ≠ some fb := fun e => by
    rcases hob _ e with e | e
    · exact h.ne e
    · have := blk_lt h.box; omega
  refine ⟨by have := heap_setCell_same W' fb 0 _ _ pv' hp'; simpa using this, ?_, h.ge, hnp⟩
  obtain ⟨xs, e1, h2⟩ := ho
  refine ⟨xs, e1, ?_⟩
  rcases h2 with h2 | ⟨g, cap, cur, rfl, hb, hg', h3⟩
  · exact .inl h2
  · refine .inr ⟨g, cap, cur, rfl, hb, ?_, h3⟩
    rw [Below.heap_setCell _ _ _ _ (fun e => hnp (by subst e; rfl))]
    exact hg'
theorem FS.slice (h : FS W n0 fb N pv) : ∃ A c, pv = .slice A N c := by
  obtain ⟨xs, e1, h2⟩ := h.row
  rcases h2 with ⟨rfl, rfl⟩ | ⟨g, cap, cur, rfl, _⟩
  · exact ⟨_, _, rfl⟩
  · exact ⟨_, _, rfl⟩
end

/-- What a call leaves that adds faults: N' of them in all. -/
def RepP (W : World) (n0 fb : Nat) (pv : Value) (N' : Nat) (e : Ending) (W' : World) : Prop :=
  (∃ v, e = .returned v) ∧ ∃ pv', FS W' n0 fb N' pv' ∧ (∀ b, pv'.ownBlock = some b → pv.ownBlock = some b ∨ W.heap.size ≤ b) ∧ Chg (fun b => b = fb ∨ pv.ownBlock = some b) W W'
/-- One fault, or none. -/
def one1 (e : Int) : Nat := if e = 0 then 0 else 1

/-- 'row = append(row, ..)' on a row of one's own, as one step of a region that draws its order. -/
theorem step_append_own {P : Program} {W : World} {ops : Array Oper} {o : Oper} {a : Act} {K : Act → World → Prop} {Q : Exit → Act → World → Prop} {F : Prop} (hgd : o.guard = none) (s x : Operand) (ty : TypeId)
    (ho : o.op = .call { callee := .builtin .append, args := #[s, x], argTypes := #[ty, ty] }) (base : Nat) (E : TypeId) (i : TypeInfo) (z : Value) (size bytes : Nat) (ht : P.underlying ty = some (.slice E)) (hi : P.info? E = some i) (hz : i.zero = some z)
    (hsize : i.size = size) (hby : i.bytes = bytes) (hzs : z.cells.size = size) (hsz : 0 < size) (v : Value) (n : Nat) (xs : List Value) (hs : a.eval s = v) (hrow : W.ownsRow base E size v n xs)
    (ad : Addr) (m c : Nat) (news : List Value) (hx : a.eval x = .slice (some ad) m c) (hl : news.length = m * size) (hc : ∀ j u, news[j]? = some u → W.cell? (ad.add j) = some u) (h1c : ∀ u ∈ news, u.oneCell' = true)
    (b1 : n + m ≤ maxLen) (b2 : (n + m) * bytes ≤ 140737488355328) (hb : base ≤ W.heap.size)
    (h : ∀ v' w', w'.ownsRow base E size v' (n + m) (xs ++ news) → W.grownBy w' v.ownBlock → (v'.ownBlock = v.ownBlock ∨ v'.ownBlock = some W.heap.size) → K (a.put o.dst v') w') :
    if Region.wanted o (yielded ops a.tmps) = true then Oper.wp P o a W K Q else F := by
  have hw : Region.wanted o (yielded ops a.tmps) = true := by simp [Region.wanted, hgd]
  rw [if_pos hw]
  obtain ⟨v', w', hr, h2, h3, _, h5⟩ := run_append_own_at (P := P) W base ty o.type E i z size bytes ht hi hz hsize hby hzs hsz v n xs hrow ad m c news hl hc h1c b1 b2 hb
  unfold Oper.wp execOp
  simp only [ho, resolve, invoke, builtin, Sem.run_bind, Sem.run_pure, Result.andThen_ok, List.map_toArray, List.map_cons, List.map_nil, hs, hx, hr]
  exact h v' w' h2 h3 h5

theorem fltInfo : (Try.prog.info? 66).map (fun i => (i.zero, i.size, i.bytes)) = some (some (.agg #[.int .i64 0, .slice none 0 0, .int .i64 0, .string ⟨#[]⟩]), 4, 56) := by kernel_rfl
theorem buildF (p : Int) (A : Option Addr) (l c : Nat) (e : Int) (s : ByteArray) (w : World) : (Instr.build 66 #[(0, .int .i64 p), (1, .slice A l c), (2, .int .i64 e), (3, .string s)]).run Try.prog w = .ok (.agg #[.int .i64 p, .slice A l c, .int .i64 e, .string s]) w := by kernel_rfl
theorem buildSF (a0 a1 a2 a3 : Value) (w : World) : (Instr.buildSlice 48 1 #[(0, .agg #[a0, a1, a2, a3])]).run Try.prog w = .ok (.slice (some ⟨w.heap.size, 0, none⟩) 1 1) (w.alloc (.cells #[a0, a1, a2, a3] 66)) := by kernel_rfl

set_option maxHeartbeats 4000000 in
set_option maxRecDepth 100000 in
theorem report_any (n0 fb N : Nat) (pv : Value) (pr er : Int) (q : List Int) (A : Option Addr) (c : Nat) (s : ByteArray) (S : Nat → Prop) (W : World) (hfs : FS W n0 fb N pv) (hq : RowI W S A q) (hql : q.length ≤ 100000) (hN : N ≤ 1000000) :
    Calls Try.prog 51 #[.int .i64 pr, .slice A q.length c, .string s, .int .i64 er, .pointer (some ⟨fb, 0, none⟩)] W (RepP W n0 fb pv (N + one1 er)) := by
  obtain ⟨i0, hi0, hz0, hz1, hz2⟩ := info_parts fltInfo
  obtain ⟨Ap, cp, rfl⟩ := hfs.slice
  have HFS := Lib.hid hfs
  have HQ := Lib.hid hq
  have hc0 : W.cell? ⟨fb, 0, none⟩ = some (.slice Ap N cp) := cell_of_blk hfs.box rfl
  have hbf := buildF
  have hbs := buildSF
  have hge := hfs.ge
  have hlf := hfs.lt.1
  clear hfs hq
  by_cases he : er = 0
  · subst he
    clear hc0
    go_enter Try.func51, Try.ntmps51
    go_wp2_with fail
    go_end0
    exact ⟨⟨_, rfl⟩, _, HFS.out, fun b hb => .inl hb, Chg.refl _ _⟩
  · have e1 : (er == 0) = false := by simpa using he
    have e2 : (er != 0) = true := by simpa using he
    have HONE := Lib.hid (show one1 er = 1 by simp [one1, he])
    rw [HONE.out]
    clear he
    go_enter Try.func51, Try.ntmps51
    go_upto_region 1 with fail
    have hSS : (fun _ : World => True) W.drew ∧ (fun w' : World => w'.cell? ⟨fb, 0, none⟩ = some (.slice Ap N cp)) W.drew := ⟨trivial, hc0⟩
    refine wp_region_noPanic ?_
    refine wp_region_G (fun _ : World => True) (fun w' : World => w'.cell? ⟨fb, 0, none⟩ = some (.slice Ap N cp)) 8 (by kernel_rfl) ?_
    refine wpG_take2 (i := 0) (v := ?_) rfl (by kernel_rfl) (by kernel_rfl) (by kernel_rfl) (by decide) rfl (by kernel_rfl) (by kernel_rfl) (fun _ _ _ h => h) (Or.inl ⟨by rfl, ?_⟩) hSS ?_
    rotate_left 1
    · (intro w hSw; (try dsimp only at hSw); (try simp only [List.getElem_toArray, List.getElem_cons_succ, List.getElem_cons_zero]); go_simp; (try with_reducible rfl))
    (try simp only [Act.put, List.getElem_toArray, List.getElem_cons_succ, List.getElem_cons_zero, List.setIfInBounds_toArray, List.set_cons_zero, List.set_cons_succ])
    refine wpG_take1 (i := 1) (v := ?_) rfl (by kernel_rfl) (by kernel_rfl) (by kernel_rfl) (by decide) (fun _ _ _ h => h) (Or.inl ⟨by rfl, ?_⟩) hSS ?_
    rotate_left 1
    · (intro w hSw; (try dsimp only at hSw); (try simp only [List.getElem_toArray, List.getElem_cons_succ, List.getElem_cons_zero]); go_simp; (try with_reducible rfl))
    (try simp only [Act.put, List.getElem_toArray, List.getElem_cons_succ, List.getElem_cons_zero, List.setIfInBounds_toArray, List.set_cons_zero, List.set_cons_succ])
    refine wpG_take1 (i := 2) (v := ?_) rfl (by kernel_rfl) (by kernel_rfl) (by kernel_rfl) (by decide) (fun _ _ _ h => h) (Or.inl ⟨by rfl, ?_⟩) hSS ?_
    rotate_left 1
    · (intro w hSw; (try dsimp only at hSw); (try simp only [List.getElem_toArray, List.getElem_cons_succ, List.getElem_cons_zero]); go_simp; (try with_reducible rfl))
    (try simp only [Act.put, List.getElem_toArray, List.getElem_cons_succ, List.getElem_cons_zero, List.setIfInBounds_toArray, List.set_cons_zero, List.set_cons_succ])
    refine wpG_take1 (i := 4) (v := ?_) rfl (by kernel_rfl) (by kernel_rfl) (by kernel_rfl) (by decide) (fun _ _ _ h => h) (Or.inl ⟨by rfl, ?_⟩) hSS ?_
    rotate_left 1
    · (intro w hSw; (try dsimp only at hSw); (try simp only [List.getElem_toArray, List.getElem_cons_succ, List.getElem_cons_zero]); go_simp; (try with_reducible rfl))
    (try simp only [Act.put, List.getElem_toArray, List.getElem_cons_succ, List.getElem_cons_zero, List.setIfInBounds_toArray, List.set_cons_zero, List.set_cons_succ])
    refine wpG_take1 (i := 5) (v := ?_) rfl (by kernel_rfl) (by kernel_rfl) (by kernel_rfl) (by decide) (fun _ _ _ h => h) (Or.inl ⟨by rfl, ?_⟩) hSS ?_
    rotate_left 1
    · (intro w hSw; (try dsimp only at hSw); (try simp only [List.getElem_toArray, List.getElem_cons_succ, List.getElem_cons_zero]); go_simp; (try with_reducible rfl))
    (try simp only [Act.put, List.getElem_toArray, List.getElem_cons_succ, List.getElem_cons_zero, List.setIfInBounds_toArray, List.set_cons_zero, List.set_cons_succ])
    refine wpG_one (i := 3) (by kernel_rfl) rfl (fun K hK => ?_)
    refine step_call1 (by rfl) (.func 49) (.tmp 13) _ (by rfl) 49 _ fnCloneI (by rfl) _ (by rfl) _ (newIV_of (CloneI_any q A c S _ (HQ.out.later (Below.refl _ _).drew) (by unfold LI; omega))) ?_
    rintro v2 w2 ⟨A2, c2, rfl, _, _, bw2⟩
    have b2 := bl_tt (Below.refl W.heap.size W).drew bw2
    have hfs2 := HFS.out.later b2
    have g2 : w2.cell? ⟨fb, 0, none⟩ = some (.slice Ap N cp) := cell_of_blk hfs2.box rfl
    have hSS2 : (fun _ : World => True) w2 ∧ (fun w' : World => w'.cell? ⟨fb, 0, none⟩ = some (.slice Ap N cp)) w2 := ⟨trivial, g2⟩
    refine hK.out _ _ hSS2 ?_
    clear hK K hSS
    (try simp only [Act.put, List.getElem_toArray, List.getElem_cons_succ, List.getElem_cons_zero, List.setIfInBounds_toArray, List.set_cons_zero, List.set_cons_succ])
    refine wpG_take1 (i := 6) (v := ?_) rfl (by kernel_rfl) (by kernel_rfl) (by kernel_rfl) (by decide) (fun _ _ _ h => h) (Or.inl ⟨by rfl, ?_⟩) hSS2 ?_
    rotate_left 1
    · (intro w hSw; (try dsimp only at hSw); (try simp only [List.getElem_toArray, List.getElem_cons_succ, List.getElem_cons_zero]); go_simp; (try with_reducible rfl))
    (try simp only [Act.put, List.getElem_toArray, List.getElem_cons_succ, List.getElem_cons_zero, List.setIfInBounds_toArray, List.set_cons_zero, List.set_cons_succ])
    refine wpG_one (i := 7) (by kernel_rfl) rfl (fun K hK => ?_)
    (try simp only [List.getElem_toArray, List.getElem_cons_succ, List.getElem_cons_zero])
    go_simp
    refine hK.out _ _ ⟨trivial, cell_al g2 _⟩ ?_
    clear hK K hSS2
    (try simp only [Act.put, List.getElem_toArray, List.getElem_cons_succ, List.getElem_cons_zero, List.setIfInBounds_toArray, List.set_cons_zero, List.set_cons_succ])
    obtain ⟨xs, hrow⟩ := hfs2.row
    have hl2 := hfs2.lt
    refine wpG_past (i := 8) (by kernel_rfl) rfl (by kernel_rfl) (fun K hK => ?_)
    refine step_append_own (by rfl) (.tmp 11) (.tmp 18) 48 (by rfl) n0 66 i0 _ 4 56 Try.underlying48 hi0 hz0 hz1 hz2 rfl (by decide) (.slice Ap N cp) N xs (by rfl) (hrow.alloc _) ⟨w2.heap.size, 0, none⟩ 1 1 [.int .i64 pr, .slice A2 q.length c2, .int .i64 er, .string s] (by rfl) rfl (news_newN w2 _ _) (by intro u hu; simp at hu; rcases hu with rfl | rfl | rfl | rfl <;> rfl) (by unfold maxLen; omega) (by omega) (by simp; omega) ?_
    intro v' w' h2 h3 h5
    have hput := hfs2.put (W' := w') (pv' := v') (N' := N + 1) ⟨_, h2⟩ ⟨h3.os, h3.tape, h3.output, Nat.le_trans (by simp) h3.size, fun b hb hne => (h3.block b (by simp; omega) hne).trans (Below.heap_alloc w2 _ b hb)⟩ (fun b hb => by rcases h5 with h5 | h5; exact .inl (h5 ▸ hb); exact .inr (by rw [h5] at hb; injection hb with hb; simp at hb; omega))
    have hob' : ∀ b, v'.ownBlock = some b → (Value.slice Ap N cp).ownBlock = some b ∨ W.heap.size ≤ b := fun b hb => by
      have := b2.size
      rcases h5 with h5 | h5
      · exact .inl (h5 ▸ hb)
      · exact .inr (by rw [h5] at hb; injection hb with hb; simp at hb; omega)
    have hch : Chg (fun b => b = fb ∨ (Value.slice Ap N cp).ownBlock = some b) W (w'.setCell ⟨fb, 0, none⟩ v') := (((Chg.of_below b2).alloc _).trans2 (Chg.row h3) (fun b _ h => .inr h)).setCell (.inl (.inl rfl)) _
    have hbx := (h3.block _ (by have := blk_lt hfs2.box; simp; omega) (fun e => hfs2.ne e.symm)).trans (blk_al hfs2.box _)
    have hy0 : w'.cell? ⟨fb, 0, none⟩ = some (.slice Ap N cp) := cell_of_blk hbx rfl
    have hy1 : w'.frozen? ⟨fb, 0, none⟩ = false := frozen_of_blk hbx
    obtain ⟨g8, cap8, rfl⟩ := ownsRow_succ h2
    have HP := Lib.hid hput
    have HO := Lib.hid hob'
    have HCH := Lib.hid hch
    clear hput hob' hch hbx h2 h3 h5 hrow hfs2
    refine hK.out _ _ trivial ?_
    clear hK K
    (try simp only [Act.put, List.getElem_toArray, List.getElem_cons_succ, List.getElem_cons_zero, List.setIfInBounds_toArray, List.set_cons_zero, List.set_cons_succ])
    refine wpG_past (i := 9) (by kernel_rfl) rfl (by kernel_rfl) (fun K hK => ?_)
    (try simp only [List.getElem_toArray, List.getElem_cons_succ, List.getElem_cons_zero])
    go_simp
    refine hK.out _ _ trivial ?_
    clear hK K
    (try simp only [Act.put, List.getElem_toArray, List.getElem_cons_succ, List.getElem_cons_zero, List.setIfInBounds_toArray, List.set_cons_zero, List.set_cons_succ])
    refine wpG_done (by kernel_rfl) ?_
    refine NoPanic.normal ?_
    go_wp2_with fail
    go_end0
    exact ⟨⟨_, rfl⟩, _, HP.out, HO.out, HCH.out⟩

end Go.Proofs.Ytldcjboignbfpaa

/-
  The closures that scope.Check hands to scope.visit: each adds a fault if there is an error.
-/
namespace Go.Proofs.Ytldcjboignbfpaa
open Go Go.RowKit

/-- A function value that adds a fault; what it reads: Rd. -/
structure RepC (f : FuncId) (cap : Array Value) (Rd : World → Prop) (n0 fb : Nat) : Prop where
  fn : ∃ fn, IsFn Try.prog f fn
  keep : ∀ W W' pv N, Rd W → FS W n0 fb N pv → Chg (fun b => b = fb ∨ pv.ownBlock = some b) W W' → Rd W'
  call : ∀ (N : Nat) (pv : Value) (er : Int) (q : List Int) (A : Option Addr) (c : Nat) (s : ByteArray) (S : Nat → Prop) (W : World), Rd W → FS W n0 fb N pv → RowI W S A q → q.length ≤ 100000 → N ≤ 1000000 →
    Calls Try.prog f (#[.slice A q.length c, .string s, .int .i64 er] ++ cap) W (RepP W n0 fb pv (N + one1 er))

/-- A box of another type is none of the list's blocks. -/
theorem FS.other {W : World} {n0 fb N : Nat} {pv : Value} {b : Nat} {cs : Array Value} {E : TypeId} (h : FS W n0 fb N pv) (hb : W.heap[b]? = some (.cells cs E (0, 0))) (h1 : E ≠ 48) (h2 : E ≠ 66) : ¬ (b = fb ∨ pv.ownBlock = some b) := by
  rintro (rfl | ho)
  · have := h.box
    rw [hb] at this
    injection this with this
    injection this with _ e
    exact h1 e
  · obtain ⟨xs, e1, h2'⟩ := h.row
    rcases h2' with ⟨rfl, _⟩ | ⟨g, cap, cur, rfl, _, hg, _⟩
    · simp [Value.ownBlock] at ho
    · simp [Value.ownBlock] at ho
      subst ho
      rw [hb] at hg
      injection hg with hg
      injection hg with _ e
      exact h2 e

theorem fnChk2 : IsFn Try.prog 55 Try.f55 := ⟨Try.func55, by kernel_rfl, by kernel_rfl⟩
theorem fnChk3 : IsFn Try.prog 56 Try.f56 := ⟨Try.func56, by kernel_rfl, by kernel_rfl⟩

set_option maxHeartbeats 2000000 in
theorem Chk2_rep (n0 fb rb ib : Nat) (k : Int) : RepC 55 #[.pointer (some ⟨rb, 0, none⟩), .pointer (some ⟨ib, 0, none⟩)]
    (fun W => W.heap[rb]? = some (.cells #[.func (.func 51) #[] #[.pointer (some ⟨fb, 0, none⟩)]] 67 (0, 0)) ∧ W.heap[ib]? = some (.cells #[.int .i64 k] 3 (0, 0))) n0 fb where
  fn := ⟨_, fnChk2⟩
  keep W W' pv N h hfs hc := ⟨hc.keep h.1 (hfs.other h.1 (by decide) (by decide)), hc.keep h.2 (hfs.other h.2 (by decide) (by decide))⟩
  call N pv er q A c s S W h hfs hq hql hN := by
    have x0 : W.cell? ⟨rb, 0, none⟩ = some (.func (.func 51) #[] #[.pointer (some ⟨fb, 0, none⟩)]) := cell_of_blk h.1 rfl
    have x1 : W.cell? ⟨ib, 0, none⟩ = some (.int .i64 k) := cell_of_blk h.2 rfl
    have HC := Lib.hid (report_any n0 fb N pv k er q A c s S W hfs hq hql hN)
    clear h hfs hq
    show Calls Try.prog 55 #[.slice A q.length c, .string s, .int .i64 er, .pointer (some ⟨rb, 0, none⟩), .pointer (some ⟨ib, 0, none⟩)] W _
    go_enter Try.func55, Try.ntmps55
    go_wp2_with fail
    refine HC.out.mono ?_
    rintro e W' ⟨⟨v, rfl⟩, hp⟩
    have HP := Lib.hid hp
    clear hp
    go_wp2_with fail
    go_end0
    exact ⟨⟨_, rfl⟩, HP.out⟩

set_option maxHeartbeats 2000000 in
theorem Chk3_rep (n0 fb rb pb : Nat) (A1 : Option Addr) (l1 c1 : Nat) (A2 : Option Addr) (l2 c2 : Nat) (k n : Int) (sn : ByteArray) (A3 : Option Addr) (l3 c3 : Nat) : RepC 56 #[.pointer (some ⟨rb, 0, none⟩), .pointer (some ⟨pb, 0, none⟩)]
    (fun W => W.heap[rb]? = some (.cells #[.func (.func 51) #[] #[.pointer (some ⟨fb, 0, none⟩)]] 67 (0, 0)) ∧ W.heap[pb]? = some (.cells #[.slice A1 l1 c1, .slice A2 l2 c2, .int .u8 k, .int .i64 n, .string sn, .slice A3 l3 c3] 38 (0, 0))) n0 fb where
  fn := ⟨_, fnChk3⟩
  keep W W' pv N h hfs hc := ⟨hc.keep h.1 (hfs.other h.1 (by decide) (by decide)), hc.keep h.2 (hfs.other h.2 (by decide) (by decide))⟩
  call N pv er q A c s S W h hfs hq hql hN := by
    have x0 : W.cell? ⟨rb, 0, none⟩ = some (.func (.func 51) #[] #[.pointer (some ⟨fb, 0, none⟩)]) := cell_of_blk h.1 rfl
    have x1 : W.cell? ⟨pb, 1, none⟩ = some (.slice A2 l2 c2) := cell_of_blk h.2 rfl
    have HC := Lib.hid (report_any n0 fb N pv l2 er q A c s S W hfs hq hql hN)
    clear h hfs hq
    show Calls Try.prog 56 #[.slice A q.length c, .string s, .int .i64 er, .pointer (some ⟨rb, 0, none⟩), .pointer (some ⟨pb, 0, none⟩)] W _
    go_enter Try.func56, Try.ntmps56
    go_wp2_with fail
    refine HC.out.mono ?_
    rintro e W' ⟨⟨v, rfl⟩, hp⟩
    have HP := Lib.hid hp
    clear hp
    go_wp2_with fail
    go_end0
    exact ⟨⟨_, rfl⟩, HP.out⟩

/-- A call of a function value, as one step of a region that draws its order. -/
theorem step_callv {P : Program} {ops : Array Oper} {o : Oper} {a : Act} {w : World} {K : Act → World → Prop} {Q : Exit → Act → World → Prop} {F : Prop} (hgd : o.guard = none) (x : Operand) (xs : Array Operand) (ats : Array TypeId)
    (ho : o.op = .call { callee := .value x, args := xs, argTypes := ats }) (f : FuncId) (fn : Func) (hf : IsFn P f fn) (cap : Array Value) (hv : a.eval x = .func (.func f) #[] cap) (args : Array Value) (hargs : xs.map a.eval ++ cap = args) (R : Value → World → Prop)
    (hc : Calls P f args w fun e w' => ∃ v, e = .returned v ∧ R v w') (h : ∀ v w', R v w' → K (a.put o.dst v) w') :
    if Region.wanted o (yielded ops a.tmps) = true then Oper.wp P o a w K Q else F := by
  have hw : Region.wanted o (yielded ops a.tmps) = true := by simp [Region.wanted, hgd]
  rw [if_pos hw]
  subst hargs
  have e : (execOp a.eval o).run P w = .ok (.enter f (xs.map a.eval ++ cap)) w := by
    unfold execOp
    simp only [ho, resolve, hv, Deferred.ofValue, Sem.run_bind, Sem.run_pure, Result.andThen_ok, invoke, run_callFunc hf, Array.empty_append]
  unfold Oper.wp
  rw [e, Oper.upon_enter]
  refine hc.mono ?_
  rintro e w' ⟨v, rfl, hR⟩
  exact h v w' hR

end Go.Proofs.Ytldcjboignbfpaa
