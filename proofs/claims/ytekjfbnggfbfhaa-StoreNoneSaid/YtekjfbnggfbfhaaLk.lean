/-
  The store, plainly: a call that fails leaves the store as it was; how long the frames grow.
-/
import Derived.Test.YtekjfbnggfbfhaaSk
import Derived.Test.YtekjfbnggfbfhaaAv
namespace Go.Proofs.Ytekjfbnggfbfhaa
open Go Go.RowKit

theorem moveE_no (S : ST) (k : Int) (id i sid : Nat) : (moveE S k id i sid).1 ≠ 0 → (moveE S k id i sid).2 = S := by
  unfold moveE
  repeat' split
  all_goals first | (intro _; rfl) | (intro h; exact absurd rfl h)
theorem transE_no (S : ST) (k : Int) (id i : Nat) : (transE S k id i).1 ≠ 0 → (transE S k id i).2 = S := by
  unfold transE
  repeat' split
  all_goals first | (intro _; rfl) | (intro h; exact absurd rfl h)
theorem exec3_no (S : ST) (k : Int) (s qs : ByteArray) (r2 : Int) (id i : Nat) : (exec3 S k s qs r2 id i).1 ≠ 0 → (exec3 S k s qs r2 id i).2 = S := by
  unfold exec3
  repeat' split
  all_goals first | exact moveE_no _ _ _ _ _ | exact transE_no _ _ _ _ | (intro _; rfl) | (intro h; exact absurd rfl h)
theorem exec2_no (S : ST) (k : Int) (s ps qs : ByteArray) (r1 : Int) (r2 : Int × Int) : (exec2 S k s ps qs r1 r2).1 ≠ 0 → (exec2 S k s ps qs r1 r2).2 = S := by
  unfold exec2
  repeat' split
  all_goals first | exact exec3_no _ _ _ _ _ _ _ | (intro _; rfl) | (intro h; exact absurd rfl h)
theorem exec1_no (S : ST) (k : Int) (s : ByteArray) (p q : T) (r1 r2 : Int × Int) : (exec1 S k s p q r1 r2).1 ≠ 0 → (exec1 S k s p q r1 r2).2 = S := by
  obtain ⟨a, b⟩ := r1
  unfold exec1
  dsimp only
  by_cases h : b ≠ 0
  · rw [if_pos h]; intro _; rfl
  · rw [if_neg h]; exact exec2_no _ _ _ _ _ _ _
theorem execE_no (S : ST) (t : T) : (execE S t).1 ≠ 0 → (execE S t).2 = S := by
  obtain ⟨k, n, s, ks⟩ := t
  exact exec1_no _ _ _ _ _ _ _
theorem doE_no (S : ST) (t : T) : (doE S t).1 ≠ 0 → (doE S t).2 = S := by
  unfold doE
  repeat' split
  all_goals first | exact execE_no _ _ | (intro _; rfl)
theorem undoE_no (S : ST) (t : T) : (undoE S t).1 ≠ 0 → (undoE S t).2 = S := by
  obtain ⟨k, n, s, ks⟩ := t
  exact doE_no _ _
theorem openE_no (S : ST) (v : VD) (x : Int) : (openE S v x).1 ≠ 0 → (openE S v x).2 = S := by
  unfold openE
  repeat' split
  all_goals first | (intro _; rfl) | (intro h; exact absurd rfl h)
theorem closeE_no (S : ST) (s : ByteArray) (x : Int) : (closeE S s x).1 ≠ 0 → (closeE S s x).2 = S := by
  unfold closeE
  repeat' split
  all_goals first | (intro _; rfl) | (intro h; exact absurd rfl h)
theorem enterE_no (S : ST) (ps : List VD) (ss : List ByteArray) : (enterE S ps ss).1 ≠ 0 → (enterE S ps ss).2 = S := by
  unfold enterE
  split
  · intro _; rfl
  · rcases entL S.cur ⟨[], [], 0⟩ (ps.zip ss) with e | f
    · intro _; rfl
    · unfold entR
      dsimp only
      split
      · intro _; rfl
      · intro h; exact absurd rfl h
theorem leaveE_no (S : ST) : (leaveE S).1 ≠ 0 → (leaveE S).2 = S := by
  unfold leaveE
  split
  · intro _; rfl
  · intro h; exact absurd rfl h

/-- The frames stay as they are. -/
def FrK (S S' : ST) : Prop := S'.base = S.base ∧ S'.calls = S.calls ∧ S'.nc = S.nc
theorem moveE_fr (S : ST) (k : Int) (id i sid : Nat) : FrK S (moveE S k id i sid).2 := by
  unfold moveE
  repeat' split
  all_goals exact ⟨rfl, rfl, rfl⟩
theorem transE_fr (S : ST) (k : Int) (id i : Nat) : FrK S (transE S k id i).2 := by
  unfold transE
  repeat' split
  all_goals exact ⟨rfl, rfl, rfl⟩
theorem exec3_fr (S : ST) (k : Int) (s qs : ByteArray) (r2 : Int) (id i : Nat) : FrK S (exec3 S k s qs r2 id i).2 := by
  unfold exec3
  repeat' split
  all_goals first | exact moveE_fr _ _ _ _ _ | exact transE_fr _ _ _ _ | exact ⟨rfl, rfl, rfl⟩
theorem exec2_fr (S : ST) (k : Int) (s ps qs : ByteArray) (r1 : Int) (r2 : Int × Int) : FrK S (exec2 S k s ps qs r1 r2).2 := by
  unfold exec2
  repeat' split
  all_goals first | exact exec3_fr _ _ _ _ _ _ _ | exact ⟨rfl, rfl, rfl⟩
theorem exec1_fr (S : ST) (k : Int) (s : ByteArray) (p q : T) (r1 r2 : Int × Int) : FrK S (exec1 S k s p q r1 r2).2 := by
  unfold exec1
  by_cases h : r1.2 ≠ 0
  · rw [if_pos h]; exact ⟨rfl, rfl, rfl⟩
  · rw [if_neg h]; exact exec2_fr _ _ _ _ _ _ _
theorem doE_fr (S : ST) (t : T) : FrK S (doE S t).2 := by
  unfold doE
  repeat' split
  all_goals first | exact ⟨rfl, rfl, rfl⟩ | skip
  obtain ⟨k, n, s, ks⟩ := t
  exact exec1_fr _ _ _ _ _ _ _
theorem undoE_fr (S : ST) (t : T) : FrK S (undoE S t).2 := by
  obtain ⟨k, n, s, ks⟩ := t
  exact doE_fr _ _

/-- The most variables that a slice of them can hold. -/
def MV : Nat := 4398046510976
/-- How long the frames are after j calls. -/
def Bnd (m j : Nat) (S : ST) : Prop := S.base.vs.length ≤ m + j ∧ ∀ f ∈ S.calls, f.vs.length ≤ MV + j
theorem Bnd.mono {m j : Nat} {S : ST} (h : Bnd m j S) : Bnd m (j + 1) S := ⟨by have := h.1; omega, fun f hf => by have := h.2 f hf; omega⟩
theorem Bnd.fr {m j : Nat} {S S' : ST} (h : Bnd m j S) (hf : FrK S S') : Bnd m (j + 1) S' := by
  obtain ⟨h1, h2, _⟩ := hf
  unfold Bnd
  rw [h1, h2]
  exact h.mono
theorem Bnd.cur {m j : Nat} {S : ST} (h : Bnd m j S) (hm : m ≤ MV) : S.cur.vs.length ≤ MV + j := by
  rcases Nat.eq_zero_or_pos S.calls.length with h0 | h0
  · rw [cur_0 h0]; have := h.1; omega
  · rw [cur_1 h0]; exact h.2 _ (List.getElem_mem _)
theorem Bnd.setCur {m j : Nat} {S : ST} (h : Bnd m j S) (f : FR) (hf : f.vs.length ≤ S.cur.vs.length + 1) : Bnd m (j + 1) (S.setCur f) := by
  unfold ST.setCur
  by_cases h0 : S.calls.length = 0
  · rw [if_pos h0]
    rw [cur_0 h0] at hf
    exact ⟨by have := h.1; show f.vs.length ≤ _; omega, h.mono.2⟩
  · rw [if_neg h0]
    refine ⟨h.mono.1, fun g hg => ?_⟩
    rw [cur_1 (by omega)] at hf
    rcases List.mem_or_eq_of_mem_set hg with hg | rfl
    · exact h.mono.2 g hg
    · have := h.2 _ (List.getElem_mem (l := S.calls) (n := S.calls.length - 1) (by omega)); omega
theorem entL_len {f : FR} : ∀ (l : List (VD × ByteArray)) (acc g : FR), entL f acc l = .ok g → g.vs.length = acc.vs.length + l.length
  | [], acc, g, h => by rw [entL] at h; injection h with h; subst h; simp
  | (v, a) :: r, acc, g, h => by
    rw [entL] at h
    split at h
    · cases h
    · split at h
      · have := entL_len r _ _ h
        simp at this ⊢
        omega
      · cases h
theorem Bnd.open_ {m j : Nat} {S : ST} (h : Bnd m j S) (v : VD) (x : Int) : Bnd m (j + 1) (openE S v x).2 := by
  unfold openE
  repeat' split
  all_goals first | exact h.mono | exact Bnd.setCur (S := S.newCell _) h _ (by rw [newCell_cur]; simp [FR.push])
theorem Bnd.close_ {m j : Nat} {S : ST} (h : Bnd m j S) (s : ByteArray) (x : Int) : Bnd m (j + 1) (closeE S s x).2 := by
  unfold closeE
  repeat' split
  all_goals first | exact h.mono | skip
  all_goals exact h.setCur _ (by simp [FR.pop]; omega)
theorem Bnd.enter {m j : Nat} {S : ST} (h : Bnd m j S) (ps : List VD) (ss : List ByteArray) (hp : ps.length ≤ MV) : Bnd m (j + 1) (enterE S ps ss).2 := by
  unfold enterE
  split
  · exact h.mono
  · rcases he : entL S.cur ⟨[], [], 0⟩ (ps.zip ss) with e | f
    · exact h.mono
    · unfold entR
      dsimp only
      split
      · exact h.mono
      · refine ⟨h.mono.1, fun g hg => ?_⟩
        rcases List.mem_append.1 hg with hg | hg
        · exact h.mono.2 g hg
        · simp at hg
          subst hg
          have := entL_len _ _ _ he
          simp at this
          omega
theorem Bnd.leave {m j : Nat} {S : ST} (h : Bnd m j S) : Bnd m (j + 1) (leaveE S).2 := by
  unfold leaveE
  split
  · exact h.mono
  · exact ⟨h.mono.1, fun g hg => h.mono.2 g (List.mem_of_mem_take hg)⟩

/-- A step of the laws. -/
structure STP where
  k : Int
  t : T
  v : VD
  x : Int
  ps : List VD
  ss : List ByteArray
/-- law14.one. -/
def oneE (S : ST) (p : STP) : Int × ST :=
  if p.k % 6 = 0 then doE S p.t else if p.k % 6 = 1 then undoE S p.t else if p.k % 6 = 2 then openE S p.v p.x else if p.k % 6 = 3 then closeE S p.v.s p.x else if p.k % 6 = 4 then enterE S p.ps p.ss else leaveE S
theorem oneE_no (S : ST) (p : STP) : (oneE S p).1 ≠ 0 → (oneE S p).2 = S := by
  unfold oneE
  repeat' split
  · exact doE_no _ _
  · exact undoE_no _ _
  · exact openE_no _ _ _
  · exact closeE_no _ _ _
  · exact enterE_no _ _ _
  · exact leaveE_no _
theorem Bnd.one {m j : Nat} {S : ST} (h : Bnd m j S) (p : STP) (hp : p.ps.length ≤ MV) : Bnd m (j + 1) (oneE S p).2 := by
  unfold oneE
  repeat' split
  · exact h.fr (doE_fr _ _)
  · exact h.fr (undoE_fr _ _)
  · exact h.open_ _ _
  · exact h.close_ _ _
  · exact h.enter _ _ hp
  · exact h.leave

end Go.Proofs.Ytekjfbnggfbfhaa

/-
  The laws of the store: one, small; what lies between two calls.
-/
namespace Go.Proofs.Ytekjfbnggfbfhaa
open Go Go.RowKit

theorem DoP_after {W W' : World} {n0 : Nat} {P : Ph} {S : ST} {R : Int × ST} {f : FuncId} {args : Array Value} (h : SR W n0 P S) (hb : Below W.heap.size W W') (hc : Calls Try.prog f args W' (DoP n0 P S W' R)) : Calls Try.prog f args W' (DoP n0 P S W R) := by
  refine hc.mono ?_
  rintro e W2 ⟨a1, P', a2, a3⟩
  exact ⟨a1, P', ⟨a2.st.after hb h.rws, a2.wf⟩, a3⟩

theorem box3o {w : World} {b : Nat} {E : TypeId} {u0 u1 u2 : Value} (h : w.heap[b]? = some (.cells #[u0, u1, u2] E (0, 0))) : w.cell? ⟨b, 0, none⟩ = some u0 ∧ w.cell? ⟨b, 1, none⟩ = some u1 ∧ w.cell? ⟨b, 2, none⟩ = some u2 :=
  ⟨cell_of_blk h rfl, cell_of_blk h rfl, cell_of_blk h rfl⟩

set_option maxHeartbeats 4000000 in
set_option maxRecDepth 100000 in
theorem one_any {W : World} {n0 : Nat} {P : Ph} {S : ST} (h : SR W n0 P S) (k : Int) (hk : 0 ≤ k ∧ k < 256) (t : T) (v : VD) (x : Int) (ps : List VD) (ss : List ByteArray) (A1 A2 A3 : Option Addr) (c1 c2 c3 : Nat)
    (hn : NV W Any t (nv t.k t.n t.s A1 t.ks.length c1)) (hfv : FldV v) (hx : I64 x) (hp : RowV W Any A2 ps) (hs : RowS W A3 ss) (hlp : ps.length ≤ 4398046510976) (hls : ss.length ≤ 17592186044416) (hlim : S.cur.vs.length + 1 ≤ 4398046511000) :
    Calls Try.prog 26 #[.pointer (some ⟨P.sb, 0, none⟩), .agg #[.int .u8 k, .int .u8 t.k, .int .i64 t.n, .string t.s, .slice A1 t.ks.length c1, .string v.s, .int .u8 v.k, .int .i64 v.n, .int .i64 x, .slice A2 ps.length c2, .slice A3 ss.length c3]] W (DoP n0 P S W (oneE S ⟨k, t, v, x, ps, ss⟩)) := by
  have hb0 := bl_al (Below.refl W.heap.size W) (.cells #[.int .u8 k, .int .u8 t.k, .int .i64 t.n, .string t.s, .slice A1 t.ks.length c1, .string v.s, .int .u8 v.k, .int .i64 v.n, .int .i64 x, .slice A2 ps.length c2, .slice A3 ss.length c3] 63)
  have hlp' : ps.length ≤ 4398046511000 := by omega
  obtain ⟨q, hq, hqe, hq6⟩ : ∃ q : Int, k.tmod 6 = q ∧ k % 6 = q ∧ (q = 0 ∨ q = 1 ∨ q = 2 ∨ q = 3 ∨ q = 4 ∨ q = 5) := ⟨k % 6, by rw [Int.tmod_eq_emod_of_nonneg hk.1], rfl, by omega⟩
  rcases hq6 with rfl | rfl | rfl | rfl | rfl | rfl
  · have hm : k.tmod 6 = 0 := hq
    have hE : oneE S ⟨k, t, v, x, ps, ss⟩ = doE S t := by
      unfold oneE
      simp [hqe]
    rw [hE]
    have HX := Lib.hid (DoP_after h hb0 (Do_any (h.later hb0) t _ (hn.later hb0)))
    clear h hn hp hs hb0 hqe hq hE
    go_enter Try.func26, Try.ntmps26
    go_wp2_with fail
    refine HX.out.mono ?_
    rintro e w1 ⟨rfl, hh⟩
    have HH := Lib.hid hh
    clear hh
    go_wp2_with fail
    go_ret
    exact ⟨rfl, HH.out⟩
  · have hm : k.tmod 6 = 1 := hq
    have hE : oneE S ⟨k, t, v, x, ps, ss⟩ = undoE S t := by
      unfold oneE
      simp [hqe]
    rw [hE]
    have HX := Lib.hid (DoP_after h hb0 (Undo_any (h.later hb0) t _ (hn.later hb0)))
    clear h hn hp hs hb0 hqe hq hE
    go_enter Try.func26, Try.ntmps26
    go_wp2_with fail
    refine HX.out.mono ?_
    rintro e w1 ⟨rfl, hh⟩
    have HH := Lib.hid hh
    clear hh
    go_wp2_with fail
    go_ret
    exact ⟨rfl, HH.out⟩
  · have hm : k.tmod 6 = 2 := hq
    have hE : oneE S ⟨k, t, v, x, ps, ss⟩ = openE S v x := by
      unfold oneE
      simp [hqe]
    rw [hE]
    have HX := Lib.hid (DoP_after h hb0 (Open_any (h.later hb0) v hfv x hx hlim))
    clear h hn hp hs hb0 hqe hq hE
    go_enter Try.func26, Try.ntmps26
    go_wp2_with fail
    refine HX.out.mono ?_
    rintro e w1 ⟨rfl, hh⟩
    have HH := Lib.hid hh
    clear hh
    go_wp2_with fail
    go_ret
    exact ⟨rfl, HH.out⟩
  · have hm : k.tmod 6 = 3 := hq
    have hE : oneE S ⟨k, t, v, x, ps, ss⟩ = closeE S v.s x := by
      unfold oneE
      simp [hqe]
    rw [hE]
    have HX := Lib.hid (DoP_after h hb0 (Close_any (h.later hb0) v.s x))
    clear h hn hp hs hb0 hqe hq hE
    go_enter Try.func26, Try.ntmps26
    go_wp2_with fail
    refine HX.out.mono ?_
    rintro e w1 ⟨rfl, hh⟩
    have HH := Lib.hid hh
    clear hh
    go_wp2_with fail
    go_ret
    exact ⟨rfl, HH.out⟩
  · have hm : k.tmod 6 = 4 := hq
    have hE : oneE S ⟨k, t, v, x, ps, ss⟩ = enterE S ps ss := by
      unfold oneE
      simp [hqe]
    rw [hE]
    have HX := Lib.hid (DoP_after h hb0 (Enter_any (h.later hb0) ps ss A2 A3 c2 c3 (hp.later hb0) (hs.later hb0) hlp' hls))
    clear h hn hp hs hb0 hqe hq hE
    go_enter Try.func26, Try.ntmps26
    go_wp2_with fail
    refine HX.out.mono ?_
    rintro e w1 ⟨rfl, hh⟩
    have HH := Lib.hid hh
    clear hh
    go_wp2_with fail
    go_ret
    exact ⟨rfl, HH.out⟩
  · have hm : k.tmod 6 = 5 := hq
    have hE : oneE S ⟨k, t, v, x, ps, ss⟩ = leaveE S := by
      unfold oneE
      simp [hqe]
    rw [hE]
    have HX := Lib.hid (DoP_after h hb0 (Leave_any (h.later hb0)))
    clear h hn hp hs hb0 hqe hq hE
    go_enter Try.func26, Try.ntmps26
    go_wp2_with fail
    refine HX.out.mono ?_
    rintro e w1 ⟨rfl, hh⟩
    have HH := Lib.hid hh
    clear hh
    go_wp2_with fail
    go_ret
    exact ⟨rfl, HH.out⟩

/-- law14.small. -/
def smlB (vs : List VD) (s : SS) : Int := if 12 < vs.length ∨ 12 < s.cells.length ∨ 60 < s.tin.length ∨ 60 < s.tout.length then 0 else if s.cells.all (fun l => decide (l.length ≤ 60)) = true then 1 else 0

set_option maxHeartbeats 4000000 in
set_option maxRecDepth 100000 in
theorem lsmall_any (vs : List VD) (s : SS) (A0 : Option Addr) (c0 : Nat) (v : Value) (w : World) (hl : vs.length ≤ LV) (hv : SV w Any s v) : Calls Try.prog 14 #[.slice A0 vs.length c0, v] w fun e w' => e = .returned (.int .i64 (smlB vs s)) ∧ Below w.heap.size w w' := by
  obtain ⟨A, c, B, d, D, e, rfl, hr1, hr2, hr3, hc1, hc2, hc3, hl1, hl2, hl3, hl4⟩ := hv
  have hl' := LV_int hl
  obtain ⟨R, hR⟩ : ∃ R, smlB vs s = R := ⟨_, rfl⟩
  rw [hR]
  have HR := Lib.hid hR
  obtain ⟨n1, hn1⟩ : ∃ n, vs.length = n := ⟨_, rfl⟩
  obtain ⟨n2, hn2⟩ : ∃ n, s.cells.length = n := ⟨_, rfl⟩
  obtain ⟨n3, hn3⟩ : ∃ n, s.tin.length = n := ⟨_, rfl⟩
  obtain ⟨n4, hn4⟩ : ∃ n, s.tout.length = n := ⟨_, rfl⟩
  have HR1 := Lib.hid (show R = if 12 < n1 ∨ 12 < n2 ∨ 60 < n3 ∨ 60 < n4 then 0 else if s.cells.all (fun l => decide (l.length ≤ 60)) = true then 1 else 0 by rw [← hR, smlB, hn1, hn2, hn3, hn4])
  have HROW := Lib.hid (hr1.later (bl_al (Below.refl w.heap.size w) (.cells #[.slice A s.cells.length c, .slice B s.tin.length d, .slice D s.tout.length e] 29)))
  have HLL := Lib.hid hl2
  have HN2 := Lib.hid hn2
  rw [hn1, hn2, hn3, hn4]
  rw [hn1] at hl'
  rw [hn2] at HROW
  rw [hn3, hn4] at HROW
  unfold LI at hl1 hl3 hl4
  rw [hn2] at hl1
  rw [hn3] at hl3
  rw [hn4] at hl4
  clear hr1 hr2 hr3 hc1 hc2 hc3 hl2 hl hR hn1 hn2 hn3 hn4
  by_cases hbig : 12 < n1 ∨ 12 < n2 ∨ 60 < n3 ∨ 60 < n4
  · have HX := Lib.hid (show R = 0 by rw [HR1.out, if_pos hbig])
    by_cases g1 : 12 < n1
    · have k1 : (12 : Int) < (n1 : Int) := by omega
      clear hbig
      go_enter Try.func14, Try.ntmps14
      go_wp2_with fail
      go_ret
      exact ⟨by rw [HX.out]; rfl, bl_al (Below.refl _ _) _⟩
    · have k1 : ¬ (12 : Int) < (n1 : Int) := by omega
      by_cases g2 : 12 < n2
      · have k2 : (12 : Int) < (n2 : Int) := by omega
        clear hbig
        go_enter Try.func14, Try.ntmps14
        go_wp2_with fail
        go_ret
        exact ⟨by rw [HX.out]; rfl, bl_al (Below.refl _ _) _⟩
      · have k2 : ¬ (12 : Int) < (n2 : Int) := by omega
        by_cases g3 : 60 < n3
        · have k3 : (60 : Int) < (n3 : Int) := by omega
          clear hbig
          go_enter Try.func14, Try.ntmps14
          go_wp2_with fail
          go_ret
          exact ⟨by rw [HX.out]; rfl, bl_al (Below.refl _ _) _⟩
        · have k3 : ¬ (60 : Int) < (n3 : Int) := by omega
          have k4 : (60 : Int) < (n4 : Int) := by omega
          clear hbig
          go_enter Try.func14, Try.ntmps14
          go_wp2_with fail
          go_ret
          exact ⟨by rw [HX.out]; rfl, bl_al (Below.refl _ _) _⟩
  · have HX := Lib.hid (show R = if s.cells.all (fun l => decide (l.length ≤ 60)) = true then 1 else 0 by rw [HR1.out, if_neg hbig])
    have k1 : ¬ (12 : Int) < (n1 : Int) := by omega
    have k2 : ¬ (12 : Int) < (n2 : Int) := by omega
    have k3 : ¬ (60 : Int) < (n3 : Int) := by omega
    have k4 : ¬ (60 : Int) < (n4 : Int) := by omega
    have hn2' : n2 ≤ 12 := by omega
    clear hbig
    go_enter Try.func14, Try.ntmps14
    go_wp2_with fail
    have HB := Lib.hid (bl_al (Below.refl w.heap.size w) (.cells #[.slice A n2 c, .slice B n3 d, .slice D n4 e] 29))
    obtain ⟨c0', c1', c2'⟩ := box3o (heap_alloc_new w (.cells #[.slice A n2 c, .slice B n3 d, .slice D n4 e] 29))
    obtain ⟨W0, hW0⟩ : ∃ x, w.alloc (.cells #[.slice A n2 c, .slice B n3 d, .slice D n4 e] 29) = x := ⟨_, rfl⟩
    rw [hW0] at HB c0' c1' c2' HROW ⊢
    clear hW0
    go_loopw [5] (fun i wr => ∃ j : Nat, j ≤ n2 ∧ i = .int .i64 j ∧ wr = W0 ∧ Hid ((s.cells.take j).all (fun l => decide (l.length ≤ 60)) = true)) (fun i _ => n2 - (intOf i).toNat)
    case atStart => exact ⟨0, Nat.zero_le _, rfl, rfl, Lib.hid rfl⟩
    case round =>
      obtain ⟨j, hj, rfl, rfl, HJ⟩ := hrel
      by_cases hlt : j < n2
      · have hlt' : j < s.cells.length := by rw [HN2.out]; exact hlt
        obtain ⟨a, l, A', c', rfl, Hl, y0, _, hrl⟩ := HROW.out.nd hlt'
        have hll : l.length ≤ LI := by rw [← Hl.out]; exact HLL.out _ (List.getElem_mem hlt')
        unfold LI at hll
        have hj1 : (j : Int) < (n2 : Int) := by omega
        have htk : s.cells.take (j + 1) = s.cells.take j ++ [l] := by rw [List.take_succ_eq_append_getElem hlt', Hl.out]
        by_cases hbl : 60 < l.length
        · have kb : (60 : Int) < (l.length : Int) := by omega
          have HF := Lib.hid (show R = 0 by
            rw [HX.out, if_neg]
            intro hall
            have := List.all_eq_true.1 hall l (by rw [← Hl.out]; exact List.getElem_mem hlt')
            simp at this
            omega)
          clear hrl htk hbl
          go_wp2_with fail
          go_ret
          exact ⟨by rw [HF.out]; rfl, HB.out⟩
        · have kb : ¬ (60 : Int) < (l.length : Int) := by omega
          have HJ2 := Lib.hid (show (s.cells.take (j + 1)).all (fun l => decide (l.length ≤ 60)) = true by
            rw [htk, List.all_append, HJ.out]
            simp
            omega)
          clear hrl htk hbl
          go_wp2_with fail
          go_roundw
          case rel => exact ⟨j + 1, by omega, by go_num, by first | rfl | trivial, HJ2⟩
          case measure => simp [intOf]; omega
      · obtain rfl : j = n2 := by omega
        have hj1 : ¬ (j : Int) < (j : Int) := by omega
        have HF := Lib.hid (show R = 1 by
          have := HJ.out
          rw [List.take_of_length_le (by rw [HN2.out]; exact Nat.le_refl _)] at this
          rw [HX.out, if_pos this])
        go_wp2_with fail
        go_ret
        exact ⟨by rw [HF.out]; rfl, HB.out⟩

end Go.Proofs.Ytekjfbnggfbfhaa

/-
  The laws of the store: what is kept between two calls; rows of steps.
-/
namespace Go.Proofs.Ytekjfbnggfbfhaa
open Go Go.RowKit

/-- The eleven cells of a step at address p. -/
abbrev St11 (w : World) (p : Addr) (q : STP) (A1 : Option Addr) (c1 : Nat) (A2 : Option Addr) (c2 : Nat) (A3 : Option Addr) (c3 : Nat) : Prop :=
  w.cell? p = some (.int .u8 q.k) ∧ w.cell? ⟨p.block, p.off + 1, none⟩ = some (.int .u8 q.t.k) ∧ w.cell? ⟨p.block, p.off + 2, none⟩ = some (.int .i64 q.t.n) ∧ w.cell? ⟨p.block, p.off + 3, none⟩ = some (.string q.t.s) ∧ w.cell? ⟨p.block, p.off + 4, none⟩ = some (.slice A1 q.t.ks.length c1) ∧
  w.cell? ⟨p.block, p.off + 5, none⟩ = some (.string q.v.s) ∧ w.cell? ⟨p.block, p.off + 6, none⟩ = some (.int .u8 q.v.k) ∧ w.cell? ⟨p.block, p.off + 7, none⟩ = some (.int .i64 q.v.n) ∧ w.cell? ⟨p.block, p.off + 8, none⟩ = some (.int .i64 q.x) ∧
  w.cell? ⟨p.block, p.off + 9, none⟩ = some (.slice A2 q.ps.length c2) ∧ w.cell? ⟨p.block, p.off + 10, none⟩ = some (.slice A3 q.ss.length c3)
/-- What the parts of a step lead to. -/
structure StF (w : World) (q : STP) (A1 : Option Addr) (c1 : Nat) (A2 : Option Addr) (A3 : Option Addr) : Prop where
  hk : 0 ≤ q.k ∧ q.k < 256
  hn : NV w Any q.t (nv q.t.k q.t.n q.t.s A1 q.t.ks.length c1)
  hf : FldV q.v
  hx : I64 q.x
  hp : RowV w Any A2 q.ps
  hs : RowS w A3 q.ss
  lp : q.ps.length ≤ 4398046510976
  ls : q.ss.length ≤ 17592186044416
/-- The slice address A leads to the steps ps. -/
def RowT (w : World) (A : Option Addr) (ps : List STP) : Prop :=
  ∀ i (hi : i < ps.length), ∃ (a : Addr) (A1 : Option Addr) (c1 : Nat) (A2 : Option Addr) (c2 : Nat) (A3 : Option Addr) (c3 : Nat), A = some a ∧ St11 w (a.add (i * 11)) ps[i] A1 c1 A2 c2 A3 c3 ∧ StF w ps[i] A1 c1 A2 A3
section
variable {w w' : World}
theorem StF.later {q : STP} {A1 A2 A3 : Option Addr} {c1 : Nat} (h : StF w q A1 c1 A2 A3) (hb : Below w.heap.size w w') : StF w' q A1 c1 A2 A3 :=
  ⟨h.hk, h.hn.later hb, h.hf, h.hx, h.hp.later hb, h.hs.later hb, h.lp, h.ls⟩
theorem RowT.nd {A : Option Addr} {ps : List STP} (h : RowT w A ps) (hb : Below w.heap.size w w') {i : Nat} (hi : i < ps.length) :
    ∃ (a : Addr) (q : STP) (A1 : Option Addr) (c1 : Nat) (A2 : Option Addr) (c2 : Nat) (A3 : Option Addr) (c3 : Nat), A = some a ∧ Hid (ps[i] = q) ∧ St11 w' (a.add (i * 11)) q A1 c1 A2 c2 A3 c3 ∧ StF w' q A1 c1 A2 A3 := by
  obtain ⟨a, A1, c1, A2, c2, A3, c3, h1, ⟨y0, y1, y2, y3, y4, y5, y6, y7, y8, y9, y10⟩, h3⟩ := h i hi
  exact ⟨a, ps[i], A1, c1, A2, c2, A3, c3, h1, rfl, ⟨cell_bl hb y0, cell_bl hb y1, cell_bl hb y2, cell_bl hb y3, cell_bl hb y4, cell_bl hb y5, cell_bl hb y6, cell_bl hb y7, cell_bl hb y8, cell_bl hb y9, cell_bl hb y10⟩, h3.later hb⟩
end

/-- A state of its own reads as the state, in its own blocks. -/
theorem row_IR {W : World} {n0 : Nat} {E : TypeId} {v : Value} {l : List Int} (h : W.ownsRow n0 E 1 v l.length (flatI l)) (hf : ∀ x ∈ l, I64 x) : ∃ A c, v = .slice A l.length c ∧ l.length ≤ c ∧ RowI W (fun b => n0 ≤ b) A l := by
  obtain ⟨A, c, e, hc, hr⟩ := ownsRow_rowI (xs := l) h hf
  exact ⟨A, c, e, hc, hr.keep (fun b hb _ => (h.lt b hb).1) (fun _ _ _ => rfl)⟩
theorem OwnS.svR {W : World} {n0 : Nat} {s : SS} {v : Value} (h : OwnS W n0 s v) (hl : s.Lim) : SV W (fun b => n0 ≤ b) s v := by
  obtain ⟨vc, vi, vo, fc, rfl, hr, h1, h2, h3⟩ := h
  obtain ⟨AI, cI, e2, k2, r2⟩ := row_IR (hr.row .inp) h2
  obtain ⟨AO, cO, e3, k3, r3⟩ := row_IR (hr.row .out) h3
  change vi = _ at e2
  change vo = _ at e3
  have key : ∃ A c, vc = .slice A s.cells.length c ∧ s.cells.length ≤ c ∧ RowII W (fun b => n0 ≤ b) A s.cells := by
    rcases Nat.eq_zero_or_pos s.cells.length with h0 | h0
    · obtain ⟨A, c, e1, hc, _⟩ := row_slice (hr.row .all)
      exact ⟨A, c, e1, hc, fun i hi => by omega⟩
    · obtain ⟨g, c, e1, hc, _, hcell⟩ := row_some (hr.row .all) h0
      change vc = _ at e1
      have hg : n0 ≤ g := (hr.lt .all g (by show vc.ownBlock = some g; rw [e1]; rfl)).1
      refine ⟨_, c, e1, hc, fun i hi => ?_⟩
      have hri := hr.row (.el i)
      simp only [rowsS, hi, if_true, List.getD_eq_getElem?_getD, List.getElem?_eq_getElem hi, Option.getD_some] at hri
      obtain ⟨A', c', e4, k4, r4⟩ := row_IR hri (h1 _ (List.getElem_mem hi))
      have ha : (⟨g, 0, none⟩ : Addr).add i = ⟨g, i, none⟩ := by rw [Addr.add_lit, Nat.zero_add]
      refine ⟨⟨g, 0, none⟩, A', c', rfl, hg, ?_, k4, r4⟩
      rw [ha, ← e4, hcell i (by show i < s.cells.length * 1; omega)]
      simp [rowsS, hi]
  obtain ⟨A, c, e1, k1, r1⟩ := key
  exact ⟨A, c, AI, cI, AO, cO, by rw [e1, e2, e3], r1, r2, r3, k1, k2, k3, hl⟩
/-- A state that a store does not own, behind a step of the store. -/
theorem SV.stp {W W' : World} {n0 lo : Nat} {P P' : Ph} {S S' : ST} {s : SS} {v : Value} (h : SV W (fun b => lo ≤ b) s v) (hlo : ∀ b, OwnB (rows P S) b → b < lo) (hst : SStp n0 P S W P' S' W') : SV W' (fun b => lo ≤ b) s v :=
  h.keep (fun _ h _ => h) fun b hb hlt => hst.st.chg.block b hlt fun ho => by have := hlo b ho; omega
theorem SV.any {W : World} {S : Nat → Prop} {s : SS} {v : Value} (h : SV W S s v) : SV W Any s v := h.keep (fun _ _ _ => trivial) fun _ _ _ => rfl
theorem SR.n0le {W : World} {n0 : Nat} {P : Ph} {S : ST} (h : SR W n0 P S) : n0 ≤ W.heap.size := by have := h.rws.lt .sb _ rfl; omega
theorem SR.own_lt {W : World} {n0 : Nat} {P : Ph} {S : ST} (h : SR W n0 P S) {b : Nat} (hb : OwnB (rows P S) b) : n0 ≤ b ∧ b < W.heap.size := by
  obtain ⟨q, hq⟩ := hb; exact h.rws.lt q b hq
/-- What a step of a store made behind w leaves of w. -/
theorem SStp.frame {w W W' : World} {n0 : Nat} {P P' : Ph} {S S' : ST} (hst : SStp n0 P S W P' S' W') (hs : SR W n0 P S) (hb : Below w.heap.size w W) (hn : w.heap.size ≤ n0) : Below w.heap.size w W' :=
  hb.trans (hst.st.chg.below (Nat.le_trans hn hs.n0le) fun _ ho => Nat.le_trans hn (hs.own_lt ho).1)
/-- A block that the store does not own, behind a step. -/
theorem SStp.blk {W W' : World} {n0 : Nat} {P P' : Ph} {S S' : ST} {b : Nat} {o : Obj} (hst : SStp n0 P S W P' S' W') (hk : W.heap[b]? = some o) (hno : ¬ OwnB (rows P S) b) : W'.heap[b]? = some o := hst.st.chg.keep hk hno
theorem SStp.no {W W' : World} {n0 : Nat} {P P' : Ph} {S S' : ST} {b : Nat} (hst : SStp n0 P S W P' S' W') (hlt : b < W.heap.size) (hno : ¬ OwnB (rows P S) b) : ¬ OwnB (rows P' S') b := fun ho => by
  rcases hst.st.own _ ho with h | h
  · exact hno h
  · omega

/-- A call that is guarded, and wanted, as one step of a region that draws its order. -/
theorem step_callG {P : Program} {ops : Array Oper} {o : Oper} {a : Act} {w : World} {K : Act → World → Prop} {Q : Exit → Act → World → Prop} {F : Prop} (hw : Region.wanted o (yielded ops a.tmps) = true) (x : Operand) (xs : List Operand) (ats : Array TypeId)
    (ho : o.op = .call { callee := .value x, args := xs.toArray, argTypes := ats }) (f : FuncId) (fn : Func) (hf : IsFn P f fn) (hv : a.eval x = .func (.func f) #[] #[]) (l : List Value) (hargs : xs.map a.eval = l) (R : Value → World → Prop)
    (hc : Calls P f l.toArray w fun e w' => ∃ v, e = .returned v ∧ R v w') (h : ∀ v w', R v w' → K (a.put o.dst v) w') :
    if Region.wanted o (yielded ops a.tmps) = true then Oper.wp P o a w K Q else F := by
  rw [if_pos hw]
  subst hargs
  have e : (execOp a.eval o).run P w = .ok (.enter f (xs.map a.eval).toArray) w := by
    unfold execOp
    simp only [ho, resolve, hv, Deferred.ofValue, Sem.run_bind, Sem.run_pure, Result.andThen_ok, invoke, run_callFunc hf, Array.empty_append, List.map_toArray, Array.append_empty]
  unfold Oper.wp
  rw [e, Oper.upon_enter]
  refine hc.mono ?_
  rintro e w' ⟨v, rfl, hR⟩
  exact h v w' hR

theorem smlB_one {vs : List VD} {s : SS} : smlB vs s = 0 ∨ (smlB vs s = 1 ∧ vs.length ≤ 12 ∧ s.cells.length ≤ 12 ∧ s.tin.length ≤ 60 ∧ s.tout.length ≤ 60 ∧ ∀ l ∈ s.cells, l.length ≤ 60) := by
  unfold smlB
  split
  · exact .inl rfl
  · split
    · rename_i h1 h2
      refine .inr ⟨rfl, by omega, by omega, by omega, by omega, fun l hl => ?_⟩
      have := List.all_eq_true.1 h2 l hl
      simpa using this
    · exact .inl rfl
/-- The state of a new store. -/
theorem newS_state {vs : List VD} {s : SS} (h : fitB vs s = true) : (newS vs s).state = s := by
  have hl : s.cells.length = vs.length := (fitB_all h).2.1
  obtain ⟨c, i, o⟩ := s
  simp only [ST.state, newS, List.length_range, Nat.sub_zero]
  congr 1
  rw [List.take_of_length_le (by simp)]
  refine List.ext_getElem (by simpa using hl.symm) fun j h1 h2 => ?_
  simp at h1 h2
  simp [h2]
theorem Bnd.new (vs : List VD) (s : SS) (h : vs.length ≤ 12) : Bnd 12 0 (newS vs s) := ⟨h, fun f hf => by simp [newS] at hf⟩

end Go.Proofs.Ytekjfbnggfbfhaa

/-
  A store between two calls of a law: what the calls leave as it was.
-/
namespace Go.Proofs.Ytekjfbnggfbfhaa
open Go Go.RowKit

/-- The store S at sb, made behind w in blocks from n0 on; the blocks kb are not its own. -/
structure KS (w : World) (n0 sb : Nat) (kb : Nat → Prop) (W : World) (S : ST) : Prop where
  bl : Below w.heap.size w W
  hn : w.heap.size ≤ n0
  sr : ∃ P, SR W n0 P S ∧ P.sb = sb ∧ ∀ b, kb b → b < W.heap.size ∧ ¬ OwnB (rows P S) b
/-- What lies below n0, and the blocks kb, are as they were. -/
structure Kpt (n0 : Nat) (kb : Nat → Prop) (W W' : World) : Prop where
  size : W.heap.size ≤ W'.heap.size
  kept : ∀ b, b < W.heap.size → (b < n0 ∨ kb b) → W'.heap[b]? = W.heap[b]?
section
variable {w W W' W'' : World} {n0 sb : Nat} {kb kb' : Nat → Prop} {S S' : ST}
theorem Kpt.refl (n0 : Nat) (kb : Nat → Prop) (W : World) : Kpt n0 kb W W := ⟨Nat.le_refl _, fun _ _ _ => rfl⟩
theorem Kpt.trans (h : Kpt n0 kb W W') (h' : Kpt n0 kb W' W'') : Kpt n0 kb W W'' := ⟨Nat.le_trans h.size h'.size, fun b hb hk => (h'.kept b (Nat.lt_of_lt_of_le hb h.size) hk).trans (h.kept b hb hk)⟩
theorem Kpt.of_below (h : Below W.heap.size W W') : Kpt n0 kb W W' := ⟨h.size, fun b hb _ => h.block b hb⟩
theorem Kpt.cell {b o : Nat} {u : Value} (h : Kpt n0 kb W W') (hk : b < n0 ∨ kb b) (hc : W.cell? ⟨b, o, none⟩ = some u) : W'.cell? ⟨b, o, none⟩ = some u :=
  cell_kp hc (h.kept b (World.block_lt_of_cell? W _ hc) hk)
theorem Kpt.blk {b : Nat} {o : Obj} (h : Kpt n0 kb W W') (hk : b < n0 ∨ kb b) (hc : W.heap[b]? = some o) : W'.heap[b]? = some o := (h.kept b (blk_lt hc) hk).trans hc

theorem KS.n0le (h : KS w n0 sb kb W S) : n0 ≤ W.heap.size := by obtain ⟨P, hs, _⟩ := h.sr; exact hs.n0le
theorem KS.wf (h : KS w n0 sb kb W S) : S.WF := by obtain ⟨P, hs, _⟩ := h.sr; exact hs.wf
theorem KS.later (h : KS w n0 sb kb W S) (hb : Below W.heap.size W W') : KS w n0 sb kb W' S := by
  obtain ⟨P, hs, e, hk⟩ := h.sr
  exact ⟨bl_tt h.bl hb, h.hn, P, hs.later hb, e, fun b hb' => ⟨Nat.lt_of_lt_of_le (hk b hb').1 hb.size, (hk b hb').2⟩⟩
/-- New blocks are not the store's. -/
theorem KS.also (h : KS w n0 sb kb W S) (hb : Below W.heap.size W W') (hkb : ∀ b, kb' b → kb b ∨ (W.heap.size ≤ b ∧ b < W'.heap.size)) : KS w n0 sb kb' W' S := by
  obtain ⟨P, hs, e, hk⟩ := h.sr
  refine ⟨bl_tt h.bl hb, h.hn, P, hs.later hb, e, fun b hb' => ?_⟩
  rcases hkb b hb' with h1 | ⟨h1, h2⟩
  · exact ⟨Nat.lt_of_lt_of_le (hk b h1).1 hb.size, (hk b h1).2⟩
  · exact ⟨h2, fun ho => by have := (hs.own_lt ho).2; omega⟩
theorem KS.less (h : KS w n0 sb kb W S) (hkb : ∀ b, kb' b → kb b) : KS w n0 sb kb' W S := h.also (Below.refl _ _) fun b hb => .inl (hkb b hb)
theorem KS.new {P : Ph} {vs : List VD} {s : SS} {W0 : World} (h0 : Below w.heap.size w W0) (hb : Below W0.heap.size W0 W) (hs : SR W W0.heap.size P (newS vs s)) : KS w W0.heap.size P.sb (fun _ => False) W (newS vs s) :=
  ⟨bl_tt h0 hb, h0.size, P, hs, rfl, fun _ h => h.elim⟩
/-- What a call leaves behind. -/
def KP (w : World) (n0 sb : Nat) (kb : Nat → Prop) (W : World) (R : Int × ST) (e : Ending) (W' : World) : Prop := e = .returned (.int .i64 R.1) ∧ KS w n0 sb kb W' R.2 ∧ Kpt n0 kb W W'
theorem KS.stp {P P' : Ph} (hbl : Below w.heap.size w W) (hn0 : w.heap.size ≤ n0) (hs : SR W n0 P S) (hk : ∀ b, kb b → b < W.heap.size ∧ ¬ OwnB (rows P S) b) (hst : SStp n0 P S W P' S' W') (hsb : P'.sb = sb) : KS w n0 sb kb W' S' ∧ Kpt n0 kb W W' := by
  refine ⟨⟨hst.frame hs hbl hn0, hn0, P', hst.sr, hsb, fun b hb => ⟨Nat.lt_of_lt_of_le (hk b hb).1 hst.st.chg.size, hst.no (hk b hb).1 (hk b hb).2⟩⟩, hst.st.chg.size, fun b hlt hb => hst.st.chg.block b hlt fun ho => ?_⟩
  rcases hb with hb | hb
  · have := (hs.own_lt ho).1; omega
  · exact (hk b hb).2 ho
theorem KS.dop (h : KS w n0 sb kb W S) {f : FuncId} {args : Array Value} {R : Int × ST} (hc : ∀ P, SR W n0 P S → P.sb = sb → Calls Try.prog f args W (DoP n0 P S W R)) : Calls Try.prog f args W (KP w n0 sb kb W R) := by
  obtain ⟨P, hs, e, hk⟩ := h.sr
  refine (hc P hs e).mono ?_
  rintro e' W2 ⟨a1, P', a2, a3⟩
  exact ⟨a1, KS.stp h.bl h.hn hs hk a2 (a3.trans e)⟩
theorem KS.do_ (h : KS w n0 sb kb W S) (t : T) (v : Value) (hv : NV W Any t v) : Calls Try.prog 12 #[.pointer (some ⟨sb, 0, none⟩), v] W (KP w n0 sb kb W (doE S t)) :=
  h.dop fun _ hs e => e ▸ Do_any hs t v hv
theorem KS.undo (h : KS w n0 sb kb W S) (t : T) (v : Value) (hv : NV W Any t v) : Calls Try.prog 13 #[.pointer (some ⟨sb, 0, none⟩), v] W (KP w n0 sb kb W (undoE S t)) :=
  h.dop fun _ hs e => e ▸ Undo_any hs t v hv
theorem KS.open_ (h : KS w n0 sb kb W S) (v : VD) (hfv : FldV v) (x : Int) (hx : I64 x) (hlim : S.cur.vs.length + 1 ≤ 4398046511000) : Calls Try.prog 22 #[.pointer (some ⟨sb, 0, none⟩), .agg #[.string v.s, .int .u8 v.k, .int .i64 v.n], .int .i64 x] W (KP w n0 sb kb W (openE S v x)) :=
  h.dop fun _ hs e => e ▸ Open_any hs v hfv x hx hlim
theorem KS.close (h : KS w n0 sb kb W S) (s : ByteArray) (x : Int) : Calls Try.prog 23 #[.pointer (some ⟨sb, 0, none⟩), .string s, .int .i64 x] W (KP w n0 sb kb W (closeE S s x)) :=
  h.dop fun _ hs e => e ▸ Close_any hs s x
theorem KS.enter (h : KS w n0 sb kb W S) (ps : List VD) (ss : List ByteArray) (A D : Option Addr) (c d : Nat) (hp : RowV W Any A ps) (hs : RowS W D ss) (hlp : ps.length ≤ 4398046511000) (hls : ss.length ≤ 17592186044416) : Calls Try.prog 17 #[.pointer (some ⟨sb, 0, none⟩), .slice A ps.length c, .slice D ss.length d] W (KP w n0 sb kb W (enterE S ps ss)) :=
  h.dop fun _ hs' e => e ▸ Enter_any hs' ps ss A D c d hp hs hlp hls
theorem KS.leave (h : KS w n0 sb kb W S) : Calls Try.prog 20 #[.pointer (some ⟨sb, 0, none⟩)] W (KP w n0 sb kb W (leaveE S)) :=
  h.dop fun _ hs e => e ▸ Leave_any hs
theorem KS.cell (h : KS w n0 sb kb W S) (s : ByteArray) : Calls Try.prog 16 #[.pointer (some ⟨sb, 0, none⟩), .string s] W (CellP W S s) := by
  obtain ⟨P, hs, rfl, -⟩ := h.sr
  exact SCell_any hs s
theorem KS.state (h : KS w n0 sb kb W S) : Calls Try.prog 25 #[.pointer (some ⟨sb, 0, none⟩)] W fun e W' => ∃ v, e = .returned v ∧ OwnS W' W.heap.size S.state v ∧ Below W.heap.size W W' := by
  obtain ⟨P, hs, rfl, -⟩ := h.sr
  exact State_any hs
theorem KS.depth (h : KS w n0 sb kb W S) : Calls Try.prog 18 #[.pointer (some ⟨sb, 0, none⟩)] W fun e w' => e = .returned (.int .i64 S.calls.length) ∧ w' = W := by
  obtain ⟨P, hs, rfl, -⟩ := h.sr
  exact Depth_any hs
end
theorem look_none {S : ST} (h : S.WF) {s : ByteArray} (hn : S.look s = none) : S.cur.at s = none := by
  obtain ⟨kd, hw⟩ := h.cur
  rcases he : S.cur.at s with _ | i
  · rfl
  · have hi := FR.at_lt he
    unfold ST.look ST.num at hn
    rw [he] at hn
    rw [← hw.len] at hi
    simp [hi] at hn
/-- A state of small lengths. -/
theorem SS.Sm.of {s : SS} (h1 : s.cells.length ≤ 12) (h2 : s.tin.length ≤ 60) (h3 : s.tout.length ≤ 60) (h4 : ∀ l ∈ s.cells, l.length ≤ 60) : s.Sm :=
  ⟨by omega, fun l hl => by have := h4 l hl; omega, by omega, by omega⟩
theorem SS.Sm.lim {s : SS} (h : s.Sm) : s.Lim := by
  obtain ⟨h1, h2, h3, h4⟩ := h
  unfold SS.Lim LI
  exact ⟨by omega, fun l hl => by have := h2 l hl; omega, by omega, by omega⟩

end Go.Proofs.Ytekjfbnggfbfhaa
