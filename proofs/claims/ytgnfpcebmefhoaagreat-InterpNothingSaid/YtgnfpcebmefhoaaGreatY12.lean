/-
  Texts of the proof, put together without their remarks: Aw, Alt, Awk, Gr, If, Lfp, Lnp, Altb.
-/
import Derived.Test.YtgnfpcebmefhoaaGreatY11
set_option linter.unusedSimpArgs false
set_option linter.unusedVariables false
namespace Go.Proofs.YtgnfpcebmefhoaaGreat
open Go Go.RowKit
def xT : T := .nd 2 0 ⟨#[120]⟩ []
def nT (n : Int) : T := .nd 1 n ⟨#[]⟩ []
def eqT (n : Int) : T := .nd 16 0 ⟨#[]⟩ [xT, nT n]
def blT (l : List T) : T := .nd 57 0 ⟨#[]⟩ l
def plT : T := .nd 40 0 ⟨#[]⟩ [xT, nT 1]
def loT : T := .nd 53 0 ⟨#[]⟩ [eqT 0, blT [plT], blT [], eqT 3]
def pgA : PG := ⟨[⟨⟨#[120]⟩, 1, 0⟩], [], blT [loT]⟩
def okA (n : Nat) (l : List (List Int)) : Out → Bool
 | .ok r => decide (r.n = n) && decide (r.S.state.cells = l)
 | _ => false
theorem aw_val : validB pgA = true := by decide +kernel
theorem aw_chk : chkN pgA = 0 := by decide +kernel
theorem aw_fit0 : fitB pgA.vs ⟨[[0]], [], []⟩ = true := by decide +kernel
theorem aw_fit3 : fitB pgA.vs ⟨[[3]], [], []⟩ = true := by decide +kernel
theorem aw_f : okA 9 [[3]] (runO pgA.prs 50 102000 false pgA.m ⟨newS pgA.vs ⟨[[0]], [], []⟩, 0, []⟩) = true := by decide +kernel
theorem aw_b : okA 9 [[0]] (runO pgA.prs 50 102000 true pgA.m ⟨newS pgA.vs ⟨[[3]], [], []⟩, 0, []⟩) = true := by decide +kernel
theorem okA_ok {n : Nat} {l : List (List Int)} {o : Out} (h : okA n l o = true) : ∃ r, o = .ok r ∧ r.n = n ∧ r.S.state.cells = l := by
 cases o with
 | gas => cases h
 | err e => cases h
 | ok r =>
  simp only [okA, Bool.and_eq_true, decide_eq_true_eq] at h
  exact ⟨r, rfl, h.1, h.2⟩
theorem res_f : ∃ tin tout ent, resO pgA ⟨[[0]], [], []⟩ 50 102000 false = (⟨[[3]], tin, tout⟩, 9, 0, ent) := by
 obtain ⟨r, h1, h2, h3⟩ := okA_ok aw_f
 refine ⟨r.S.state.tin, r.S.state.tout, r.ent, ?_⟩
 rw [resO, if_neg (by rw [aw_val, aw_chk]; simp), if_neg (by rw [aw_fit0]; simp)]
 rw [show List.replicate pgA.prs.length 0 = ([] : List Nat) from rfl, h1]
 simp only [outR, h2, ← h3]
theorem res_b : ∃ tin tout ent, resO pgA ⟨[[3]], [], []⟩ 50 102000 true = (⟨[[0]], tin, tout⟩, 9, 0, ent) := by
 obtain ⟨r, h1, h2, h3⟩ := okA_ok aw_b
 refine ⟨r.S.state.tin, r.S.state.tout, r.ent, ?_⟩
 rw [resO, if_neg (by rw [aw_val, aw_chk]; simp), if_neg (by rw [aw_fit3]; simp)]
 rw [show List.replicate pgA.prs.length 0 = ([] : List Nat) from rfl, h1]
 simp only [outR, h2, ← h3]
set_option maxHeartbeats 2000000 in
theorem av_any (s : ByteArray) (w : World) : Calls Tryz.prog 25 #[.string s] w fun e w' => e = .returned (nv 2 0 s none 0 0) ∧ Below w.heap.size w w' := by
 have hb : ∀ w, (Instr.build 26 #[(0, .int .u8 2), (2, .string s)]).run Tryz.prog w = .ok (nv 2 0 s none 0 0) w := fun w => by kernel_rfl
 go_enter Tryz.func25, Tryz.ntmps25
 go_wp2_with fail
 exact bodyPost_ret (v := nv 2 0 s none 0 0) (by simp [results, Tryz.results25, go_sem]) rfl ⟨rfl, bl_al (Below.refl _ _) _⟩
set_option maxHeartbeats 2000000 in
theorem anum_any (n : Int) (w : World) : Calls Tryz.prog 27 #[.int .i64 n] w fun e w' => e = .returned (nv 1 n ⟨#[]⟩ none 0 0) ∧ Below w.heap.size w w' := by
 have hb : ∀ w, (Instr.build 26 #[(0, .int .u8 1), (1, .int .i64 n)]).run Tryz.prog w = .ok (nv 1 n ⟨#[]⟩ none 0 0) w := fun w => by kernel_rfl
 go_enter Tryz.func27, Tryz.ntmps27
 go_wp2_with fail
 exact bodyPost_ret (v := nv 1 n ⟨#[]⟩ none 0 0) (by simp [results, Tryz.results27, go_sem]) rfl ⟨rfl, bl_al (Below.refl _ _) _⟩
set_option maxHeartbeats 2000000 in
theorem ablk_any (A : Option Addr) (l c : Nat) (w : World) : Calls Tryz.prog 28 #[.slice A l c] w fun e w' => e = .returned (nv 57 0 ⟨#[]⟩ A l c) ∧ Below w.heap.size w w' := by
 have hb : ∀ w, (Instr.build 26 #[(0, .int .u8 57), (3, .slice A l c)]).run Tryz.prog w = .ok (nv 57 0 ⟨#[]⟩ A l c) w := fun w => by kernel_rfl
 go_enter Tryz.func28, Tryz.ntmps28
 go_wp2_with fail
 exact bodyPost_ret (v := nv 57 0 ⟨#[]⟩ A l c) (by simp [results, Tryz.results28, go_sem]) rfl ⟨rfl, bl_al (Below.refl _ _) _⟩
theorem fnNumA : IsFn Tryz.prog 27 Tryz.f27 := ⟨Tryz.func27, by kernel_rfl, by kernel_rfl⟩
theorem fnEqA : IsFn Tryz.prog 26 Tryz.f26 := ⟨Tryz.func26, by kernel_rfl, by kernel_rfl⟩
theorem fnBlkA : IsFn Tryz.prog 28 Tryz.f28 := ⟨Tryz.func28, by kernel_rfl, by kernel_rfl⟩
theorem bSN2 (a0 a1 a2 a3 b0 b1 b2 b3 : Value) (w : World) : (Instr.buildSlice 24 2 #[(0, .agg #[a0, a1, a2, a3]), (1, .agg #[b0, b1, b2, b3])]).run Tryz.prog w = .ok (.slice (some ⟨w.heap.size, 0, none⟩) 2 2) (w.alloc (.cells #[a0, a1, a2, a3, b0, b1, b2, b3] 26)) := by kernel_rfl
theorem bNk (k : Int) (A : Option Addr) (l c : Nat) (w : World) : (Instr.build 26 #[(0, .int .u8 k), (3, .slice A l c)]).run Tryz.prog w = .ok (nv k 0 ⟨#[]⟩ A l c) w := by kernel_rfl
theorem set4z {W : World} {b : Nat} {u0 u1 u2 u3 : Value} {E : TypeId} (h : W.heap[b]? = some (.cells #[.int .u8 0, .int .i64 0, .string ⟨#[]⟩, .slice none 0 0] E (0, 0))) :
  ((((W.setCell ⟨b, 0, none⟩ u0).setCell ⟨b, 1, none⟩ u1).setCell ⟨b, 2, none⟩ u2).setCell ⟨b, 3, none⟩ u3).heap[b]? = some (.cells #[u0, u1, u2, u3] E (0, 0)) ∧
   Chg (fun q => q = b) W ((((W.setCell ⟨b, 0, none⟩ u0).setCell ⟨b, 1, none⟩ u1).setCell ⟨b, 2, none⟩ u2).setCell ⟨b, 3, none⟩ u3) := set4 h
def NwN (W : World) (t : T) (v : Value) (w' : World) : Prop := ∃ A c, v = nv t.k t.n t.s A t.ks.length c ∧ NV w' Any t v ∧ Below W.heap.size W w'
set_option maxHeartbeats 2000000 in
set_option maxRecDepth 100000 in
theorem aeq_any (n : Int) (hn : I64 n) (xb : Nat) (w : World) (hx : w.heap[xb]? = some (.cells #[.int .u8 2, .int .i64 0, .string ⟨#[120]⟩, .slice none 0 0] 26 (0, 0))) : Calls Tryz.prog 26 #[.int .i64 n, .pointer (some ⟨xb, 0, none⟩)] w fun e w' => ∃ v, e = .returned v ∧ NwN w (eqT n) v w' := by
 have h2 := bSN2
 have h3 := bNk
 have hb1 := bl_al (Below.refl w.heap.size w) (.cells #[.int .u8 0, .int .i64 0, .string ⟨#[]⟩, .slice none 0 0] 26)
 have k1 := heap_alloc_new w (.cells #[.int .u8 0, .int .i64 0, .string ⟨#[]⟩, .slice none 0 0] 26)
 have hx1 := blk_al hx (.cells #[.int .u8 0, .int .i64 0, .string ⟨#[]⟩, .slice none 0 0] 26)
 obtain ⟨w1, hw1⟩ : ∃ x, w.alloc (.cells #[.int .u8 0, .int .i64 0, .string ⟨#[]⟩, .slice none 0 0] 26) = x := ⟨_, rfl⟩
 rw [hw1] at hb1 k1 hx1
 have HB1 := Lib.hid hb1
 have HK1 := Lib.hid k1
 have HX1 := Lib.hid hx1
 clear hb1 k1 hx1 hx
 go_enter Tryz.func26, Tryz.ntmps26
 go_upto_region 1 with fail
 clear hw1
 have HSS := Lib.hid (show ∀ w', Below w1.heap.size w1 w' → (fun w' : World => w'.cell? ⟨xb, 0, none⟩ = some (.int .u8 2) ∧ w'.cell? ⟨xb, 1, none⟩ = some (.int .i64 0) ∧ w'.cell? ⟨xb, 2, none⟩ = some (.string ⟨#[120]⟩) ∧ w'.cell? ⟨xb, 3, none⟩ = some (.slice none 0 0)) w' from fun w' hb => ⟨cell_bl hb (cell_of_blk HX1.out rfl), cell_bl hb (cell_of_blk HX1.out rfl), cell_bl hb (cell_of_blk HX1.out rfl), cell_bl hb (cell_of_blk HX1.out rfl)⟩)
 have hSS : (fun w' : World => w'.cell? ⟨xb, 0, none⟩ = some (.int .u8 2) ∧ w'.cell? ⟨xb, 1, none⟩ = some (.int .i64 0) ∧ w'.cell? ⟨xb, 2, none⟩ = some (.string ⟨#[120]⟩) ∧ w'.cell? ⟨xb, 3, none⟩ = some (.slice none 0 0)) w1.drew ∧ (fun _ : World => True) w1.drew := ⟨HSS.out _ (Below.refl _ _).drew, trivial⟩
 refine wp_region_noPanic ?_
 refine wp_region_G (fun w' : World => w'.cell? ⟨xb, 0, none⟩ = some (.int .u8 2) ∧ w'.cell? ⟨xb, 1, none⟩ = some (.int .i64 0) ∧ w'.cell? ⟨xb, 2, none⟩ = some (.string ⟨#[120]⟩) ∧ w'.cell? ⟨xb, 3, none⟩ = some (.slice none 0 0)) (fun _ : World => True) 5 (by kernel_rfl) ?_
 refine wpG_take1 (i := 0) (v := ?_) rfl (by kernel_rfl) (by kernel_rfl) (by kernel_rfl) (by decide) (fun _ _ _ h => h) (Or.inl ⟨by rfl, ?_⟩) hSS ?_
 rotate_left 1
 ·(intro w hSw; (try dsimp only at hSw); (try simp only [zA, zC]); go_simp; (try with_reducible rfl))
 (try simp only [Act.put, zA, zC, zD, zE, zF])
 refine wpG_take1 (i := 1) (v := ?_) rfl (by kernel_rfl) (by kernel_rfl) (by kernel_rfl) (by decide) (fun _ _ _ h => h) (Or.inl ⟨by rfl, ?_⟩) hSS ?_
 rotate_left 1
 ·(intro w hSw; (try dsimp only at hSw); (try simp only [zA, zB, zC]); go_simp; (try with_reducible rfl))
 (try simp only [Act.put, zA, zB, zC, zD, zE, zF])
 have had : Calls Tryz.prog 27 [.int .i64 n].toArray w1.drew fun e w' => ∃ v, e = .returned v ∧ (v = nv 1 n ⟨#[]⟩ none 0 0 ∧ Below w1.heap.size w1 w') := (anum_any n _).mono fun e w' ⟨h1, h2⟩ => ⟨_, h1, rfl, bl_tt (Below.refl w1.heap.size w1).drew h2⟩
 refine wpG_one (i := 2) (by kernel_rfl) rfl (fun K hK => ?_)
 refine step_callL (by rfl) (.func 27) [.tmp 5] _ (by rfl) 27 _ fnNumA (by rfl) _ (by rfl) _ had ?_
 rintro v2 w2 ⟨rfl, hb2⟩
 have HB2 := Lib.hid hb2
 refine hK.out _ _ ⟨HSS.out _ hb2, trivial⟩ ?_
 clear hK K hSS had hb2
 (try simp only [Act.put, zA, zB, zC, zD, zE, zF])
 refine wpG_one (i := 3) (by kernel_rfl) rfl (fun K hK => ?_)
 (try simp only [zA, zB, zC])
 go_simp
 refine hK.out _ _ ⟨HSS.out _ (bl_al HB2.out _), trivial⟩ ?_
 clear hK K
 (try simp only [Act.put, zA, zB, zC, zD, zE, zF])
 refine wpG_one (i := 4) (by kernel_rfl) rfl (fun K hK => ?_)
 (try simp only [zA, zB, zC])
 go_simp
 refine hK.out _ _ ⟨HSS.out _ (bl_al HB2.out _), trivial⟩ ?_
 clear hK K
 (try simp only [Act.put, zA, zB, zC, zD, zE, zF])
 have hnv := NV_two w2 26 (S := fun b => b = w2.heap.size) rfl (t1 := xT) (t2 := nT n) (k := 16) (n := 0) (s := ⟨#[]⟩) ⟨⟨by omega, by omega⟩, ⟨by omega, by omega⟩, by decide⟩ (NV_leaf w2 _ (k := 2) (n := 0) (s := ⟨#[120]⟩) ⟨⟨by omega, by omega⟩, ⟨by omega, by omega⟩, by decide⟩) (NV_leaf w2 _ (k := 1) (n := n) (s := ⟨#[]⟩) ⟨⟨by omega, by omega⟩, hn, by decide⟩)
 have hb3 : Below w1.heap.size w1 (w2.alloc (.cells #[.int .u8 2, .int .i64 0, .string ⟨#[120]⟩, .slice none 0 0, .int .u8 1, .int .i64 n, .string ⟨#[]⟩, .slice none 0 0] 26)) := bl_al HB2.out _
 have hsz2 : w.heap.size < w2.heap.size := Nat.lt_of_lt_of_le (blk_lt HK1.out) HB2.out.size
 obtain ⟨w3, hw3⟩ : ∃ x, w2.alloc (.cells #[.int .u8 2, .int .i64 0, .string ⟨#[120]⟩, .slice none 0 0, .int .u8 1, .int .i64 n, .string ⟨#[]⟩, .slice none 0 0] 26) = x := ⟨_, rfl⟩
 rw [hw3] at hnv hb3 ⊢
 have hz3 : w3.heap.size = w2.heap.size + 1 := by rw [← hw3]; simp
 have hk3 := blk_bl HK1.out hb3
 have c0 : w3.cell? ⟨w.heap.size, 0, none⟩ = some (.int .u8 0) := cell_of_blk hk3 rfl
 have c1 : w3.cell? ⟨w.heap.size, 1, none⟩ = some (.int .i64 0) := cell_of_blk hk3 rfl
 have c2 : w3.cell? ⟨w.heap.size, 2, none⟩ = some (.string ⟨#[]⟩) := cell_of_blk hk3 rfl
 have c3 : w3.cell? ⟨w.heap.size, 3, none⟩ = some (.slice none 0 0) := cell_of_blk hk3 rfl
 have cf : ∀ o, w3.frozen? ⟨w.heap.size, o, none⟩ = false := fun _ => frozen_of_blk hk3
 have HN3 := Lib.hid hnv
 have HB3 := Lib.hid hb3
 have HK3 := Lib.hid hk3
 clear hw3 hnv hb3 hk3
 refine wpG_past (i := 5) (by kernel_rfl) rfl (by kernel_rfl) (fun K hK => ?_)
 (try simp only [zA, zB, zC])
 go_simp
 obtain ⟨hh, hch⟩ := set4z (u0 := .int .u8 16) (u1 := .int .i64 0) (u2 := .string ⟨#[]⟩) (u3 := .slice (some ⟨w2.heap.size, 0, none⟩) 2 2) HK3.out
 obtain ⟨w4, hw4⟩ : ∃ x, (((w3.setCell ⟨w.heap.size, 0, none⟩ (.int .u8 16)).setCell ⟨w.heap.size, 1, none⟩ (.int .i64 0)).setCell ⟨w.heap.size, 2, none⟩ (.string ⟨#[]⟩)).setCell ⟨w.heap.size, 3, none⟩ (.slice (some ⟨w2.heap.size, 0, none⟩) 2 2) = x := ⟨_, rfl⟩
 rw [hw4] at hh hch ⊢
 have hxl : xb ≠ w.heap.size := by
  intro e
  have h1 := HX1.out
  rw [e, HK1.out] at h1
  simp at h1
 refine hK.out _ _ ?_ ?_
 ·obtain ⟨q0, q1, q2, q3⟩ := HSS.out _ HB3.out
  exact ⟨chg_cell hch q0 hxl, chg_cell hch q1 hxl, chg_cell hch q2 hxl, chg_cell hch q3 hxl⟩
 clear hK K HSS c0 c1 c2 c3 cf hw4
 (try simp only [Act.put, zA, zB, zC, zD, zE, zF])
 refine wpG_done (by kernel_rfl) ?_
 refine NoPanic.normal ?_
 obtain ⟨r0, r1, r2, r3⟩ := box4 hh
 go_wp2_with fail
 refine bodyPost_ret (v := nv 16 0 ⟨#[]⟩ (some ⟨w2.heap.size, 0, none⟩) 2 2) (by simp [results, Tryz.results26, go_sem, r0, r1, r2, r3]) rfl ⟨_, rfl, _, _, rfl, ?_, ?_⟩
 ·refine HN3.out.keep (fun _ _ _ => trivial) fun b hb hlt => hch.block b hlt fun e => by omega
 ·exact (bl_tt HB1.out HB3.out).trans (hch.below (bl_tt HB1.out HB3.out).size fun b e => by omega)
theorem zero_kind {w : World} {p : Addr} {bb : Nat} {E : TypeId} {k : Int} (hz : w.heap[bb]? = some (.cells #[.int .u8 0, .int .i64 0, .string ⟨#[]⟩, .slice none 0 0] E (0, 0))) (hp : p.block = bb) (h : w.cell? p = some (.int .u8 k)) : k = 0 := by
 subst hp
 obtain ⟨b, o, m⟩ := p
 simp only [World.cell?] at h hz
 cases m with
 | none =>
  simp only [hz] at h
  match o, h with
  | 0, h => simp at h; exact h.symm
  | 1, h => simp at h
  | 2, h => simp at h
  | 3, h => simp at h
  | n + 4, h => simp at h
 | some x => simp [hz] at h
theorem NV.nz {w : World} {bb : Nat} {E : TypeId} (hz : w.heap[bb]? = some (.cells #[.int .u8 0, .int .i64 0, .string ⟨#[]⟩, .slice none 0 0] E (0, 0))) : ∀ (t : T) (v : Value), NV w Any t v → (∀ u ∈ po t, u.k ≠ 0) → NV w (fun b => b ≠ bb) t v := by
 intro t
 induction t using T.ind with
 | _ k n s ks ih =>
  intro v hv hk
  obtain ⟨A, c, rfl, hf, hlk, hlc, hrow⟩ := hv.open_
  refine NV.shut hf hlk hlc fun i hi => ?_
  obtain ⟨a, u0, u1, u2, u3, hA, -, hc, hn⟩ := hrow i hi
  have hm : (T.nd k n s ks).ks[i] ∈ ks := List.getElem_mem hi
  have hsub : ∀ u ∈ po (T.nd k n s ks).ks[i], u.k ≠ 0 := fun u hu => hk u (by simp only [po, List.mem_cons]; exact .inr (mem_pos.2 ⟨_, hm, hu⟩))
  refine ⟨a, u0, u1, u2, u3, hA, fun e => ?_, hc, ih _ hm _ hn hsub⟩
  obtain ⟨A', c', e', -⟩ := hn.open_
  injection e' with e'
  simp only [Array.mk.injEq, List.cons.injEq, and_true] at e'
  have h0 := hc.c0
  rw [e'.1] at h0
  have hself : (T.nd k n s ks).ks[i] ∈ po (T.nd k n s ks).ks[i] := by
   rcases hq : (T.nd k n s ks).ks[i] with ⟨k', n', s', ks'⟩
   simp [po]
  exact hsub _ hself (zero_kind hz (by rw [block_add]; exact e) h0)
theorem sv_one (W : World) (x : Int) (hx : I64 x) : SV ((W.alloc (.cells #[.int .i64 x] 3)).alloc (.cells #[.slice (some ⟨W.heap.size, 0, none⟩) 1 1] 30)) Any ⟨[[x]], [], []⟩ (.agg #[.slice (some ⟨W.heap.size + 1, 0, none⟩) 1 1, .slice none 0 0, .slice none 0 0]) := by
 have k0 := blk_al (heap_alloc_new W (.cells #[.int .i64 x] 3)) (.cells #[.slice (some ⟨W.heap.size, 0, none⟩) 1 1] 30)
 have k1 := heap_alloc_new (W.alloc (.cells #[.int .i64 x] 3)) (.cells #[.slice (some ⟨W.heap.size, 0, none⟩) 1 1] 30)
 rw [World.size_alloc] at k1
 refine ⟨_, 1, none, 0, none, 0, rfl, fun i hi => ?_, fun i hi => by simp at hi, fun i hi => by simp at hi, by simp, by simp, by simp, ?_⟩
 ·have h0 : i = 0 := by simp at hi; exact hi
  subst h0
  exact ⟨⟨W.heap.size + 1, 0, none⟩, some ⟨W.heap.size, 0, none⟩, 1, rfl, trivial, cell_of_blk k1 rfl, by simp, rowI_blk (xs := [x]) k0 (by intro y hy; simp at hy; subst hy; exact hx)⟩
 ·exact ⟨by simp [LI], fun l hl => by simp at hl; subst hl; simp [LI], by simp, by simp⟩
theorem pv_pgA {W : World} {vb nb : Nat} (hk : W.heap[vb]? = some (.cells #[.string ⟨#[120]⟩, .int .u8 1, .int .i64 0] 58 (0, 0))) (hn : NV W Any (blT [loT]) (nv 57 0 ⟨#[]⟩ (some ⟨nb, 0, none⟩) 1 1)) :
  PV W Any pgA (.agg #[.slice (some ⟨vb, 0, none⟩) 1 1, .slice none 0 0, .int .u8 57, .int .i64 0, .string ⟨#[]⟩, .slice (some ⟨nb, 0, none⟩) 1 1]) := by
 refine ⟨some ⟨vb, 0, none⟩, 1, none, 0, some ⟨nb, 0, none⟩, 1, rfl, rowV_blk (vs := [⟨⟨#[120]⟩, 1, 0⟩]) hk ?_, by decide, by decide, fun i hi => by simp [pgA] at hi, by decide, by decide, hn⟩
 intro v hv
 simp at hv
 subst hv
 exact ⟨by decide, ⟨by decide, by decide⟩, by decide, by decide⟩
theorem OwnS.one {W : World} {n0 : Nat} {x : Int} {ti to_ : List Int} {v : Value} (h : OwnS W n0 ⟨[[x]], ti, to_⟩ v) : ∃ cb c eb d B d1 D d2, v = .agg #[.slice (some ⟨cb, 0, none⟩) 1 c, .slice B ti.length d1, .slice D to_.length d2] ∧ W.cell? ⟨cb, 0, none⟩ = some (.slice (some ⟨eb, 0, none⟩) 1 d) ∧ W.cell? ⟨eb, 0, none⟩ = some (.int .i64 x) := by
 obtain ⟨vc, vi, vo, fc, rfl, hr, -⟩ := h
 obtain ⟨B, d1, e2, -⟩ := row_slice (hr.row .inp)
 obtain ⟨D, d2, e3, -⟩ := row_slice (hr.row .out)
 change vi = .slice B ti.length d1 at e2
 change vo = .slice D to_.length d2 at e3
 obtain ⟨cb, c, e1, -, -, hc⟩ := row_some (hr.row .all) (by show 0 < 1; decide)
 change vc = .slice (some ⟨cb, 0, none⟩) 1 c at e1
 obtain ⟨eb, d, e4, -, -, he⟩ := row_some (hr.row (.el 0)) (by show 0 < 1; decide)
 change fc 0 = .slice (some ⟨eb, 0, none⟩) 1 d at e4
 refine ⟨cb, c, eb, d, B, d1, D, d2, by rw [e1, e2, e3], ?_, ?_⟩
 ·rw [hc 0 (by show 0 < 1 * 1; decide), ← e4]; simp [rowsS]
 ·rw [he 0 (by show 0 < 1 * 1; decide)]; simp [rowsS, flatI]
theorem gas50 : (50 : Int).toNat * 2000 + 2000 ≤ 102000 := by decide
end Go.Proofs.YtgnfpcebmefhoaaGreat
namespace Go.Proofs.YtgnfpcebmefhoaaGreat
open Go Go.RowKit
section
variable {P : Program} {md : Region.Mode} {ops : Array Oper} {Q : Exit → Act → World → Prop} {S1 S2 : World → Prop} {k : Nat}
theorem wpG_alt {i j : Nat} {oi oj : Oper} (si sj : Option Nat) (n : Nat) (L : Bool → Bool → Array Bool) (a0 : Act) (Inv : World → Prop) (Al Fact : Value → World → Prop)
  (hoi : ops[i]? = some oi) (hoj : ops[j]? = some oj) (hdi : oi.dst = si) (hdj : oj.dst = sj) (hr0 : Region.ready md ops (L false false) = [i, j]) (hr1 : Region.ready md ops (L false true) = [i])
  (hLi : ∀ l4, (L false l4).setIfInBounds i true = L true l4) (hLj : (L false false).setIfInBounds j true = L false true)
  (hS : ∀ w, Inv w → S1 w ∧ S2 w) (hInv : ∀ w w', Inv w → Below w.heap.size w w' → Inv w') (hAl : ∀ u w w', Al u w → Below w.heap.size w w' → Al u w')
  (hi : ∀ (v4 : Value) (K : Act → World → Prop) (w : World), Inv w → Shut (∀ v w', Below w.heap.size w w' → Fact v w' → K ((a0.put sj v4).put si v) w') → if Region.wanted oi (yielded ops (a0.put sj v4).tmps) = true then Oper.wp P oi (a0.put sj v4) w K Q else K ((a0.put sj v4).put si undef) w)
  (hj : ∀ (v4 : Value) (K : Act → World → Prop) (w : World), Inv w → Shut (∀ v w', Below w.heap.size w w' → Al v w' → K ((a0.put sj v4).put sj v) w') → if Region.wanted oj (yielded ops (a0.put sj v4).tmps) = true then Oper.wp P oj (a0.put sj v4) w K Q else K ((a0.put sj v4).put sj undef) w)
  (hpp : ∀ u v, (a0.put sj u).put sj v = a0.put sj v)
  (hc : ∀ (l4 : Bool) (v4 v : Value) (w : World), Inv w → Fact v w → (l4 = true → Al v4 w) → (l4 = false → v4 = undef) → wpG P md ops Q S1 S2 k (n + (!l4).toNat) (L true l4) ((a0.put sj v4).put si v) w) :
  ∀ (l4 : Bool) (v4 : Value) (w : World), Inv w → (l4 = true → Al v4 w) → (l4 = false → v4 = undef) → a0.put sj v4 = a0 → wpG P md ops Q S1 S2 k (n + 1 + (!l4).toNat) (L false l4) a0 w := by
 subst hdi hdj
 have h1 : ∀ (v4 : Value) (w : World), Inv w → Al v4 w → wpG P md ops Q S1 S2 k (n + 1) (L false true) (a0.put oj.dst v4) w := by
  intro v4 w hI hA
  refine ⟨(fun h0 => by rw [hr1] at h0; cases h0), fun q hq => ?_⟩
  rw [hr1] at hq
  simp only [List.mem_singleton] at hq
  subst hq
  refine wpOp_step hoi fun K' hK => hi v4 K' w hI ?_
  intro v w' hb hF
  have hI' := hInv _ _ hI hb
  refine hK _ _ ⟨⟨(hS _ hI').1, fun _ => (hS _ hI').2⟩, ?_⟩
  rw [hLi]
  exact hc true v4 v w' hI' hF (fun _ => hAl _ _ _ hA hb) (fun h => by cases h)
 intro l4 v4 w hI hA hU ha
 cases l4
 ·have hv := hU rfl
  refine ⟨(fun h0 => by rw [hr0] at h0; cases h0), fun q hq => ?_⟩
  rw [hr0] at hq
  simp only [List.mem_cons, List.not_mem_nil, or_false] at hq
  rcases hq with rfl | rfl
  ·refine wpOp_step hoi fun K' hK => ?_
   rw [← ha]
   refine hi v4 K' w hI ?_
   intro v w' hb hF
   have hI' := hInv _ _ hI hb
   refine hK _ _ ⟨⟨(hS _ hI').1, fun _ => (hS _ hI').2⟩, ?_⟩
   rw [hLi]
   exact hc false v4 v w' hI' hF (fun h => by cases h) (fun _ => hv)
  ·refine wpOp_step hoj fun K' hK => ?_
   rw [← ha]
   refine hj v4 K' w hI ?_
   intro v w' hb hF
   have hI' := hInv _ _ hI hb
   refine hK _ _ ⟨⟨(hS _ hI').1, fun _ => (hS _ hI').2⟩, ?_⟩
   rw [hLj, hpp]
   exact h1 v w' hI' hF
 ·rw [← ha]
  exact h1 v4 w hI (hA rfl)
theorem wpG_free {j : Nat} {oj : Oper} (sj : Option Nat) (n : Nat) (L : Bool → Array Bool) (a0 : Act) (Inv : World → Prop) (Al : Value → World → Prop)
  (hoj : ops[j]? = some oj) (hdj : oj.dst = sj) (hr0 : Region.ready md ops (L false) = [j]) (hLj : (L false).setIfInBounds j true = L true)
  (hS : ∀ w, Inv w → S1 w ∧ S2 w) (hInv : ∀ w w', Inv w → Below w.heap.size w w' → Inv w')
  (hj : ∀ (v4 : Value) (K : Act → World → Prop) (w : World), Inv w → Shut (∀ v w', Below w.heap.size w w' → Al v w' → K ((a0.put sj v4).put sj v) w') → if Region.wanted oj (yielded ops (a0.put sj v4).tmps) = true then Oper.wp P oj (a0.put sj v4) w K Q else K ((a0.put sj v4).put sj undef) w)
  (hpp : ∀ u v, (a0.put sj u).put sj v = a0.put sj v)
  (hc : ∀ (v4 : Value) (w : World), Inv w → Al v4 w → wpG P md ops Q S1 S2 k n (L true) (a0.put sj v4) w) :
  ∀ (l4 : Bool) (v4 : Value) (w : World), Inv w → (l4 = true → Al v4 w) → a0.put sj v4 = a0 → wpG P md ops Q S1 S2 k (n + (!l4).toNat) (L l4) a0 w := by
 subst hdj
 intro l4 v4 w hI hA ha
 cases l4
 ·refine ⟨(fun h0 => by rw [hr0] at h0; cases h0), fun q hq => ?_⟩
  rw [hr0] at hq
  simp only [List.mem_singleton] at hq
  subst hq
  refine wpOp_step hoj fun K' hK => ?_
  rw [← ha]
  refine hj v4 K' w hI ?_
  intro v w' hb hF
  have hI' := hInv _ _ hI hb
  refine hK _ _ ⟨⟨(hS _ hI').1, fun _ => (hS _ hI').2⟩, ?_⟩
  rw [hLj, hpp]
  exact hc v w' hI' hF
 ·rw [← ha]
  exact hc v4 w hI (hA rfl)
end
end Go.Proofs.YtgnfpcebmefhoaaGreat
namespace Go.Proofs.YtgnfpcebmefhoaaGreat
open Go Go.RowKit
theorem bSN4 (a0 a1 a2 a3 b0 b1 b2 b3 c0 c1 c2 c3 d0 d1 d2 d3 : Value) (w : World) : (Instr.buildSlice 24 4 #[(0, .agg #[a0, a1, a2, a3]), (1, .agg #[b0, b1, b2, b3]), (2, .agg #[c0, c1, c2, c3]), (3, .agg #[d0, d1, d2, d3])]).run Tryz.prog w = .ok (.slice (some ⟨w.heap.size, 0, none⟩) 4 4) (w.alloc (.cells #[a0, a1, a2, a3, b0, b1, b2, b3, c0, c1, c2, c3, d0, d1, d2, d3] 26)) := by kernel_rfl
theorem NV_four (W : World) (E : TypeId) {S : Nat → Prop} (hS : S W.heap.size) {t1 t2 t3 t4 : T} {k n k1 n1 k2 n2 k3 n3 k4 n4 : Int} {s s1 s2 s3 s4 : ByteArray} {A1 A2 A3 A4 : Option Addr} {l1 c1 l2 c2 l3 c3 l4 c4 : Nat} (hf : Fld k n s) (h1 : NV W S t1 (nv k1 n1 s1 A1 l1 c1)) (h2 : NV W S t2 (nv k2 n2 s2 A2 l2 c2)) (h3 : NV W S t3 (nv k3 n3 s3 A3 l3 c3)) (h4 : NV W S t4 (nv k4 n4 s4 A4 l4 c4)) :
  NV (W.alloc (.cells #[.int .u8 k1, .int .i64 n1, .string s1, .slice A1 l1 c1, .int .u8 k2, .int .i64 n2, .string s2, .slice A2 l2 c2, .int .u8 k3, .int .i64 n3, .string s3, .slice A3 l3 c3, .int .u8 k4, .int .i64 n4, .string s4, .slice A4 l4 c4] E)) S (.nd k n s [t1, t2, t3, t4]) (nv k n s (some ⟨W.heap.size, 0, none⟩) 4 4) := by
 refine NV.shut (ks := [t1, t2, t3, t4]) hf (by simp [LK]) (by simp) fun i hi => ?_
 have hb := bl_al (Below.refl W.heap.size W) (.cells #[.int .u8 k1, .int .i64 n1, .string s1, .slice A1 l1 c1, .int .u8 k2, .int .i64 n2, .string s2, .slice A2 l2 c2, .int .u8 k3, .int .i64 n3, .string s3, .slice A3 l3 c3, .int .u8 k4, .int .i64 n4, .string s4, .slice A4 l4 c4] E)
 have hx := heap_alloc_new W (.cells #[.int .u8 k1, .int .i64 n1, .string s1, .slice A1 l1 c1, .int .u8 k2, .int .i64 n2, .string s2, .slice A2 l2 c2, .int .u8 k3, .int .i64 n3, .string s3, .slice A3 l3 c3, .int .u8 k4, .int .i64 n4, .string s4, .slice A4 l4 c4] E)
 match i, hi with
 | 0, _ => exact ⟨⟨W.heap.size, 0, none⟩, _, _, _, _, rfl, hS, ⟨cell_of_blk hx rfl, cell_of_blk hx rfl, cell_of_blk hx rfl, cell_of_blk hx rfl⟩, h1.later hb⟩
 | 1, _ => exact ⟨⟨W.heap.size, 0, none⟩, _, _, _, _, rfl, hS, ⟨cell_of_blk hx rfl, cell_of_blk hx rfl, cell_of_blk hx rfl, cell_of_blk hx rfl⟩, h2.later hb⟩
 | 2, _ => exact ⟨⟨W.heap.size, 0, none⟩, _, _, _, _, rfl, hS, ⟨cell_of_blk hx rfl, cell_of_blk hx rfl, cell_of_blk hx rfl, cell_of_blk hx rfl⟩, h3.later hb⟩
 | 3, _ => exact ⟨⟨W.heap.size, 0, none⟩, _, _, _, _, rfl, hS, ⟨cell_of_blk hx rfl, cell_of_blk hx rfl, cell_of_blk hx rfl, cell_of_blk hx rfl⟩, h4.later hb⟩
theorem fld0 (k : Int) (hk : 0 ≤ k ∧ k < 256) : Fld k 0 ⟨#[]⟩ := ⟨hk, ⟨by omega, by omega⟩, by decide⟩
theorem bSVw (a0 a1 a2 : Value) (w : World) : (Instr.buildSlice 22 1 #[(0, .agg #[a0, a1, a2])]).run Tryz.prog w = .ok (.slice (some ⟨w.heap.size, 0, none⟩) 1 1) (w.alloc (.cells #[a0, a1, a2] 58)) := by kernel_rfl
theorem bPgA (A B : Option Addr) (l c m d : Nat) (k n : Int) (s : ByteArray) (w : World) : (Instr.build 28 #[(0, .slice A l c), (2, nv k n s B m d)]).run Tryz.prog w = .ok (.agg #[.slice A l c, .slice none 0 0, .int .u8 k, .int .i64 n, .string s, .slice B m d]) w := by kernel_rfl
theorem bII1A (A : Option Addr) (l c : Nat) (w : World) : (Instr.buildSlice 29 1 #[(0, .slice A l c)]).run Tryz.prog w = .ok (.slice (some ⟨w.heap.size, 0, none⟩) 1 1) (w.alloc (.cells #[.slice A l c] 30)) := by kernel_rfl
set_option maxHeartbeats 4000000 in
set_option maxRecDepth 100000 in
theorem awake_any (w : World) : Calls Tryz.prog 13 #[] w fun e w' => e = .returned (.bool true) ∧ Below w.heap.size w w' := by
 have hmf : ∀ (fn : Fn) (first cap : Array Value) (w : World), (Instr.makeFunc fn first cap).run Tryz.prog w = .ok (.func fn first cap) w := fun _ _ _ _ => rfl
 have h1 := bSN1
 have h2 := bSN2
 have h3 := bNk
 have h4 := bSN4
 go_enter Tryz.func13, Tryz.ntmps13
 go_wp2_with fail
 refine (av_any ⟨#[120]⟩ w).mono ?_
 rintro e w1 ⟨rfl, b1⟩
 have hb2 := bl_al b1 (.cells #[.int .u8 2, .int .i64 0, .string ⟨#[120]⟩, .slice none 0 0] 26)
 have kx := heap_alloc_new w1 (.cells #[.int .u8 2, .int .i64 0, .string ⟨#[120]⟩, .slice none 0 0] 26)
 go_upto_region 4 with fail
 obtain ⟨xb, hxb⟩ : ∃ x, w1.heap.size = x := ⟨_, rfl⟩
 obtain ⟨w2, hw2⟩ : ∃ x, w1.alloc (.cells #[.int .u8 2, .int .i64 0, .string ⟨#[120]⟩, .slice none 0 0] 26) = x := ⟨_, rfl⟩
 rw [hw2] at hb2 kx ⊢
 rw [hxb] at kx ⊢
 have HB2 := Lib.hid hb2
 have HKX := Lib.hid kx
 clear b1 hb2 kx
 clear hw2 hxb
 have HSS := Lib.hid (show ∀ w', Below w2.heap.size w2 w' → (fun w' : World => w'.cell? ⟨xb, 0, none⟩ = some (.int .u8 2) ∧ w'.cell? ⟨xb, 1, none⟩ = some (.int .i64 0) ∧ w'.cell? ⟨xb, 2, none⟩ = some (.string ⟨#[120]⟩) ∧ w'.cell? ⟨xb, 3, none⟩ = some (.slice none 0 0)) w' from fun w' hb => ⟨cell_bl hb (cell_of_blk HKX.out rfl), cell_bl hb (cell_of_blk HKX.out rfl), cell_bl hb (cell_of_blk HKX.out rfl), cell_bl hb (cell_of_blk HKX.out rfl)⟩)
 have hSS : (fun w' : World => w'.cell? ⟨xb, 0, none⟩ = some (.int .u8 2) ∧ w'.cell? ⟨xb, 1, none⟩ = some (.int .i64 0) ∧ w'.cell? ⟨xb, 2, none⟩ = some (.string ⟨#[120]⟩) ∧ w'.cell? ⟨xb, 3, none⟩ = some (.slice none 0 0)) w2.drew ∧ (fun _ : World => True) w2.drew := ⟨HSS.out _ (Below.refl _ _).drew, trivial⟩
 refine wp_region_noPanic ?_
 refine wp_region_G (fun w' : World => w'.cell? ⟨xb, 0, none⟩ = some (.int .u8 2) ∧ w'.cell? ⟨xb, 1, none⟩ = some (.int .i64 0) ∧ w'.cell? ⟨xb, 2, none⟩ = some (.string ⟨#[120]⟩) ∧ w'.cell? ⟨xb, 3, none⟩ = some (.slice none 0 0)) (fun _ : World => True) 16 (by kernel_rfl) ?_
 refine wpG_take1 (i := 0) (v := ?_) rfl (by kernel_rfl) (by kernel_rfl) (by kernel_rfl) (by decide) (fun _ _ _ h => h) (Or.inl ⟨by rfl, ?_⟩) hSS ?_
 rotate_left 1
 ·(intro w hSw; (try dsimp only at hSw); (try simp only [zA, zC]); go_simp; (try with_reducible rfl))
 (try simp only [Act.put, zA, zC, zD, zE, zF])
 refine wpG_take1 (i := 2) (v := ?_) rfl (by kernel_rfl) (by kernel_rfl) (by kernel_rfl) (by decide) (fun _ _ _ h => h) (Or.inl ⟨by rfl, ?_⟩) hSS ?_
 rotate_left 1
 ·(intro w hSw; (try dsimp only at hSw); (try simp only [zA, zB, zC]); go_simp; (try with_reducible rfl))
 (try simp only [Act.put, zA, zB, zC, zD, zE, zF])
 refine wpG_take1 (i := 3) (v := ?_) rfl (by kernel_rfl) (by kernel_rfl) (by kernel_rfl) (by decide) (fun _ _ _ h => h) (Or.inl ⟨by rfl, ?_⟩) hSS ?_
 rotate_left 1
 ·(intro w hSw; (try dsimp only at hSw); (try simp only [zA, zB, zC]); go_simp; (try with_reducible rfl))
 (try simp only [Act.put, zA, zB, zC, zD, zE, zF])
 refine wpG_take1 (i := 9) (v := ?_) rfl (by kernel_rfl) (by kernel_rfl) (by kernel_rfl) (by decide) (fun _ _ _ h => h) (Or.inl ⟨by rfl, ?_⟩) hSS ?_
 rotate_left 1
 ·(intro w hSw; (try dsimp only at hSw); (try simp only [zA, zB, zC]); go_simp; (try with_reducible rfl))
 (try simp only [Act.put, zA, zB, zC, zD, zE, zF])
 refine wpG_take1 (i := 11) (v := ?_) rfl (by kernel_rfl) (by kernel_rfl) (by kernel_rfl) (by decide) (fun _ _ _ h => h) (Or.inl ⟨by rfl, ?_⟩) hSS ?_
 rotate_left 1
 ·(intro w hSw; (try dsimp only at hSw); (try simp only [zA, zB, zC]); go_simp; (try with_reducible rfl))
 (try simp only [Act.put, zA, zB, zC, zD, zE, zF])
 -- operation 1
 have hI : (fun w => Below w2.heap.size w2 w) w2.drew := (Below.refl _ _).drew
 clear hSS
 refine wpG_alt (i := 1) (j := 15) (some 11) (some 4) 10 (fun li l4 => #[true, li, true, true, false, false, false, false, false, true, false, true, false, false, false, l4, false]) _ (fun w => Below w2.heap.size w2 w) (fun u w => ∃ b, u = .pointer (some ⟨b, 0, none⟩) ∧ w2.heap.size ≤ b ∧ w.heap[b]? = some (.cells #[.int .u8 0, .int .i64 0, .string ⟨#[]⟩, .slice none 0 0] 26 (0, 0))) (fun v w => ∃ A c, v = nv 16 0 ⟨#[]⟩ A 2 c ∧ NV w Any (eqT 0) v) rfl rfl rfl rfl (by kernel_rfl) (by kernel_rfl) (fun l4 => by cases l4 <;> rfl) rfl (fun w h => ⟨HSS.out _ h, trivial⟩) (fun w w' h hb => ?_) (fun u w w' h hb => ?_) (fun v4 K w h hK0 => ?_) (fun v4 K w h hK0 => ?_) (fun u v => ?_) (fun l4 v4 v wc h hF hA hU => ?_) false undef w2.drew hI (fun h => by cases h) (fun _ => rfl) ?_
 ·have hb0 := h
  exact bl_tt hb0 hb
 ·obtain ⟨b, e1, e2, e3⟩ := h
  exact ⟨b, e1, e2, blk_bl e3 hb⟩
 ·have hb0 := h
  have hK := Lib.hid hK0
  clear hK0
  have had := aeq_any 0 ⟨by decide, by decide⟩ xb w (blk_bl HKX.out hb0)
  rw [show (#[Value.int .i64 0, .pointer (some ⟨xb, 0, none⟩)] : Array Value) = [Value.int .i64 0].toArray ++ #[.pointer (some ⟨xb, 0, none⟩)] from rfl] at had
  refine step_callC (by rfl) (.tmp 10) [.const (.int .i64 0)] _ (by rfl) 26 _ fnEqA #[.pointer (some ⟨xb, 0, none⟩)] (by rfl) _ (by rfl) _ had ?_
  rintro v w' ⟨A, c, rfl, hn, hb⟩
  exact hK.out _ _ hb ⟨A, c, rfl, hn⟩
 ·have hb0 := h
  have hK := Lib.hid hK0
  clear hK0
  (try simp only [Act.put, zA, zB, zC, zD, zE, zF])
  (try simp only [zA, zB, zC])
  go_simp
  exact hK.out _ _ (bl_al (Below.refl _ _) _) ⟨_, rfl, hb0.size, heap_alloc_new w _⟩
 ·simp only [Act.put, zD, zE, zF]
 rotate_left 1
 ·simp only [Act.put, zD, zE, zF]
 (try simp only [Act.put, zA, zB, zC, zD, zE, zF])
 obtain ⟨A11, c11, rfl, m11⟩ := hF
 clear hI
 have hb0 := h
 have hI : (fun w => Below w2.heap.size w2 w ∧ NV w Any (eqT 0) (nv 16 0 ⟨#[]⟩ A11 2 c11)) wc := ⟨hb0, m11⟩
 have hA4 := hA
 have hU4 := hU
 clear hA hU hb0
 -- operation 4
 refine wpG_alt (i := 4) (j := 15) (some 14) (some 4) 9 (fun li l4 => #[true, true, true, true, li, false, false, false, false, true, false, true, false, false, false, l4, false]) _ (fun w => Below w2.heap.size w2 w ∧ NV w Any (eqT 0) (nv 16 0 ⟨#[]⟩ A11 2 c11)) (fun u w => ∃ b, u = .pointer (some ⟨b, 0, none⟩) ∧ w2.heap.size ≤ b ∧ w.heap[b]? = some (.cells #[.int .u8 0, .int .i64 0, .string ⟨#[]⟩, .slice none 0 0] 26 (0, 0))) (fun v w => v = nv 1 1 ⟨#[]⟩ none 0 0) rfl rfl rfl rfl (by kernel_rfl) (by kernel_rfl) (fun l4 => by cases l4 <;> rfl) rfl (fun w h => ⟨HSS.out _ h.1, trivial⟩) (fun w w' h hb => ?_) (fun u w w' h hb => ?_) (fun v4 K w h hK0 => ?_) (fun v4 K w h hK0 => ?_) (fun u v => ?_) (fun l4 v4 v wc h hF hA hU => ?_) l4 v4 wc hI hA4 hU4 ?_
 ·obtain ⟨hb0, n11⟩ := h
  exact ⟨bl_tt hb0 hb, n11.later hb⟩
 ·obtain ⟨b, e1, e2, e3⟩ := h
  exact ⟨b, e1, e2, blk_bl e3 hb⟩
 ·obtain ⟨hb0, n11⟩ := h
  have hK := Lib.hid hK0
  clear hK0
  refine step_callL (by rfl) (.func 27) [.const (.int .i64 1)] _ (by rfl) 27 _ fnNumA (by rfl) _ (by rfl) (fun v w' => v = nv 1 1 ⟨#[]⟩ none 0 0 ∧ Below w.heap.size w w') ((anum_any 1 w).mono fun e w' ⟨h1, h2⟩ => ⟨_, h1, rfl, h2⟩) ?_
  rintro v w' ⟨rfl, hb⟩
  exact hK.out _ _ hb rfl
 ·obtain ⟨hb0, n11⟩ := h
  have hK := Lib.hid hK0
  clear hK0
  (try simp only [Act.put, zA, zB, zC, zD, zE, zF])
  (try simp only [zA, zB, zC])
  go_simp
  exact hK.out _ _ (bl_al (Below.refl _ _) _) ⟨_, rfl, hb0.size, heap_alloc_new w _⟩
 ·simp only [Act.put, zD, zE, zF]
 rotate_left 1
 ·simp only [Act.put, zD, zE, zF]
 (try simp only [Act.put, zA, zB, zC, zD, zE, zF])
 subst hF
 clear hI hA4 hU4
 obtain ⟨hb0, n11⟩ := h
 have hI : (fun w => Below w2.heap.size w2 w ∧ NV w Any (eqT 0) (nv 16 0 ⟨#[]⟩ A11 2 c11)) wc := ⟨hb0, n11⟩
 have hA4 := hA
 have hU4 := hU
 clear hA hU n11 hb0
 -- operation 5
 refine wpG_alt (i := 5) (j := 15) (some 15) (some 4) 8 (fun li l4 => #[true, true, true, true, true, li, false, false, false, true, false, true, false, false, false, l4, false]) _ (fun w => Below w2.heap.size w2 w ∧ NV w Any (eqT 0) (nv 16 0 ⟨#[]⟩ A11 2 c11)) (fun u w => ∃ b, u = .pointer (some ⟨b, 0, none⟩) ∧ w2.heap.size ≤ b ∧ w.heap[b]? = some (.cells #[.int .u8 0, .int .i64 0, .string ⟨#[]⟩, .slice none 0 0] 26 (0, 0))) (fun v w => ∃ b, v = .slice (some ⟨b, 0, none⟩) 2 2 ∧ NV w Any plT (nv 40 0 ⟨#[]⟩ (some ⟨b, 0, none⟩) 2 2)) rfl rfl rfl rfl (by kernel_rfl) (by kernel_rfl) (fun l4 => by cases l4 <;> rfl) rfl (fun w h => ⟨HSS.out _ h.1, trivial⟩) (fun w w' h hb => ?_) (fun u w w' h hb => ?_) (fun v4 K w h hK0 => ?_) (fun v4 K w h hK0 => ?_) (fun u v => ?_) (fun l4 v4 v wc h hF hA hU => ?_) l4 v4 wc hI hA4 hU4 ?_
 ·obtain ⟨hb0, n11⟩ := h
  exact ⟨bl_tt hb0 hb, n11.later hb⟩
 ·obtain ⟨b, e1, e2, e3⟩ := h
  exact ⟨b, e1, e2, blk_bl e3 hb⟩
 ·obtain ⟨hb0, n11⟩ := h
  have hK := Lib.hid hK0
  clear hK0
  (try simp only [Act.put, zA, zB, zC, zD, zE, zF])
  (try simp only [zA, zB, zC])
  go_simp
  exact hK.out _ _ (bl_al (Below.refl _ _) _) ⟨_, rfl, NV_two w 26 (S := Any) trivial (t1 := xT) (t2 := nT 1) (fld0 40 (by omega)) (NV_leaf w Any ⟨⟨by omega, by omega⟩, ⟨by omega, by omega⟩, by decide⟩) (NV_leaf w Any ⟨⟨by omega, by omega⟩, ⟨by omega, by omega⟩, by decide⟩)⟩
 ·obtain ⟨hb0, n11⟩ := h
  have hK := Lib.hid hK0
  clear hK0
  (try simp only [Act.put, zA, zB, zC, zD, zE, zF])
  (try simp only [zA, zB, zC])
  go_simp
  exact hK.out _ _ (bl_al (Below.refl _ _) _) ⟨_, rfl, hb0.size, heap_alloc_new w _⟩
 ·simp only [Act.put, zD, zE, zF]
 rotate_left 1
 ·simp only [Act.put, zD, zE, zF]
 (try simp only [Act.put, zA, zB, zC, zD, zE, zF])
 obtain ⟨b15, rfl, m15⟩ := hF
 clear hI hA4 hU4
 obtain ⟨hb0, n11⟩ := h
 have hI : (fun w => Below w2.heap.size w2 w ∧ NV w Any (eqT 0) (nv 16 0 ⟨#[]⟩ A11 2 c11) ∧ NV w Any plT (nv 40 0 ⟨#[]⟩ (some ⟨b15, 0, none⟩) 2 2)) wc := ⟨hb0, n11, m15⟩
 have hA4 := hA
 have hU4 := hU
 clear hA hU n11 hb0
 -- operation 6
 refine wpG_alt (i := 6) (j := 15) (some 16) (some 4) 7 (fun li l4 => #[true, true, true, true, true, true, li, false, false, true, false, true, false, false, false, l4, false]) _ (fun w => Below w2.heap.size w2 w ∧ NV w Any (eqT 0) (nv 16 0 ⟨#[]⟩ A11 2 c11) ∧ NV w Any plT (nv 40 0 ⟨#[]⟩ (some ⟨b15, 0, none⟩) 2 2)) (fun u w => ∃ b, u = .pointer (some ⟨b, 0, none⟩) ∧ w2.heap.size ≤ b ∧ w.heap[b]? = some (.cells #[.int .u8 0, .int .i64 0, .string ⟨#[]⟩, .slice none 0 0] 26 (0, 0))) (fun v w => ∃ A c, v = nv 40 0 ⟨#[]⟩ A 2 c ∧ NV w Any plT v) rfl rfl rfl rfl (by kernel_rfl) (by kernel_rfl) (fun l4 => by cases l4 <;> rfl) rfl (fun w h => ⟨HSS.out _ h.1, trivial⟩) (fun w w' h hb => ?_) (fun u w w' h hb => ?_) (fun v4 K w h hK0 => ?_) (fun v4 K w h hK0 => ?_) (fun u v => ?_) (fun l4 v4 v wc h hF hA hU => ?_) l4 v4 wc hI hA4 hU4 ?_
 ·obtain ⟨hb0, n11, n15⟩ := h
  exact ⟨bl_tt hb0 hb, n11.later hb, n15.later hb⟩
 ·obtain ⟨b, e1, e2, e3⟩ := h
  exact ⟨b, e1, e2, blk_bl e3 hb⟩
 ·obtain ⟨hb0, n11, n15⟩ := h
  have hK := Lib.hid hK0
  clear hK0
  (try simp only [Act.put, zA, zB, zC, zD, zE, zF])
  (try simp only [zA, zB, zC])
  go_simp
  exact hK.out _ _ (Below.refl _ _) ⟨_, _, rfl, n15⟩
 ·obtain ⟨hb0, n11, n15⟩ := h
  have hK := Lib.hid hK0
  clear hK0
  (try simp only [Act.put, zA, zB, zC, zD, zE, zF])
  (try simp only [zA, zB, zC])
  go_simp
  exact hK.out _ _ (bl_al (Below.refl _ _) _) ⟨_, rfl, hb0.size, heap_alloc_new w _⟩
 ·simp only [Act.put, zD, zE, zF]
 rotate_left 1
 ·simp only [Act.put, zD, zE, zF]
 (try simp only [Act.put, zA, zB, zC, zD, zE, zF])
 obtain ⟨A16, c16, rfl, m16⟩ := hF
 clear hI hA4 hU4
 obtain ⟨hb0, n11, n15⟩ := h
 have hI : (fun w => Below w2.heap.size w2 w ∧ NV w Any (eqT 0) (nv 16 0 ⟨#[]⟩ A11 2 c11) ∧ NV w Any plT (nv 40 0 ⟨#[]⟩ (some ⟨b15, 0, none⟩) 2 2) ∧ NV w Any plT (nv 40 0 ⟨#[]⟩ A16 2 c16)) wc := ⟨hb0, n11, n15, m16⟩
 have hA4 := hA
 have hU4 := hU
 clear hA hU n11 n15 hb0
 -- operation 7
 refine wpG_alt (i := 7) (j := 15) (some 17) (some 4) 6 (fun li l4 => #[true, true, true, true, true, true, true, li, false, true, false, true, false, false, false, l4, false]) _ (fun w => Below w2.heap.size w2 w ∧ NV w Any (eqT 0) (nv 16 0 ⟨#[]⟩ A11 2 c11) ∧ NV w Any plT (nv 40 0 ⟨#[]⟩ (some ⟨b15, 0, none⟩) 2 2) ∧ NV w Any plT (nv 40 0 ⟨#[]⟩ A16 2 c16)) (fun u w => ∃ b, u = .pointer (some ⟨b, 0, none⟩) ∧ w2.heap.size ≤ b ∧ w.heap[b]? = some (.cells #[.int .u8 0, .int .i64 0, .string ⟨#[]⟩, .slice none 0 0] 26 (0, 0))) (fun v w => ∃ b, v = .slice (some ⟨b, 0, none⟩) 1 1 ∧ NV w Any (blT [plT]) (nv 57 0 ⟨#[]⟩ (some ⟨b, 0, none⟩) 1 1)) rfl rfl rfl rfl (by kernel_rfl) (by kernel_rfl) (fun l4 => by cases l4 <;> rfl) rfl (fun w h => ⟨HSS.out _ h.1, trivial⟩) (fun w w' h hb => ?_) (fun u w w' h hb => ?_) (fun v4 K w h hK0 => ?_) (fun v4 K w h hK0 => ?_) (fun u v => ?_) (fun l4 v4 v wc h hF hA hU => ?_) l4 v4 wc hI hA4 hU4 ?_
 ·obtain ⟨hb0, n11, n15, n16⟩ := h
  exact ⟨bl_tt hb0 hb, n11.later hb, n15.later hb, n16.later hb⟩
 ·obtain ⟨b, e1, e2, e3⟩ := h
  exact ⟨b, e1, e2, blk_bl e3 hb⟩
 ·obtain ⟨hb0, n11, n15, n16⟩ := h
  have hK := Lib.hid hK0
  clear hK0
  (try simp only [Act.put, zA, zB, zC, zD, zE, zF])
  (try simp only [zA, zB, zC])
  go_simp
  exact hK.out _ _ (bl_al (Below.refl _ _) _) ⟨_, rfl, NV_one w 26 (S := Any) trivial (fld0 57 (by omega)) n16⟩
 ·obtain ⟨hb0, n11, n15, n16⟩ := h
  have hK := Lib.hid hK0
  clear hK0
  (try simp only [Act.put, zA, zB, zC, zD, zE, zF])
  (try simp only [zA, zB, zC])
  go_simp
  exact hK.out _ _ (bl_al (Below.refl _ _) _) ⟨_, rfl, hb0.size, heap_alloc_new w _⟩
 ·simp only [Act.put, zD, zE, zF]
 rotate_left 1
 ·simp only [Act.put, zD, zE, zF]
 (try simp only [Act.put, zA, zB, zC, zD, zE, zF])
 obtain ⟨b17, rfl, m17⟩ := hF
 clear hI hA4 hU4
 obtain ⟨hb0, n11, n15, n16⟩ := h
 have hI : (fun w => Below w2.heap.size w2 w ∧ NV w Any (eqT 0) (nv 16 0 ⟨#[]⟩ A11 2 c11) ∧ NV w Any plT (nv 40 0 ⟨#[]⟩ (some ⟨b15, 0, none⟩) 2 2) ∧ NV w Any plT (nv 40 0 ⟨#[]⟩ A16 2 c16) ∧ NV w Any (blT [plT]) (nv 57 0 ⟨#[]⟩ (some ⟨b17, 0, none⟩) 1 1)) wc := ⟨hb0, n11, n15, n16, m17⟩
 have hA4 := hA
 have hU4 := hU
 clear hA hU n11 n15 n16 hb0
 -- operation 8
 refine wpG_alt (i := 8) (j := 15) (some 18) (some 4) 5 (fun li l4 => #[true, true, true, true, true, true, true, true, li, true, false, true, false, false, false, l4, false]) _ (fun w => Below w2.heap.size w2 w ∧ NV w Any (eqT 0) (nv 16 0 ⟨#[]⟩ A11 2 c11) ∧ NV w Any plT (nv 40 0 ⟨#[]⟩ (some ⟨b15, 0, none⟩) 2 2) ∧ NV w Any plT (nv 40 0 ⟨#[]⟩ A16 2 c16) ∧ NV w Any (blT [plT]) (nv 57 0 ⟨#[]⟩ (some ⟨b17, 0, none⟩) 1 1)) (fun u w => ∃ b, u = .pointer (some ⟨b, 0, none⟩) ∧ w2.heap.size ≤ b ∧ w.heap[b]? = some (.cells #[.int .u8 0, .int .i64 0, .string ⟨#[]⟩, .slice none 0 0] 26 (0, 0))) (fun v w => ∃ A c, v = nv 57 0 ⟨#[]⟩ A 1 c ∧ NV w Any (blT [plT]) v) rfl rfl rfl rfl (by kernel_rfl) (by kernel_rfl) (fun l4 => by cases l4 <;> rfl) rfl (fun w h => ⟨HSS.out _ h.1, trivial⟩) (fun w w' h hb => ?_) (fun u w w' h hb => ?_) (fun v4 K w h hK0 => ?_) (fun v4 K w h hK0 => ?_) (fun u v => ?_) (fun l4 v4 v wc h hF hA hU => ?_) l4 v4 wc hI hA4 hU4 ?_
 ·obtain ⟨hb0, n11, n15, n16, n17⟩ := h
  exact ⟨bl_tt hb0 hb, n11.later hb, n15.later hb, n16.later hb, n17.later hb⟩
 ·obtain ⟨b, e1, e2, e3⟩ := h
  exact ⟨b, e1, e2, blk_bl e3 hb⟩
 ·obtain ⟨hb0, n11, n15, n16, n17⟩ := h
  have hK := Lib.hid hK0
  clear hK0
  refine step_callL (by rfl) (.tmp 12) [.tmp 17] _ (by rfl) 28 _ fnBlkA (by rfl) _ (by rfl) (fun v w' => v = nv 57 0 ⟨#[]⟩ (some ⟨b17, 0, none⟩) 1 1 ∧ Below w.heap.size w w') ((ablk_any (some ⟨b17, 0, none⟩) 1 1 w).mono fun e w' ⟨h1, h2⟩ => ⟨_, h1, rfl, h2⟩) ?_
  rintro v w' ⟨rfl, hb⟩
  exact hK.out _ _ hb ⟨_, _, rfl, n17.later hb⟩
 ·obtain ⟨hb0, n11, n15, n16, n17⟩ := h
  have hK := Lib.hid hK0
  clear hK0
  (try simp only [Act.put, zA, zB, zC, zD, zE, zF])
  (try simp only [zA, zB, zC])
  go_simp
  exact hK.out _ _ (bl_al (Below.refl _ _) _) ⟨_, rfl, hb0.size, heap_alloc_new w _⟩
 ·simp only [Act.put, zD, zE, zF]
 rotate_left 1
 ·simp only [Act.put, zD, zE, zF]
 (try simp only [Act.put, zA, zB, zC, zD, zE, zF])
 obtain ⟨A18, c18, rfl, m18⟩ := hF
 clear hI hA4 hU4
 obtain ⟨hb0, n11, n15, n16, n17⟩ := h
 have hI : (fun w => Below w2.heap.size w2 w ∧ NV w Any (eqT 0) (nv 16 0 ⟨#[]⟩ A11 2 c11) ∧ NV w Any plT (nv 40 0 ⟨#[]⟩ (some ⟨b15, 0, none⟩) 2 2) ∧ NV w Any plT (nv 40 0 ⟨#[]⟩ A16 2 c16) ∧ NV w Any (blT [plT]) (nv 57 0 ⟨#[]⟩ (some ⟨b17, 0, none⟩) 1 1) ∧ NV w Any (blT [plT]) (nv 57 0 ⟨#[]⟩ A18 1 c18)) wc := ⟨hb0, n11, n15, n16, n17, m18⟩
 have hA4 := hA
 have hU4 := hU
 clear hA hU n11 n15 n16 n17 hb0
 -- operation 10
 refine wpG_alt (i := 10) (j := 15) (some 20) (some 4) 4 (fun li l4 => #[true, true, true, true, true, true, true, true, true, true, li, true, false, false, false, l4, false]) _ (fun w => Below w2.heap.size w2 w ∧ NV w Any (eqT 0) (nv 16 0 ⟨#[]⟩ A11 2 c11) ∧ NV w Any plT (nv 40 0 ⟨#[]⟩ (some ⟨b15, 0, none⟩) 2 2) ∧ NV w Any plT (nv 40 0 ⟨#[]⟩ A16 2 c16) ∧ NV w Any (blT [plT]) (nv 57 0 ⟨#[]⟩ (some ⟨b17, 0, none⟩) 1 1) ∧ NV w Any (blT [plT]) (nv 57 0 ⟨#[]⟩ A18 1 c18)) (fun u w => ∃ b, u = .pointer (some ⟨b, 0, none⟩) ∧ w2.heap.size ≤ b ∧ w.heap[b]? = some (.cells #[.int .u8 0, .int .i64 0, .string ⟨#[]⟩, .slice none 0 0] 26 (0, 0))) (fun v w => ∃ A c, v = nv 57 0 ⟨#[]⟩ A 0 c ∧ NV w Any (blT []) v) rfl rfl rfl rfl (by kernel_rfl) (by kernel_rfl) (fun l4 => by cases l4 <;> rfl) rfl (fun w h => ⟨HSS.out _ h.1, trivial⟩) (fun w w' h hb => ?_) (fun u w w' h hb => ?_) (fun v4 K w h hK0 => ?_) (fun v4 K w h hK0 => ?_) (fun u v => ?_) (fun l4 v4 v wc h hF hA hU => ?_) l4 v4 wc hI hA4 hU4 ?_
 ·obtain ⟨hb0, n11, n15, n16, n17, n18⟩ := h
  exact ⟨bl_tt hb0 hb, n11.later hb, n15.later hb, n16.later hb, n17.later hb, n18.later hb⟩
 ·obtain ⟨b, e1, e2, e3⟩ := h
  exact ⟨b, e1, e2, blk_bl e3 hb⟩
 ·obtain ⟨hb0, n11, n15, n16, n17, n18⟩ := h
  have hK := Lib.hid hK0
  clear hK0
  refine step_callL (by rfl) (.tmp 19) [.const (.slice none 0 0)] _ (by rfl) 28 _ fnBlkA (by rfl) _ (by rfl) (fun v w' => v = nv 57 0 ⟨#[]⟩ none 0 0 ∧ Below w.heap.size w w') ((ablk_any none 0 0 w).mono fun e w' ⟨h1, h2⟩ => ⟨_, h1, rfl, h2⟩) ?_
  rintro v w' ⟨rfl, hb⟩
  exact hK.out _ _ hb ⟨_, _, rfl, NV_leaf w' Any (fld0 57 (by omega))⟩
 ·obtain ⟨hb0, n11, n15, n16, n17, n18⟩ := h
  have hK := Lib.hid hK0
  clear hK0
  (try simp only [Act.put, zA, zB, zC, zD, zE, zF])
  (try simp only [zA, zB, zC])
  go_simp
  exact hK.out _ _ (bl_al (Below.refl _ _) _) ⟨_, rfl, hb0.size, heap_alloc_new w _⟩
 ·simp only [Act.put, zD, zE, zF]
 rotate_left 1
 ·simp only [Act.put, zD, zE, zF]
 (try simp only [Act.put, zA, zB, zC, zD, zE, zF])
 obtain ⟨A20, c20, rfl, m20⟩ := hF
 clear hI hA4 hU4
 obtain ⟨hb0, n11, n15, n16, n17, n18⟩ := h
 have hI : (fun w => Below w2.heap.size w2 w ∧ NV w Any (eqT 0) (nv 16 0 ⟨#[]⟩ A11 2 c11) ∧ NV w Any plT (nv 40 0 ⟨#[]⟩ (some ⟨b15, 0, none⟩) 2 2) ∧ NV w Any plT (nv 40 0 ⟨#[]⟩ A16 2 c16) ∧ NV w Any (blT [plT]) (nv 57 0 ⟨#[]⟩ (some ⟨b17, 0, none⟩) 1 1) ∧ NV w Any (blT [plT]) (nv 57 0 ⟨#[]⟩ A18 1 c18) ∧ NV w Any (blT []) (nv 57 0 ⟨#[]⟩ A20 0 c20)) wc := ⟨hb0, n11, n15, n16, n17, n18, m20⟩
 have hA4 := hA
 have hU4 := hU
 clear hA hU n11 n15 n16 n17 n18 hb0
 -- operation 12
 refine wpG_alt (i := 12) (j := 15) (some 22) (some 4) 3 (fun li l4 => #[true, true, true, true, true, true, true, true, true, true, true, true, li, false, false, l4, false]) _ (fun w => Below w2.heap.size w2 w ∧ NV w Any (eqT 0) (nv 16 0 ⟨#[]⟩ A11 2 c11) ∧ NV w Any plT (nv 40 0 ⟨#[]⟩ (some ⟨b15, 0, none⟩) 2 2) ∧ NV w Any plT (nv 40 0 ⟨#[]⟩ A16 2 c16) ∧ NV w Any (blT [plT]) (nv 57 0 ⟨#[]⟩ (some ⟨b17, 0, none⟩) 1 1) ∧ NV w Any (blT [plT]) (nv 57 0 ⟨#[]⟩ A18 1 c18) ∧ NV w Any (blT []) (nv 57 0 ⟨#[]⟩ A20 0 c20)) (fun u w => ∃ b, u = .pointer (some ⟨b, 0, none⟩) ∧ w2.heap.size ≤ b ∧ w.heap[b]? = some (.cells #[.int .u8 0, .int .i64 0, .string ⟨#[]⟩, .slice none 0 0] 26 (0, 0))) (fun v w => ∃ A c, v = nv 16 0 ⟨#[]⟩ A 2 c ∧ NV w Any (eqT 3) v) rfl rfl rfl rfl (by kernel_rfl) (by kernel_rfl) (fun l4 => by cases l4 <;> rfl) rfl (fun w h => ⟨HSS.out _ h.1, trivial⟩) (fun w w' h hb => ?_) (fun u w w' h hb => ?_) (fun v4 K w h hK0 => ?_) (fun v4 K w h hK0 => ?_) (fun u v => ?_) (fun l4 v4 v wc h hF hA hU => ?_) l4 v4 wc hI hA4 hU4 ?_
 ·obtain ⟨hb0, n11, n15, n16, n17, n18, n20⟩ := h
  exact ⟨bl_tt hb0 hb, n11.later hb, n15.later hb, n16.later hb, n17.later hb, n18.later hb, n20.later hb⟩
 ·obtain ⟨b, e1, e2, e3⟩ := h
  exact ⟨b, e1, e2, blk_bl e3 hb⟩
 ·obtain ⟨hb0, n11, n15, n16, n17, n18, n20⟩ := h
  have hK := Lib.hid hK0
  clear hK0
  have had := aeq_any 3 ⟨by decide, by decide⟩ xb w (blk_bl HKX.out hb0)
  rw [show (#[Value.int .i64 3, .pointer (some ⟨xb, 0, none⟩)] : Array Value) = [Value.int .i64 3].toArray ++ #[.pointer (some ⟨xb, 0, none⟩)] from rfl] at had
  refine step_callC (by rfl) (.tmp 21) [.const (.int .i64 3)] _ (by rfl) 26 _ fnEqA #[.pointer (some ⟨xb, 0, none⟩)] (by rfl) _ (by rfl) _ had ?_
  rintro v w' ⟨A, c, rfl, hn, hb⟩
  exact hK.out _ _ hb ⟨A, c, rfl, hn⟩
 ·obtain ⟨hb0, n11, n15, n16, n17, n18, n20⟩ := h
  have hK := Lib.hid hK0
  clear hK0
  (try simp only [Act.put, zA, zB, zC, zD, zE, zF])
  (try simp only [zA, zB, zC])
  go_simp
  exact hK.out _ _ (bl_al (Below.refl _ _) _) ⟨_, rfl, hb0.size, heap_alloc_new w _⟩
 ·simp only [Act.put, zD, zE, zF]
 rotate_left 1
 ·simp only [Act.put, zD, zE, zF]
 (try simp only [Act.put, zA, zB, zC, zD, zE, zF])
 obtain ⟨A22, c22, rfl, m22⟩ := hF
 clear hI hA4 hU4
 obtain ⟨hb0, n11, n15, n16, n17, n18, n20⟩ := h
 have hI : (fun w => Below w2.heap.size w2 w ∧ NV w Any (eqT 0) (nv 16 0 ⟨#[]⟩ A11 2 c11) ∧ NV w Any plT (nv 40 0 ⟨#[]⟩ (some ⟨b15, 0, none⟩) 2 2) ∧ NV w Any plT (nv 40 0 ⟨#[]⟩ A16 2 c16) ∧ NV w Any (blT [plT]) (nv 57 0 ⟨#[]⟩ (some ⟨b17, 0, none⟩) 1 1) ∧ NV w Any (blT [plT]) (nv 57 0 ⟨#[]⟩ A18 1 c18) ∧ NV w Any (blT []) (nv 57 0 ⟨#[]⟩ A20 0 c20) ∧ NV w Any (eqT 3) (nv 16 0 ⟨#[]⟩ A22 2 c22)) wc := ⟨hb0, n11, n15, n16, n17, n18, n20, m22⟩
 have hA4 := hA
 have hU4 := hU
 clear hA hU n11 n15 n16 n17 n18 n20 hb0
 -- operation 13
 refine wpG_alt (i := 13) (j := 15) (some 23) (some 4) 2 (fun li l4 => #[true, true, true, true, true, true, true, true, true, true, true, true, true, li, false, l4, false]) _ (fun w => Below w2.heap.size w2 w ∧ NV w Any (eqT 0) (nv 16 0 ⟨#[]⟩ A11 2 c11) ∧ NV w Any plT (nv 40 0 ⟨#[]⟩ (some ⟨b15, 0, none⟩) 2 2) ∧ NV w Any plT (nv 40 0 ⟨#[]⟩ A16 2 c16) ∧ NV w Any (blT [plT]) (nv 57 0 ⟨#[]⟩ (some ⟨b17, 0, none⟩) 1 1) ∧ NV w Any (blT [plT]) (nv 57 0 ⟨#[]⟩ A18 1 c18) ∧ NV w Any (blT []) (nv 57 0 ⟨#[]⟩ A20 0 c20) ∧ NV w Any (eqT 3) (nv 16 0 ⟨#[]⟩ A22 2 c22)) (fun u w => ∃ b, u = .pointer (some ⟨b, 0, none⟩) ∧ w2.heap.size ≤ b ∧ w.heap[b]? = some (.cells #[.int .u8 0, .int .i64 0, .string ⟨#[]⟩, .slice none 0 0] 26 (0, 0))) (fun v w => ∃ b, v = .slice (some ⟨b, 0, none⟩) 4 4 ∧ NV w Any loT (nv 53 0 ⟨#[]⟩ (some ⟨b, 0, none⟩) 4 4)) rfl rfl rfl rfl (by kernel_rfl) (by kernel_rfl) (fun l4 => by cases l4 <;> rfl) rfl (fun w h => ⟨HSS.out _ h.1, trivial⟩) (fun w w' h hb => ?_) (fun u w w' h hb => ?_) (fun v4 K w h hK0 => ?_) (fun v4 K w h hK0 => ?_) (fun u v => ?_) (fun l4 v4 v wc h hF hA hU => ?_) l4 v4 wc hI hA4 hU4 ?_
 ·obtain ⟨hb0, n11, n15, n16, n17, n18, n20, n22⟩ := h
  exact ⟨bl_tt hb0 hb, n11.later hb, n15.later hb, n16.later hb, n17.later hb, n18.later hb, n20.later hb, n22.later hb⟩
 ·obtain ⟨b, e1, e2, e3⟩ := h
  exact ⟨b, e1, e2, blk_bl e3 hb⟩
 ·obtain ⟨hb0, n11, n15, n16, n17, n18, n20, n22⟩ := h
  have hK := Lib.hid hK0
  clear hK0
  (try simp only [Act.put, zA, zB, zC, zD, zE, zF])
  (try simp only [zA, zB, zC])
  go_simp
  exact hK.out _ _ (bl_al (Below.refl _ _) _) ⟨_, rfl, NV_four w 26 (S := Any) trivial (fld0 53 (by omega)) n11 n18 n20 n22⟩
 ·obtain ⟨hb0, n11, n15, n16, n17, n18, n20, n22⟩ := h
  have hK := Lib.hid hK0
  clear hK0
  (try simp only [Act.put, zA, zB, zC, zD, zE, zF])
  (try simp only [zA, zB, zC])
  go_simp
  exact hK.out _ _ (bl_al (Below.refl _ _) _) ⟨_, rfl, hb0.size, heap_alloc_new w _⟩
 ·simp only [Act.put, zD, zE, zF]
 rotate_left 1
 ·simp only [Act.put, zD, zE, zF]
 (try simp only [Act.put, zA, zB, zC, zD, zE, zF])
 obtain ⟨b23, rfl, m23⟩ := hF
 clear hI hA4 hU4
 obtain ⟨hb0, n11, n15, n16, n17, n18, n20, n22⟩ := h
 have hI : (fun w => Below w2.heap.size w2 w ∧ NV w Any (eqT 0) (nv 16 0 ⟨#[]⟩ A11 2 c11) ∧ NV w Any plT (nv 40 0 ⟨#[]⟩ (some ⟨b15, 0, none⟩) 2 2) ∧ NV w Any plT (nv 40 0 ⟨#[]⟩ A16 2 c16) ∧ NV w Any (blT [plT]) (nv 57 0 ⟨#[]⟩ (some ⟨b17, 0, none⟩) 1 1) ∧ NV w Any (blT [plT]) (nv 57 0 ⟨#[]⟩ A18 1 c18) ∧ NV w Any (blT []) (nv 57 0 ⟨#[]⟩ A20 0 c20) ∧ NV w Any (eqT 3) (nv 16 0 ⟨#[]⟩ A22 2 c22) ∧ NV w Any loT (nv 53 0 ⟨#[]⟩ (some ⟨b23, 0, none⟩) 4 4)) wc := ⟨hb0, n11, n15, n16, n17, n18, n20, n22, m23⟩
 have hA4 := hA
 have hU4 := hU
 clear hA hU n11 n15 n16 n17 n18 n20 n22 hb0
 -- operation 14
 refine wpG_alt (i := 14) (j := 15) (some 24) (some 4) 1 (fun li l4 => #[true, true, true, true, true, true, true, true, true, true, true, true, true, true, li, l4, false]) _ (fun w => Below w2.heap.size w2 w ∧ NV w Any (eqT 0) (nv 16 0 ⟨#[]⟩ A11 2 c11) ∧ NV w Any plT (nv 40 0 ⟨#[]⟩ (some ⟨b15, 0, none⟩) 2 2) ∧ NV w Any plT (nv 40 0 ⟨#[]⟩ A16 2 c16) ∧ NV w Any (blT [plT]) (nv 57 0 ⟨#[]⟩ (some ⟨b17, 0, none⟩) 1 1) ∧ NV w Any (blT [plT]) (nv 57 0 ⟨#[]⟩ A18 1 c18) ∧ NV w Any (blT []) (nv 57 0 ⟨#[]⟩ A20 0 c20) ∧ NV w Any (eqT 3) (nv 16 0 ⟨#[]⟩ A22 2 c22) ∧ NV w Any loT (nv 53 0 ⟨#[]⟩ (some ⟨b23, 0, none⟩) 4 4)) (fun u w => ∃ b, u = .pointer (some ⟨b, 0, none⟩) ∧ w2.heap.size ≤ b ∧ w.heap[b]? = some (.cells #[.int .u8 0, .int .i64 0, .string ⟨#[]⟩, .slice none 0 0] 26 (0, 0))) (fun v w => ∃ A c, v = nv 53 0 ⟨#[]⟩ A 4 c ∧ NV w Any loT v) rfl rfl rfl rfl (by kernel_rfl) (by kernel_rfl) (fun l4 => by cases l4 <;> rfl) rfl (fun w h => ⟨HSS.out _ h.1, trivial⟩) (fun w w' h hb => ?_) (fun u w w' h hb => ?_) (fun v4 K w h hK0 => ?_) (fun v4 K w h hK0 => ?_) (fun u v => ?_) (fun l4 v4 v wc h hF hA hU => ?_) l4 v4 wc hI hA4 hU4 ?_
 ·obtain ⟨hb0, n11, n15, n16, n17, n18, n20, n22, n23⟩ := h
  exact ⟨bl_tt hb0 hb, n11.later hb, n15.later hb, n16.later hb, n17.later hb, n18.later hb, n20.later hb, n22.later hb, n23.later hb⟩
 ·obtain ⟨b, e1, e2, e3⟩ := h
  exact ⟨b, e1, e2, blk_bl e3 hb⟩
 ·obtain ⟨hb0, n11, n15, n16, n17, n18, n20, n22, n23⟩ := h
  have hK := Lib.hid hK0
  clear hK0
  (try simp only [Act.put, zA, zB, zC, zD, zE, zF])
  (try simp only [zA, zB, zC])
  go_simp
  exact hK.out _ _ (Below.refl _ _) ⟨_, _, rfl, n23⟩
 ·obtain ⟨hb0, n11, n15, n16, n17, n18, n20, n22, n23⟩ := h
  have hK := Lib.hid hK0
  clear hK0
  (try simp only [Act.put, zA, zB, zC, zD, zE, zF])
  (try simp only [zA, zB, zC])
  go_simp
  exact hK.out _ _ (bl_al (Below.refl _ _) _) ⟨_, rfl, hb0.size, heap_alloc_new w _⟩
 ·simp only [Act.put, zD, zE, zF]
 rotate_left 1
 ·simp only [Act.put, zD, zE, zF]
 (try simp only [Act.put, zA, zB, zC, zD, zE, zF])
 obtain ⟨A24, c24, rfl, m24⟩ := hF
 obtain ⟨hb0, n11, n15, n16, n17, n18, n20, n22, n23⟩ := h
 have hI : (fun w => Below w2.heap.size w2 w ∧ NV w Any loT (nv 53 0 ⟨#[]⟩ A24 4 c24)) wc := ⟨hb0, m24⟩
 clear m11 m15 m16 m17 m18 m20 m22 m23 m24 n11 n15 n16 n17 n18 n20 n22 n23 hb0
 clear hU hA4 hU4
 refine wpG_free (j := 15) (some 4) 1 (fun l4 => #[true, true, true, true, true, true, true, true, true, true, true, true, true, true, true, l4, false]) _ (fun w => Below w2.heap.size w2 w ∧ NV w Any loT (nv 53 0 ⟨#[]⟩ A24 4 c24)) (fun u w => ∃ b, u = .pointer (some ⟨b, 0, none⟩) ∧ w2.heap.size ≤ b ∧ w.heap[b]? = some (.cells #[.int .u8 0, .int .i64 0, .string ⟨#[]⟩, .slice none 0 0] 26 (0, 0))) rfl rfl (by kernel_rfl) rfl (fun w h => ⟨HSS.out _ h.1, trivial⟩) (fun w w' h hb => ⟨bl_tt h.1 hb, h.2.later hb⟩) (fun v4 K w h hK0 => ?_) (fun u v => ?_) (fun v5 w3 h5 hA5 => ?_) l4 v4 wc hI hA ?_
 ·have hb0 := h.1
  have hK := Lib.hid hK0
  clear hK0
  (try simp only [Act.put, zA, zB, zC, zD, zE, zF])
  (try simp only [zA, zB, zC])
  go_simp
  exact hK.out _ _ (bl_al (Below.refl _ _) _) ⟨_, rfl, hb0.size, heap_alloc_new w _⟩
 ·simp only [Act.put, zD, zE, zF]
 rotate_left 1
 ·simp only [Act.put, zD, zE, zF]
 (try simp only [Act.put, zA, zB, zC, zD, zE, zF])
 clear hI hA
 obtain ⟨bb, rfl, hbl, hbz⟩ := hA5
 obtain ⟨hb3, hn3⟩ := h5
 have c0 : w3.cell? ⟨bb, 0, none⟩ = some (.int .u8 0) := cell_of_blk hbz rfl
 have c1 : w3.cell? ⟨bb, 1, none⟩ = some (.int .i64 0) := cell_of_blk hbz rfl
 have c2 : w3.cell? ⟨bb, 2, none⟩ = some (.string ⟨#[]⟩) := cell_of_blk hbz rfl
 have c3 : w3.cell? ⟨bb, 3, none⟩ = some (.slice none 0 0) := cell_of_blk hbz rfl
 have cf : ∀ o, w3.frozen? ⟨bb, o, none⟩ = false := fun _ => frozen_of_blk hbz
 have HBZ := Lib.hid hbz
 have HB3 := Lib.hid hb3
 have HN3 := Lib.hid hn3
 clear hb3 hn3 hbz
 refine wpG_past (i := 16) (by kernel_rfl) rfl (by kernel_rfl) (fun K hK => ?_)
 (try simp only [zA, zB, zC])
 go_simp
 obtain ⟨hh, hch⟩ := set4z (u0 := .int .u8 53) (u1 := .int .i64 0) (u2 := .string ⟨#[]⟩) (u3 := .slice A24 4 c24) HBZ.out
 have hb4 := HB3.out.trans (hch.below HB3.out.size fun b e => by omega)
 have hn4 := (NV.nz HBZ.out loT _ HN3.out (by decide +kernel)).keep (w' := (((w3.setCell ⟨bb, 0, none⟩ (.int .u8 53)).setCell ⟨bb, 1, none⟩ (.int .i64 0)).setCell ⟨bb, 2, none⟩ (.string ⟨#[]⟩)).setCell ⟨bb, 3, none⟩ (.slice A24 4 c24)) (S' := Any) (fun _ _ _ => trivial) fun b hb hlt => hch.block b hlt hb
 obtain ⟨w4, hw4⟩ : ∃ x, (((w3.setCell ⟨bb, 0, none⟩ (.int .u8 53)).setCell ⟨bb, 1, none⟩ (.int .i64 0)).setCell ⟨bb, 2, none⟩ (.string ⟨#[]⟩)).setCell ⟨bb, 3, none⟩ (.slice A24 4 c24) = x := ⟨_, rfl⟩
 rw [hw4] at hh hb4 hn4 ⊢
 have HB4 := Lib.hid hb4
 have HN4 := Lib.hid hn4
 have HH4 := Lib.hid hh
 refine hK.out _ _ (HSS.out _ HB4.out) ?_
 clear hK K HSS c0 c1 c2 c3 cf hw4 hch hb4 hn4 HB3 HN3 HBZ hh h2 h3 h4
 (try simp only [Act.put, zA, zB, zC, zD, zE, zF])
 refine wpG_done (by kernel_rfl) ?_
 refine NoPanic.normal ?_
 obtain ⟨r0, r1, r2, r3⟩ := box4 HH4.out
 have y0 := fun o => cell_al r0 o
 have y1 := fun o => cell_al r1 o
 have y2 := fun o => cell_al r2 o
 have y3 := fun o => cell_al r3 o
 have hv2 := bV2
 have hv1 := bSVw
 have hpp := bPgA
 go_wp2_with fail
 refine (ablk_any _ 1 1 _).mono ?_
 rintro e5 w5 ⟨rfl, b5⟩
 have k1 := blk_bl (blk_al (heap_alloc_new w4 (.cells #[.string ⟨#[120]⟩, .int .u8 1, .int .i64 0] 58)) (.cells #[.int .u8 53, .int .i64 0, .string ⟨#[]⟩, .slice A24 4 c24] 26)) b5
 have hn5 := (NV_one (w4.alloc (.cells #[.string ⟨#[120]⟩, .int .u8 1, .int .i64 0] 58)) 26 (S := Any) trivial (fld0 57 (by omega)) (HN4.out.later (bl_al (Below.refl _ _) _))).later b5
 have b45 := bl_tt (bl_al (bl_al (Below.refl w4.heap.size w4) (.cells #[.string ⟨#[120]⟩, .int .u8 1, .int .i64 0] 58)) (.cells #[.int .u8 53, .int .i64 0, .string ⟨#[]⟩, .slice A24 4 c24] 26)) b5
 rw [World.size_alloc] at hn5
 have HN5 := Lib.hid hn5
 have HK1 := Lib.hid k1
 have HB45 := Lib.hid b45
 clear k1 hn5 b45 b5 r0 r1 r2 r3 y0 y1 y2 y3
 have hi1 := buildI1
 have hii := bII1A
 have hs1 := bS1
 have hbp := bl_al (Below.refl w5.heap.size w5) (.cells #[.slice (some ⟨w4.heap.size, 0, none⟩) 1 1, .slice none 0 0, .int .u8 57, .int .i64 0, .string ⟨#[]⟩, .slice (some ⟨w4.heap.size + 1, 0, none⟩) 1 1] 28)
 have kp := heap_alloc_new w5 (.cells #[.slice (some ⟨w4.heap.size, 0, none⟩) 1 1, .slice none 0 0, .int .u8 57, .int .i64 0, .string ⟨#[]⟩, .slice (some ⟨w4.heap.size + 1, 0, none⟩) 1 1] 28)
 go_upto_region 6 with fail
 obtain ⟨w6, hw6⟩ : ∃ x, w5.alloc (.cells #[.slice (some ⟨w4.heap.size, 0, none⟩) 1 1, .slice none 0 0, .int .u8 57, .int .i64 0, .string ⟨#[]⟩, .slice (some ⟨w4.heap.size + 1, 0, none⟩) 1 1] 28) = x := ⟨_, rfl⟩
 rw [hw6] at hbp kp ⊢
 obtain ⟨pb, hpb⟩ : ∃ x, w5.heap.size = x := ⟨_, rfl⟩
 rw [hpb] at kp ⊢
 have HPV := Lib.hid (fun w' (hb : Below w6.heap.size w6 w') => pv_pgA (W := w') (blk_bl HK1.out (bl_tt hbp hb)) (HN5.out.later (bl_tt hbp hb)))
 have HB26 := Lib.hid (bl_tt HB4.out (bl_tt HB45.out hbp))
 have HKP := Lib.hid kp
 clear hw6 hbp hpb
 have z0 : w6.cell? ⟨pb, 0, none⟩ = some (.slice (some ⟨w4.heap.size, 0, none⟩) 1 1) := cell_of_blk kp rfl
 have z1 : w6.cell? ⟨pb, 1, none⟩ = some (.slice none 0 0) := cell_of_blk kp rfl
 have z2 : w6.cell? ⟨pb, 2, none⟩ = some (.int .u8 57) := cell_of_blk kp rfl
 have z3 : w6.cell? ⟨pb, 3, none⟩ = some (.int .i64 0) := cell_of_blk kp rfl
 have z4 : w6.cell? ⟨pb, 4, none⟩ = some (.string ⟨#[]⟩) := cell_of_blk kp rfl
 have z5 : w6.cell? ⟨pb, 5, none⟩ = some (.slice (some ⟨w4.heap.size + 1, 0, none⟩) 1 1) := cell_of_blk kp rfl
 clear kp
 go_wp2_with fail
 have hbf := bl_al (bl_al (Below.refl w6.heap.size w6) (.cells #[.int .i64 0] 3)) (.cells #[.slice (some ⟨w6.heap.size, 0, none⟩) 1 1] 30)
 have HFW := Lib.hid (Forward_any pgA ⟨[[0]], [], []⟩ 50 102000 _ _ _ (HPV.out _ hbf) (sv_one w6 0 ⟨by decide, by decide⟩) (by decide) ⟨by decide, by decide⟩ (by decide) gas50)
 refine HFW.out.mono ?_
 obtain ⟨ti, to_, en, hres⟩ := res_f
 rintro e7 w7 ⟨v1, v2, v3, rfl, ho7, hb7, -⟩
 rw [hres] at ho7 ⊢
 obtain ⟨cb, c, eb, d, B, d1, D, d2, hv, hc1, hc2⟩ := ho7.one
 injection hv with hv
 simp only [Array.mk.injEq, List.cons.injEq, and_true] at hv
 obtain ⟨rfl, rfl, rfl⟩ := hv
 have hb67 := bl_tt hbf hb7
 have HC1 := Lib.hid hc1
 have HC2 := Lib.hid hc2
 have HB67 := Lib.hid hb67
 clear hres ho7 hb7 hbf HFW hc1 hc2 z0 z1 z2 z3 z4 z5
 have kf := heap_alloc_new w7 (.cells #[.slice (some ⟨cb, 0, none⟩) 1 c, .slice B ti.length d1, .slice D to_.length d2, .int .i64 9, .int .i64 0] 37)
 have hbf := bl_al (Below.refl w7.heap.size w7) (.cells #[.slice (some ⟨cb, 0, none⟩) 1 c, .slice B ti.length d1, .slice D to_.length d2, .int .i64 9, .int .i64 0] 37)
 go_upto_region 7 with fail
 obtain ⟨w8, hw8⟩ : ∃ x, w7.alloc (.cells #[.slice (some ⟨cb, 0, none⟩) 1 c, .slice B ti.length d1, .slice D to_.length d2, .int .i64 9, .int .i64 0] 37) = x := ⟨_, rfl⟩
 obtain ⟨fb, hfb⟩ : ∃ x, w7.heap.size = x := ⟨_, rfl⟩
 rw [hw8] at kf hbf ⊢
 rw [hfb] at kf ⊢
 have hb68 := bl_tt HB67.out hbf
 have kp := blk_bl HKP.out hb68
 have HKF := Lib.hid kf
 have HB68 := Lib.hid hb68
 have HC18 := Lib.hid (cell_bl hbf HC1.out)
 have HC28 := Lib.hid (cell_bl hbf HC2.out)
 have z0 : w8.cell? ⟨pb, 0, none⟩ = some (.slice (some ⟨w4.heap.size, 0, none⟩) 1 1) := cell_of_blk kp rfl
 have z1 : w8.cell? ⟨pb, 1, none⟩ = some (.slice none 0 0) := cell_of_blk kp rfl
 have z2 : w8.cell? ⟨pb, 2, none⟩ = some (.int .u8 57) := cell_of_blk kp rfl
 have z3 : w8.cell? ⟨pb, 3, none⟩ = some (.int .i64 0) := cell_of_blk kp rfl
 have z4 : w8.cell? ⟨pb, 4, none⟩ = some (.string ⟨#[]⟩) := cell_of_blk kp rfl
 have z5 : w8.cell? ⟨pb, 5, none⟩ = some (.slice (some ⟨w4.heap.size + 1, 0, none⟩) 1 1) := cell_of_blk kp rfl
 clear hw8 hbf kf hb68 kp hfb
 go_wp2_with fail
 have hbg := bl_al (bl_al (Below.refl w8.heap.size w8) (.cells #[.int .i64 3] 3)) (.cells #[.slice (some ⟨w8.heap.size, 0, none⟩) 1 1] 30)
 have HBK := Lib.hid (Backward_any pgA ⟨[[3]], [], []⟩ 50 102000 _ _ _ (HPV.out _ (bl_tt HB68.out hbg)) (sv_one w8 3 ⟨by decide, by decide⟩) (by decide) ⟨by decide, by decide⟩ (by decide) gas50)
 refine HBK.out.mono ?_
 obtain ⟨ti2, to2, en2, hres⟩ := res_b
 rintro e9 w9 ⟨v1, v2, v3, rfl, ho9, hb9, -⟩
 rw [hres] at ho9 ⊢
 obtain ⟨cb2, c2, eb2, d2', B2, d12, D2, d22, hv, hc1, hc2⟩ := ho9.one
 injection hv with hv
 simp only [Array.mk.injEq, List.cons.injEq, and_true] at hv
 obtain ⟨rfl, rfl, rfl⟩ := hv
 have hb89 := bl_tt hbg hb9
 have kf9 := blk_bl HKF.out hb89
 have f0 : w9.cell? ⟨fb, 0, none⟩ = some (.slice (some ⟨cb, 0, none⟩) 1 c) := cell_of_blk kf9 rfl
 have f3 : w9.cell? ⟨fb, 3, none⟩ = some (.int .i64 9) := cell_of_blk kf9 rfl
 have f4 : w9.cell? ⟨fb, 4, none⟩ = some (.int .i64 0) := cell_of_blk kf9 rfl
 have g1 := cell_bl hb89 HC18.out
 have g2 := cell_bl hb89 HC28.out
 have y0 := fun o => cell_al f0 o
 have y3 := fun o => cell_al f3 o
 have y4 := fun o => cell_al f4 o
 have y1 := fun o => cell_al g1 o
 have y2 := fun o => cell_al g2 o
 have u1 := fun o => cell_al hc1 o
 have u2 := fun o => cell_al hc2 o
 have HB29 := Lib.hid (bl_tt HB2.out (bl_tt HB26.out (bl_tt HB68.out hb89)))
 clear hres ho9 hb9 hbg HBK hb89 kf9 z0 z1 z2 z3 z4 z5 f0 f3 f4 g1 g2 hc1 hc2
 go_wp2_with fail
 go_ret
 exact ⟨rfl, bl_al HB29.out _⟩
end Go.Proofs.YtgnfpcebmefhoaaGreat
namespace Go.Proofs.YtgnfpcebmefhoaaGreat
open Go Go.RowKit
mutual
/-- How many nodes are left of a budget. -/
def szE : T → Int → Int
 | .nd _ _ _ ks, l => szEs ks (l - 1)
def szEs : List T → Int → Int
 | [], l => l
 | t :: ts, l => if l < 0 then l else szEs ts (szE t l)
end
theorem szE_le : ∀ (m : Nat) (t : T) (l : Int), size t ≤ m → 0 ≤ l → -1 ≤ szE t l ∧ szE t l ≤ l
 | 0, .nd k n s ks, l, h, _ => by rw [size] at h; omega
 | m + 1, .nd k n s ks, l, h, h0 => by
  rw [szE]
  rw [size] at h
  have key : ∀ (us : List T) (l : Int), sizes us ≤ m → -1 ≤ l → -1 ≤ szEs us l ∧ szEs us l ≤ l := by
   intro us
   induction us with
   | nil => intro l _ h1; rw [szEs]; exact ⟨h1, Int.le_refl _⟩
   | cons u us ih =>
    intro l hs h1
    rw [sizes] at hs
    rw [szEs]
    split
    ·exact ⟨h1, Int.le_refl _⟩
    ·have h2 := szE_le m u l (by omega) (by omega)
     have h3 := ih (szE u l) (by omega) h2.1
     exact ⟨h3.1, by omega⟩
  have := key ks (l - 1) (by omega) (by omega)
  exact ⟨this.1, by omega⟩
set_option maxHeartbeats 1000000 in
theorem lsize_any : ∀ (t : T) (v : Value) (l : Int) (w : World), NV w Any t v → 0 ≤ l → l ≤ 1000 → Calls Tryz.prog 29 #[v, .int .i64 l] w fun e w' => e = .returned (.int .i64 (szE t l)) ∧ Below w.heap.size w w' := by
 intro t
 induction t using T.ind with
 | _ k n s ks ih =>
  intro v l w hv h0 h1
  obtain ⟨A, c, rfl, hf, hlk, hlc, hrow⟩ := hv.open_
  have IH := Lib.hid ih
  have HROW := Lib.hid hrow
  have hw1 : IntKind.i64.wrap (l - 1) = l - 1 := IntWalk.i64_in _ (by omega)
  have hb1 := bl_al (Below.refl w.heap.size w) (.cells #[.int .u8 k, .int .i64 n, .string s, .slice A ks.length c] 26)
  have k1 := heap_alloc_new w (.cells #[.int .u8 k, .int .i64 n, .string s, .slice A ks.length c] 26)
  obtain ⟨w1, hw⟩ : ∃ x, w.alloc (.cells #[.int .u8 k, .int .i64 n, .string s, .slice A ks.length c] 26) = x := ⟨_, rfl⟩
  obtain ⟨r, hr⟩ : ∃ r, szE (.nd k n s ks) l = r := ⟨_, rfl⟩
  have HR := Lib.hid (show szEs (ks.drop 0) (l - 1) = r by rw [← hr, szE, List.drop_zero])
  rw [hr]
  rw [hw] at hb1 k1
  have HB1 := Lib.hid hb1
  have HK1 := Lib.hid k1
  simp only [T.k_nd, T.n_nd, T.s_nd, T.ks_nd] at hlk hlc ⊢
  have hlk2 : ks.length ≤ 17592186044416 := by unfold LK at hlk; omega
  clear hv hf hlk hrow ih hr hb1 k1
  go_enter Tryz.func29, Tryz.ntmps29
  go_wp2_with fail
  clear hw
  go_loopw [5, 1] (fun i q wr => ∃ (j : Nat) (x : Int), j ≤ ks.length ∧ i = .int .i64 j ∧ q = .int .i64 x ∧ -1 ≤ x ∧ x ≤ 1000 ∧ Hid (Below w1.heap.size w1 wr) ∧ Hid (szEs (ks.drop j) x = r)) (fun i _ _ => ks.length - (intOf i).toNat)
  case atStart => exact ⟨0, l - 1, Nat.zero_le _, rfl, rfl, by omega, by omega, Lib.hid (Below.refl _ _), HR⟩
  case round =>
   obtain ⟨j, x, hj, rfl, rfl, hx1, hx2, HBL, HJ⟩ := hrel
   have hk := blk_bl HK1.out HBL.out
   have z3 : wr.cell? ⟨w.heap.size, 3, none⟩ = some (.slice A ks.length c) := cell_of_blk hk rfl
   by_cases hlt : j < ks.length
   ·have hj1 : (j : Int) < (ks.length : Int) := by omega
    have hj0 : (0 : Int) ≤ (j : Int) := by omega
    by_cases hx : 0 ≤ x
    ·have hbb := bl_tt HB1.out HBL.out
     obtain ⟨a, u, Au, cu, rfl, -, Hu, ⟨p0, p1, p2, p3⟩, hn⟩ := HROW.out.nd hlt
     have q0 := cell_bl hbb p0
     have q1 := cell_bl hbb p1
     have q2 := cell_bl hbb p2
     have q3 := cell_bl hbb p3
     have HS := Lib.hid (IH.out u (by rw [← Hu.out]; exact List.getElem_mem hlt) _ x wr (hn.later hbb) hx hx2)
     have HJ2 := Lib.hid (show szEs (ks.drop (j + 1)) (szE u x) = r by
      have h5 := HJ.out
      rw [List.drop_eq_getElem_cons hlt] at h5
      rw [szEs, if_neg (by omega)] at h5
      rw [← h5]
      have := Hu.out
      simp only [T.ks_nd] at this
      rw [this])
     have HL := Lib.hid (szE_le _ u x (Nat.le_refl _) hx)
     clear p0 p1 p2 p3 hn hbb HJ hk
     go_wp2_with fail
     refine HS.out.mono ?_
     rintro e w2 ⟨rfl, hb2⟩
     have HB2 := Lib.hid (bl_tt HBL.out hb2)
     obtain ⟨y, hy⟩ : ∃ y, szE u x = y := ⟨_, rfl⟩
     rw [hy] at HJ2 HL ⊢
     clear hb2 HS q0 q1 q2 q3 z3 hy
     go_wp2_with fail
     go_roundw
     case rel => exact ⟨j + 1, y, by omega, by go_num, rfl, HL.out.1, by have := HL.out.2; omega, HB2, HJ2⟩
     case measure => simp [intOf]; omega
    ·have hx' : ¬ (0 : Int) ≤ x := hx
     have HJ2 := Lib.hid (show x = r by
      have h5 := HJ.out
      rw [List.drop_eq_getElem_cons hlt, szEs, if_pos (by omega)] at h5
      exact h5)
     clear HJ hk
     go_wp2_with fail
     go_ret
     exact ⟨by rw [HJ2.out]; rfl, bl_tt HB1.out HBL.out⟩
   ·have hj1 : ¬ (j : Int) < (ks.length : Int) := by omega
    have HJ2 := Lib.hid (show x = r by
     have h5 := HJ.out
     rw [List.drop_eq_nil_of_le (by omega), szEs] at h5
     exact h5)
    clear HJ hk
    go_wp2_with fail
    go_ret
    exact ⟨by rw [HJ2.out]; rfl, bl_tt HB1.out HBL.out⟩
structure Smal (p : PG) (s : SS) (F : Int) : Prop where
 F : F ≤ 2000
 prs : p.prs.length ≤ 4
 vs : p.vs.length ≤ 8
 cells : s.cells.length ≤ 8
 tin : s.tin.length ≤ 50
 tout : s.tout.length ≤ 50
 row : ∀ l ∈ s.cells, l.length ≤ 50
def GrP (W : World) (p : PG) (s : SS) (F : Int) (e : Ending) (W' : World) : Prop := ∃ b, e = .returned (.bool b) ∧ (b = false → Smal p s F) ∧ Below W.heap.size W W'
set_option maxHeartbeats 4000000 in
set_option maxRecDepth 100000 in
theorem great_any (p : PG) (s : SS) (F : Int) (v sv : Value) (W : World) (hp : PV W Any p v) (hs : SV W Any s sv) (hF : I64 F) :
  Calls Tryz.prog 14 #[v, sv, .int .i64 F] W (GrP W p s F) := by
 obtain ⟨A1, c1, A2, c2, A3, c3, rfl, hpg⟩ := hp
 obtain ⟨A, c, B, d, D, e, rfl, hr1, hr2, hr3, hc1, hc2, hc3, hl1, hl2, hl3, hl4⟩ := hs
 have HPG := Lib.hid hpg
 have HR1 := Lib.hid hr1
 have hb2 := bl_al (bl_al (Below.refl W.heap.size W) (.cells #[.slice A1 p.vs.length c1, .slice A2 p.prs.length c2, .int .u8 p.m.k, .int .i64 p.m.n, .string p.m.s, .slice A3 p.m.ks.length c3] 28)) (.cells #[.slice A s.cells.length c, .slice B s.tin.length d, .slice D s.tout.length e] 32)
 have k0 := blk_al (heap_alloc_new W (.cells #[.slice A1 p.vs.length c1, .slice A2 p.prs.length c2, .int .u8 p.m.k, .int .i64 p.m.n, .string p.m.s, .slice A3 p.m.ks.length c3] 28)) (.cells #[.slice A s.cells.length c, .slice B s.tin.length d, .slice D s.tout.length e] 32)
 have k1 := heap_alloc_new (W.alloc (.cells #[.slice A1 p.vs.length c1, .slice A2 p.prs.length c2, .int .u8 p.m.k, .int .i64 p.m.n, .string p.m.s, .slice A3 p.m.ks.length c3] 28)) (.cells #[.slice A s.cells.length c, .slice B s.tin.length d, .slice D s.tout.length e] 32)
 rw [World.size_alloc] at k1
 obtain ⟨w2, hw2⟩ : ∃ x, (W.alloc (.cells #[.slice A1 p.vs.length c1, .slice A2 p.prs.length c2, .int .u8 p.m.k, .int .i64 p.m.n, .string p.m.s, .slice A3 p.m.ks.length c3] 28)).alloc (.cells #[.slice A s.cells.length c, .slice B s.tin.length d, .slice D s.tout.length e] 32) = x := ⟨_, rfl⟩
 rw [hw2] at hb2 k0 k1
 have HB2 := Lib.hid hb2
 have HK0 := Lib.hid k0
 have HK1 := Lib.hid k1
 have p0 : w2.cell? ⟨W.heap.size, 0, none⟩ = some (.slice A1 p.vs.length c1) := cell_of_blk k0 rfl
 have p1 : w2.cell? ⟨W.heap.size, 1, none⟩ = some (.slice A2 p.prs.length c2) := cell_of_blk k0 rfl
 have p2 : w2.cell? ⟨W.heap.size, 2, none⟩ = some (.int .u8 p.m.k) := cell_of_blk k0 rfl
 have p3 : w2.cell? ⟨W.heap.size, 3, none⟩ = some (.int .i64 p.m.n) := cell_of_blk k0 rfl
 have p4 : w2.cell? ⟨W.heap.size, 4, none⟩ = some (.string p.m.s) := cell_of_blk k0 rfl
 have p5 : w2.cell? ⟨W.heap.size, 5, none⟩ = some (.slice A3 p.m.ks.length c3) := cell_of_blk k0 rfl
 have hlv := LV_int hpg.lv
 have hlp := LV_int hpg.lp
 have HSZ := Lib.hid (lsize_any p.m _ 150 w2 (hpg.main.later hb2) (by omega) (by omega))
 obtain ⟨x, hx⟩ : ∃ x, szE p.m 150 = x := ⟨_, rfl⟩
 rw [hx] at HSZ
 have hlc1 : s.cells.length ≤ 17592186044416 := by unfold LI at hl1; omega
 clear hpg hr1 hr2 hr3 hb2 k0 k1 hx hc1 hc2 hc3 hl1 hl2 hl3 hl4
 go_enter Tryz.func14, Tryz.ntmps14
 by_cases h1 : (4 : Int) < (p.prs.length : Int)
 ·skip
  go_wp2_with fail
  go_ret
  exact (⟨true, rfl, (fun h => by cases h), HB2.out⟩ : GrP W p s F _ _)
 by_cases h2 : (8 : Int) < (p.vs.length : Int)
 ·skip
  go_wp2_with fail
  go_ret
  exact (⟨true, rfl, (fun h => by cases h), HB2.out⟩ : GrP W p s F _ _)
 go_wp2_with fail
 refine HSZ.out.mono ?_
 rintro e3 w3 ⟨rfl, hb3⟩
 have HB3 := Lib.hid (bl_tt HB2.out hb3)
 have ks := blk_bl HK1.out hb3
 have kp := blk_bl HK0.out hb3
 have s0 : w3.cell? ⟨W.heap.size + 1, 0, none⟩ = some (.slice A s.cells.length c) := cell_of_blk ks rfl
 have s1 : w3.cell? ⟨W.heap.size + 1, 1, none⟩ = some (.slice B s.tin.length d) := cell_of_blk ks rfl
 have s2 : w3.cell? ⟨W.heap.size + 1, 2, none⟩ = some (.slice D s.tout.length e) := cell_of_blk ks rfl
 have q1 : w3.cell? ⟨W.heap.size, 1, none⟩ = some (.slice A2 p.prs.length c2) := cell_of_blk kp rfl
 have HKP := Lib.hid kp
 have HKS := Lib.hid ks
 clear hb3 HSZ ks kp p0 p1 p2 p3 p4 p5 hw2
 by_cases h3 : x < 0
 ·skip
  go_wp2_with fail
  go_ret
  exact (⟨true, rfl, (fun h => by cases h), HB3.out⟩ : GrP W p s F _ _)
 by_cases h4 : (2000 : Int) < F
 ·skip
  go_wp2_with fail
  go_ret
  exact (⟨true, rfl, (fun h => by cases h), HB3.out⟩ : GrP W p s F _ _)
 by_cases h5 : (8 : Int) < (s.cells.length : Int)
 ·skip
  go_wp2_with fail
  go_ret
  exact (⟨true, rfl, (fun h => by cases h), HB3.out⟩ : GrP W p s F _ _)
 by_cases h6 : (50 : Int) < (s.tin.length : Int)
 ·skip
  go_wp2_with fail
  go_ret
  exact (⟨true, rfl, (fun h => by cases h), HB3.out⟩ : GrP W p s F _ _)
 by_cases h7 : (50 : Int) < (s.tout.length : Int)
 ·skip
  go_wp2_with fail
  go_ret
  exact (⟨true, rfl, (fun h => by cases h), HB3.out⟩ : GrP W p s F _ _)
 go_wp2_with fail
 go_loopw [52] (fun i wr => ∃ j : Nat, j ≤ p.prs.length ∧ i = .int .i64 j ∧ Hid (Below w3.heap.size w3 wr)) (fun i _ => p.prs.length - (intOf i).toNat)
 case atStart => exact ⟨0, Nat.zero_le _, rfl, Lib.hid (Below.refl _ _)⟩
 case round =>
  obtain ⟨j, hj, rfl, HBL⟩ := hrel
  clear s0 s1 s2 q1
  by_cases hlt : j < p.prs.length
  ·have hj1 : (j : Int) < (p.prs.length : Int) := by omega
   have hj0 : (0 : Int) ≤ (j : Int) := by omega
   have hbb := bl_tt HB3.out HBL.out
   obtain ⟨pa, q, B1, d1, B2, d2, rfl, -, Hq, ⟨y0, y1, y2, y3, y4, y5⟩, hpr⟩ := (HPG.out.procs.later hbb).nd hlt
   have hbz := bl_al HBL.out (.cells #[.string q.s, .slice B1 q.ps.length d1, .int .u8 q.b.k, .int .i64 q.b.n, .string q.b.s, .slice B2 q.b.ks.length d2] 61)
   have hbw := bl_al (Below.refl wr.heap.size wr) (.cells #[.string q.s, .slice B1 q.ps.length d1, .int .u8 q.b.k, .int .i64 q.b.n, .string q.b.s, .slice B2 q.b.ks.length d2] 61)
   have HSZ := Lib.hid (lsize_any q.b _ 150 _ (hpr.body.later hbw) (by omega) (by omega))
   obtain ⟨z, hz⟩ : ∃ z, szE q.b 150 = z := ⟨_, rfl⟩
   rw [hz] at HSZ
   have HBZ := Lib.hid hbz
   clear hbb hpr hbz hbw hz
   go_wp2_with fail
   refine HSZ.out.mono ?_
   rintro e4 w4 ⟨rfl, hb4⟩
   have HB4 := Lib.hid (bl_tt HBZ.out hb4)
   clear hb4 HSZ y0 y1 y2 y3 y4 y5
   by_cases hz : z < 0
   ·skip
    go_wp2_with fail
    go_ret
    exact (⟨true, rfl, (fun h => by cases h), (bl_tt HB3.out HB4.out)⟩ : GrP W p s F _ _)
   ·go_wp2_with fail
    go_roundw
    case rel => exact ⟨j + 1, by omega, by go_num, HB4⟩
    case measure => simp [intOf]; omega
  ·have hj1 : ¬ (j : Int) < (p.prs.length : Int) := by omega
   have hk := blk_bl HKS.out HBL.out
   have s0 : wr.cell? ⟨W.heap.size + 1, 0, none⟩ = some (.slice A s.cells.length c) := cell_of_blk hk rfl
   have HB5 := Lib.hid (bl_tt HB3.out HBL.out)
   clear hk HBL HKS
   go_wp2_with fail
   go_loopw [64] (fun i wr' => ∃ j : Nat, j ≤ s.cells.length ∧ i = .int .i64 j ∧ Hid (Below wr.heap.size wr wr') ∧ Hid (∀ q (hq : q < s.cells.length), q < j → s.cells[q].length ≤ 50)) (fun i _ => s.cells.length - (intOf i).toNat)
   case atStart => exact ⟨0, Nat.zero_le _, rfl, Lib.hid (Below.refl _ _), Lib.hid (fun q _ h => absurd h (Nat.not_lt_zero _))⟩
   case round =>
    obtain ⟨j2, hj2, rfl, HBL2, HQ⟩ := hrel
    clear s0
    by_cases hlt2 : j2 < s.cells.length
    ·have hj3 : (j2 : Int) < (s.cells.length : Int) := by omega
     have hj4 : (0 : Int) ≤ (j2 : Int) := by omega
     obtain ⟨a, l, Al, cl, rfl, Hl, hcl, hlc, -⟩ := (HR1.out.later (bl_tt HB5.out HBL2.out)).nd hlt2
     by_cases h50 : (50 : Int) < (l.length : Int)
     ·skip
      go_wp2_with fail
      go_ret
      exact (⟨true, rfl, (fun h => by cases h), (bl_tt HB5.out HBL2.out)⟩ : GrP W p s F _ _)
     ·have HQ2 := Lib.hid (show ∀ q (hq : q < s.cells.length), q < j2 + 1 → s.cells[q].length ≤ 50 from fun q hq hlt => by
       by_cases e : q = j2
       ·subst e; rw [Hl.out]; omega
       ·exact HQ.out q hq (by omega))
      clear HQ
      go_wp2_with fail
      go_roundw
      case rel => exact ⟨j2 + 1, by omega, by go_num, HBL2, HQ2⟩
      case measure => simp [intOf]; omega
    ·have hj3 : ¬ (j2 : Int) < (s.cells.length : Int) := by omega
     have HSM := Lib.hid (show Smal p s F from ⟨by omega, by omega, by omega, by omega, by omega, by omega, fun l hl => by
      obtain ⟨q, hq, rfl⟩ := List.getElem_of_mem hl
      exact HQ.out q hq (by omega)⟩)
     clear HQ
     go_wp2_with fail
     go_ret
     exact (⟨false, rfl, (fun _ => HSM.out), bl_tt HB5.out HBL2.out⟩ : GrP W p s F _ _)
end Go.Proofs.YtgnfpcebmefhoaaGreat
namespace Go.Proofs.YtgnfpcebmefhoaaGreat
open Go Go.RowKit
def Fl (F' : Int) (n : Nat) (o o' : Out) : Prop := ∀ r', o = .ok r' → n ≤ r'.n ∧ ((r'.n : Int) ≤ F' ∨ r'.n = n → o' = .ok r') ∧ (F' < (r'.n : Int) → n < r'.n → o' = .err 18)
theorem Fl.bind {F' : Int} {n : Nat} {o o' : Out} {f f' : RS → Out} (h : Fl F' n o o') (hf : ∀ r, n ≤ r.n → Fl F' r.n (f r) (f' r)) : Fl F' n (o.bind f) (o'.bind f') := by
 intro r2 e
 cases o with
 | gas => cases e
 | err x => cases e
 | ok r1 =>
  obtain ⟨h1, h2, h3⟩ := h r1 rfl
  obtain ⟨g1, g2, g3⟩ := hf r1 h1 r2 e
  refine ⟨by omega, fun hc => ?_, fun a b => ?_⟩
  ·rw [h2 (by omega)]; exact g2 (by omega)
  ·by_cases hc : (r1.n : Int) ≤ F' ∨ r1.n = n
   ·rw [h2 hc]; exact g3 a (by omega)
   ·rw [h3 (by omega) (by omega)]; rfl
theorem Fl.err {F' : Int} {n : Nat} {x : Int} {o' : Out} : Fl F' n (.err x) o' := fun _ e => by cases e
theorem Fl.gas {F' : Int} {n : Nat} {o' : Out} : Fl F' n .gas o' := fun _ e => by cases e
theorem Fl.same {F' : Int} {r : RS} : Fl F' r.n (.ok r) (.ok r) := fun r' e => by
 injection e with e
 subst e
 exact ⟨Nat.le_refl _, fun _ => rfl, fun _ h => absurd h (Nat.lt_irrefl _)⟩
theorem Fl.step (F F' : Int) (r : RS) : Fl F' r.n (stepO F r) (stepO F' r) := fun r' e => by
 obtain ⟨rfl, -⟩ := stepO_ok e
 refine ⟨by simp only; omega, fun h => ?_, fun h _ => ?_⟩
 ·unfold stepO; rw [if_neg (by simp only at h; omega)]
 ·unfold stepO; rw [if_pos (by simp only at h; omega)]
theorem Fl.store {F' : Int} {r : RS} (R : Int × ST) : Fl F' r.n (storeO r R) (storeO r R) := by
 unfold storeO
 split
 ·exact Fl.err
 ·intro r' e
  injection e with e
  subst e
  exact ⟨Nat.le_refl _, fun _ => rfl, fun _ h => absurd h (Nat.lt_irrefl _)⟩
theorem Fl.val {F' : Int} {n : Nat} {t : T} {r : RS} {f f' : Int → RS → Out} (h : ∀ x, Fl F' n (f x r) (f' x r)) : Fl F' n (valO t r f) (valO t r f') := by
 unfold valO
 split
 ·exact Fl.err
 ·exact h _
theorem Fl.holds {F F' : Int} {t : T} {r : RS} {f f' : Bool → RS → Out} (h : ∀ b r1, r.n ≤ r1.n → Fl F' r1.n (f b r1) (f' b r1)) : Fl F' r.n (holdsO F t r f) (holdsO F' t r f') := by
 unfold holdsO
 exact (Fl.step F F' r).bind fun r1 h1 => Fl.val fun x => h _ _ h1
theorem Fl.assert {F F' : Int} {t : T} {b : Bool} {r : RS} : Fl F' r.n (assertO F t b r) (assertO F' t b r) := by
 unfold assertO
 refine Fl.holds fun b1 r1 _ => ?_
 split
 ·exact Fl.same
 ·exact Fl.err
theorem Fl.body {F' : Int} {f f' : T → RS → Out} : ∀ (l : List T) (r : RS), (∀ t ∈ l, ∀ r', Fl F' r'.n (f t r') (f' t r')) → Fl F' r.n (bodyO f l r) (bodyO f' l r)
 | [], r, _ => Fl.same
 | t :: ts, r, h => by
  rw [bodyO, bodyO]
  exact (h t (List.mem_cons_self ..) r).bind fun r1 _ => Fl.body ts r1 fun u hu r' => h u (List.mem_cons_of_mem _ hu) r'
theorem Fl.loop {F F' : Int} {f f' : T → RS → Out} {entry test : T} {l1 l2 : List T} (h1 : ∀ t ∈ l1, ∀ r', Fl F' r'.n (f t r') (f' t r')) (h2 : ∀ t ∈ l2, ∀ r', Fl F' r'.n (f t r') (f' t r')) : ∀ (m : Nat) (r : RS), Fl F' r.n (loopO F f entry test l1 l2 m r) (loopO F' f' entry test l1 l2 m r)
 | 0, r => Fl.gas
 | m + 1, r => by
  rw [loopO, loopO]
  refine (Fl.body l1 r h1).bind fun r1 _ => Fl.holds fun b r2 _ => ?_
  split
  ·exact Fl.same
  ·exact (Fl.body l2 r2 h2).bind fun r3 _ => Fl.assert.bind fun r4 _ => Fl.loop h1 h2 m r4
end Go.Proofs.YtgnfpcebmefhoaaGreat
namespace Go.Proofs.YtgnfpcebmefhoaaGreat
open Go Go.RowKit
theorem resO_run {p : PG} {s : SS} {F : Int} {g : Nat} {back : Bool} (h1 : validB p = true) (h2 : chkN p = 0) (h3 : fitB p.vs s = true) :
  resO p s F g back = outR s (runO p.prs F g back p.m ⟨newS p.vs s, 0, List.replicate p.prs.length 0⟩) := by
 unfold resO
 rw [if_neg (by rw [h1, h2]; simp), if_neg (by rw [h3]; simp)]
end Go.Proofs.YtgnfpcebmefhoaaGreat
namespace Go.Proofs.YtgnfpcebmefhoaaGreat
open Go Go.RowKit
def pgN (p : PG) : PG := ⟨p.vs, p.prs, .nd p.m.k p.m.n p.m.s []⟩
theorem validN {p : PG} (h : validB p = true) : validB (pgN p) = true := by
 obtain ⟨vs, prs, k, n, s, ks⟩ := p
 simp only [validB, Bool.and_eq_true] at h ⊢
 refine ⟨h.1, ?_⟩
 have h2 := h.2
 simp only [isBodyB, Bool.and_eq_true] at h2 ⊢
 obtain ⟨h3, h4, -⟩ := (isB_iff k n s ks).1 h2.2
 refine ⟨?_, (isB_iff _ _ _ _).2 ⟨h3, h4, fun t ht => by cases ht⟩⟩
 show (lim (.nd k n s []) 80 2000).isSome = true
 rw [lim, if_neg (by decide), lims]
 rfl
theorem chkN_N {p : PG} (hv : validB p = true) (h : chkN p = 0) : chkN (pgN p) = 0 := by
 obtain ⟨h1, -⟩ := valid_isB hv
 obtain ⟨vs, prs, k, n, s, ks⟩ := p
 have hk : k = 57 := ((isB_iff k n s ks).1 h1).1
 subst hk
 unfold chkN at h ⊢
 have e : cntV prs (.nd 57 n s []) vs = 0 := by
  rw [cntV, if_neg (by omega), cntK]
  unfold faultE
  simp [one1]
 show frsN vs vs.length + prcN prs prs.length + cntV prs (.nd 57 n s []) vs = 0
 rw [e]
 simp only at h
 omega
theorem resN {p : PG} {s : SS} {F : Int} {g : Nat} {back : Bool} (h1 : validB p = true) (h2 : chkN p = 0) (h3 : fitB p.vs s = true) :
  resO (pgN p) s F g back = (s, 0, 0, List.replicate p.prs.length 0) := by
 rw [resO_run (validN h1) (chkN_N h1 h2) h3]
 have e : runO (pgN p).prs F g back (pgN p).m ⟨newS (pgN p).vs s, 0, List.replicate (pgN p).prs.length 0⟩ = .ok ⟨newS p.vs s, 0, List.replicate p.prs.length 0⟩ := by
  unfold runO blkL
  cases back <;> rfl
 rw [e]
 simp only [outR, newS_state h3]
theorem resBad {p : PG} {s : SS} {F : Int} {g : Nat} {back : Bool} (h : validB p = false ∨ chkN p ≠ 0) : resO p s F g back = (s, 0, 3, []) := by
 unfold resO
 rw [if_pos h]
theorem resUnfit {p : PG} {s : SS} {F : Int} {g : Nat} {back : Bool} (h1 : validB p = true) (h2 : chkN p = 0) (h : fitB p.vs s = false) : resO p s F g back = (s, 0, 20, []) := by
 unfold resO
 rw [if_neg (by rw [h1, h2]; simp), if_pos h]
end Go.Proofs.YtgnfpcebmefhoaaGreat
namespace Go.Proofs.YtgnfpcebmefhoaaGreat
open Go Go.RowKit
section
variable {P : Program} {md : Region.Mode} {ops : Array Oper} {Q : Exit → Act → World → Prop} {S1 S2 : World → Prop} {k : Nat}
theorem wpG_alt2 {i j1 j2 : Nat} {oi o1 o2 : Oper} (si s1 s2 : Option Nat) (n : Nat) (L : Bool → Bool → Bool → Array Bool) (a0 : Act) (Inv : World → Prop) (J : Bool → Bool → Value → Value → World → Prop) (Fact : Value → World → Prop)
  (hoi : ops[i]? = some oi) (ho1 : ops[j1]? = some o1) (ho2 : ops[j2]? = some o2) (hdi : oi.dst = si) (hd1 : o1.dst = s1) (hd2 : o2.dst = s2)
  (h00 : Region.ready md ops (L false false false) = [i, j1, j2]) (h01 : Region.ready md ops (L false false true) = [i, j1]) (h10 : Region.ready md ops (L false true false) = [i, j2]) (h11 : Region.ready md ops (L false true true) = [i])
  (hLi : ∀ la lb, (L false la lb).setIfInBounds i true = L true la lb) (hL1 : ∀ lb, (L false false lb).setIfInBounds j1 true = L false true lb) (hL2 : ∀ la, (L false la false).setIfInBounds j2 true = L false la true)
  (hS : ∀ w, Inv w → S1 w ∧ S2 w) (hInv : ∀ w w', Inv w → Below w.heap.size w w' → Inv w') (hJ : ∀ la lb u v w w', J la lb u v w → Below w.heap.size w w' → J la lb u v w')
  (hi : ∀ (u v : Value) (K : Act → World → Prop) (w : World), Inv w → Shut (∀ x w', Below w.heap.size w w' → Fact x w' → K (((a0.put s1 u).put s2 v).put si x) w') → if Region.wanted oi (yielded ops ((a0.put s1 u).put s2 v).tmps) = true then Oper.wp P oi ((a0.put s1 u).put s2 v) w K Q else K (((a0.put s1 u).put s2 v).put si undef) w)
  (h1 : ∀ (lb : Bool) (u v : Value) (K : Act → World → Prop) (w : World), Inv w → J false lb u v w → Shut (∀ x w', Below w.heap.size w w' → J true lb x v w' → K (((a0.put s1 u).put s2 v).put s1 x) w') → if Region.wanted o1 (yielded ops ((a0.put s1 u).put s2 v).tmps) = true then Oper.wp P o1 ((a0.put s1 u).put s2 v) w K Q else K (((a0.put s1 u).put s2 v).put s1 undef) w)
  (h2 : ∀ (la : Bool) (u v : Value) (K : Act → World → Prop) (w : World), Inv w → J la false u v w → Shut (∀ x w', Below w.heap.size w w' → J la true u x w' → K (((a0.put s1 u).put s2 v).put s2 x) w') → if Region.wanted o2 (yielded ops ((a0.put s1 u).put s2 v).tmps) = true then Oper.wp P o2 ((a0.put s1 u).put s2 v) w K Q else K (((a0.put s1 u).put s2 v).put s2 undef) w)
  (hp1 : ∀ u v x, ((a0.put s1 u).put s2 v).put s1 x = (a0.put s1 x).put s2 v) (hp2 : ∀ u v x, ((a0.put s1 u).put s2 v).put s2 x = (a0.put s1 u).put s2 x)
  (hc : ∀ (la lb : Bool) (u v x : Value) (w : World), Inv w → Fact x w → J la lb u v w → wpG P md ops Q S1 S2 k (n + (!la).toNat + (!lb).toNat) (L true la lb) (((a0.put s1 u).put s2 v).put si x) w) :
  ∀ (la lb : Bool) (u v : Value) (w : World), Inv w → J la lb u v w → (a0.put s1 u).put s2 v = a0 → wpG P md ops Q S1 S2 k (n + 1 + (!la).toNat + (!lb).toNat) (L false la lb) a0 w := by
 subst hdi hd1 hd2
 have hmem : ∀ la lb q, q ∈ Region.ready md ops (L false la lb) → q = i ∨ (q = j1 ∧ la = false) ∨ (q = j2 ∧ lb = false) := by
  intro la lb q hq
  cases la <;> cases lb
  ·rw [h00] at hq; simp at hq; rcases hq with h | h | h <;> simp [h]
  ·rw [h01] at hq; simp at hq; rcases hq with h | h <;> simp [h]
  ·rw [h10] at hq; simp at hq; rcases hq with h | h <;> simp [h]
  ·rw [h11] at hq; simp at hq; simp [hq]
 have hne : ∀ la lb, Region.ready md ops (L false la lb) ≠ [] := by
  intro la lb
  cases la <;> cases lb
  ·rw [h00]; simp
  ·rw [h01]; simp
  ·rw [h10]; simp
  ·rw [h11]; simp
 let Pp : Bool → Bool → Prop := fun la lb => ∀ (u v : Value) (w : World), Inv w → J la lb u v w → wpG P md ops Q S1 S2 k (n + 1 + (!la).toNat + (!lb).toNat) (L false la lb) ((a0.put o1.dst u).put o2.dst v) w
 have step : ∀ la lb, (la = false → Pp true lb) → (lb = false → Pp la true) → Pp la lb := by
  intro la lb ia ib u v w hI hj
  rw [show n + 1 + (!la).toNat + (!lb).toNat = (n + (!la).toNat + (!lb).toNat) + 1 by omega]
  refine ⟨(fun h0 => absurd h0 (hne la lb)), fun q hq => ?_⟩
  rcases hmem la lb q hq with rfl | ⟨rfl, rfl⟩ | ⟨rfl, rfl⟩
  ·refine wpOp_step hoi fun K' hK => hi u v K' w hI ?_
   intro x w' hbl hF
   have hI' := hInv _ _ hI hbl
   refine hK _ _ ⟨⟨(hS _ hI').1, fun _ => (hS _ hI').2⟩, ?_⟩
   rw [hLi]
   exact hc la lb u v x w' hI' hF (hJ _ _ _ _ _ _ hj hbl)
  ·refine wpOp_step ho1 fun K' hK => h1 lb u v K' w hI hj ?_
   intro x w' hbl hF
   have hI' := hInv _ _ hI hbl
   refine hK _ _ ⟨⟨(hS _ hI').1, fun _ => (hS _ hI').2⟩, ?_⟩
   rw [hL1, hp1]
   have := ia rfl x v w' hI' hF
   simpa using this
  ·refine wpOp_step ho2 fun K' hK => h2 la u v K' w hI hj ?_
   intro x w' hbl hF
   have hI' := hInv _ _ hI hbl
   refine hK _ _ ⟨⟨(hS _ hI').1, fun _ => (hS _ hI').2⟩, ?_⟩
   rw [hL2, hp2]
   have := ib rfl u x w' hI' hF
   have e : n + 1 + (!la).toNat + (!true).toNat = n + (!la).toNat + (!false).toNat := by simp; omega
   rw [e] at this
   exact this
 have ptt : Pp true true := step _ _ (fun h => by cases h) (fun h => by cases h)
 have ptf : Pp true false := step _ _ (fun h => by cases h) (fun _ => ptt)
 have pft : Pp false true := step _ _ (fun _ => ptt) (fun h => by cases h)
 have pff : Pp false false := step _ _ (fun _ => ptf) (fun _ => pft)
 intro la lb u v w hI hj he
 have : Pp la lb := by cases la <;> cases lb <;> assumption
 rw [← he]
 exact this u v w hI hj
theorem wpG_free2 {j1 j2 : Nat} {o1 o2 : Oper} (s1 s2 : Option Nat) (n : Nat) (L : Bool → Bool → Array Bool) (a0 : Act) (Inv : World → Prop) (J : Bool → Bool → Value → Value → World → Prop)
  (ho1 : ops[j1]? = some o1) (ho2 : ops[j2]? = some o2) (hd1 : o1.dst = s1) (hd2 : o2.dst = s2)
  (h00 : Region.ready md ops (L false false) = [j1, j2]) (h01 : Region.ready md ops (L false true) = [j1]) (h10 : Region.ready md ops (L true false) = [j2])
  (hL1 : ∀ lb, (L false lb).setIfInBounds j1 true = L true lb) (hL2 : ∀ la, (L la false).setIfInBounds j2 true = L la true)
  (hS : ∀ w, Inv w → S1 w ∧ S2 w) (hInv : ∀ w w', Inv w → Below w.heap.size w w' → Inv w')
  (h1 : ∀ (lb : Bool) (u v : Value) (K : Act → World → Prop) (w : World), Inv w → J false lb u v w → Shut (∀ x w', Below w.heap.size w w' → J true lb x v w' → K (((a0.put s1 u).put s2 v).put s1 x) w') → if Region.wanted o1 (yielded ops ((a0.put s1 u).put s2 v).tmps) = true then Oper.wp P o1 ((a0.put s1 u).put s2 v) w K Q else K (((a0.put s1 u).put s2 v).put s1 undef) w)
  (h2 : ∀ (la : Bool) (u v : Value) (K : Act → World → Prop) (w : World), Inv w → J la false u v w → Shut (∀ x w', Below w.heap.size w w' → J la true u x w' → K (((a0.put s1 u).put s2 v).put s2 x) w') → if Region.wanted o2 (yielded ops ((a0.put s1 u).put s2 v).tmps) = true then Oper.wp P o2 ((a0.put s1 u).put s2 v) w K Q else K (((a0.put s1 u).put s2 v).put s2 undef) w)
  (hp1 : ∀ u v x, ((a0.put s1 u).put s2 v).put s1 x = (a0.put s1 x).put s2 v) (hp2 : ∀ u v x, ((a0.put s1 u).put s2 v).put s2 x = (a0.put s1 u).put s2 x)
  (hc : ∀ (u v : Value) (w : World), Inv w → J true true u v w → wpG P md ops Q S1 S2 k n (L true true) ((a0.put s1 u).put s2 v) w) :
  ∀ (la lb : Bool) (u v : Value) (w : World), Inv w → J la lb u v w → (a0.put s1 u).put s2 v = a0 → wpG P md ops Q S1 S2 k (n + (!la).toNat + (!lb).toNat) (L la lb) a0 w := by
 subst hd1 hd2
 let Pp : Bool → Bool → Prop := fun la lb => ∀ (u v : Value) (w : World), Inv w → J la lb u v w → wpG P md ops Q S1 S2 k (n + (!la).toNat + (!lb).toNat) (L la lb) ((a0.put o1.dst u).put o2.dst v) w
 have ptt : Pp true true := fun u v w hI hj => hc u v w hI hj
 have s1 : ∀ lb (u v : Value) (w : World), Inv w → J false lb u v w → Pp true lb → wpOp P ops Q j1 (fun a' w' => (S1 w' ∧ (((L false lb).setIfInBounds j1 true).getD k true = false → S2 w')) ∧ wpG P md ops Q S1 S2 k (n + (!lb).toNat) ((L false lb).setIfInBounds j1 true) a' w') ((a0.put o1.dst u).put o2.dst v) w := by
  intro lb u v w hI hj hP
  refine wpOp_step ho1 fun K' hK => h1 lb u v K' w hI hj ?_
  intro x w' hbl hF
  have hI' := hInv _ _ hI hbl
  refine hK _ _ ⟨⟨(hS _ hI').1, fun _ => (hS _ hI').2⟩, ?_⟩
  rw [hL1, hp1]
  have := hP x v w' hI' hF
  simpa using this
 have s2 : ∀ la (u v : Value) (w : World), Inv w → J la false u v w → Pp la true → wpOp P ops Q j2 (fun a' w' => (S1 w' ∧ (((L la false).setIfInBounds j2 true).getD k true = false → S2 w')) ∧ wpG P md ops Q S1 S2 k (n + (!la).toNat) ((L la false).setIfInBounds j2 true) a' w') ((a0.put o1.dst u).put o2.dst v) w := by
  intro la u v w hI hj hP
  refine wpOp_step ho2 fun K' hK => h2 la u v K' w hI hj ?_
  intro x w' hbl hF
  have hI' := hInv _ _ hI hbl
  refine hK _ _ ⟨⟨(hS _ hI').1, fun _ => (hS _ hI').2⟩, ?_⟩
  rw [hL2, hp2]
  have := hP u x w' hI' hF
  simpa using this
 have pft : Pp false true := fun u v w hI hj => by
  show wpG P md ops Q S1 S2 k (n + 1 + 0) _ _ w
  refine ⟨(fun h0 => by rw [h01] at h0; cases h0), fun q hq => ?_⟩
  rw [h01] at hq
  simp only [List.mem_singleton] at hq
  subst hq
  exact s1 true u v w hI hj ptt
 have ptf : Pp true false := fun u v w hI hj => by
  show wpG P md ops Q S1 S2 k (n + 0 + 1) _ _ w
  refine ⟨(fun h0 => by rw [h10] at h0; cases h0), fun q hq => ?_⟩
  rw [h10] at hq
  simp only [List.mem_singleton] at hq
  subst hq
  exact s2 true u v w hI hj ptt
 have pff : Pp false false := fun u v w hI hj => by
  show wpG P md ops Q S1 S2 k (n + 1 + 1) _ _ w
  refine ⟨(fun h0 => by rw [h00] at h0; cases h0), fun q hq => ?_⟩
  rw [h00] at hq
  simp only [List.mem_cons, List.not_mem_nil, or_false] at hq
  rcases hq with rfl | rfl
  ·exact s1 false u v w hI hj ptf
  ·exact s2 false u v w hI hj pft
 intro la lb u v w hI hj he
 have : Pp la lb := by cases la <;> cases lb <;> assumption
 rw [← he]
 exact this u v w hI hj
end
def J2 (o : Obj) (n : Nat) (la lb : Bool) (u v : Value) (w : World) : Prop :=
 (la = true → ∃ b, u = .pointer (some ⟨b, 0, none⟩) ∧ n ≤ b ∧ w.heap[b]? = some o) ∧ (lb = true → ∃ b, v = .pointer (some ⟨b, 0, none⟩) ∧ n ≤ b ∧ w.heap[b]? = some o) ∧ (la = true → lb = true → u ≠ v)
theorem J2.later {o : Obj} {n : Nat} {la lb : Bool} {u v : Value} {w w' : World} (h : J2 o n la lb u v w) (hb : Below w.heap.size w w') : J2 o n la lb u v w' := by
 obtain ⟨h1, h2, h3⟩ := h
 refine ⟨fun e => ?_, fun e => ?_, h3⟩
 ·obtain ⟨b, e1, e2, e3⟩ := h1 e
  exact ⟨b, e1, e2, blk_bl e3 hb⟩
 ·obtain ⟨b, e1, e2, e3⟩ := h2 e
  exact ⟨b, e1, e2, blk_bl e3 hb⟩
theorem J2.one {o : Obj} {n : Nat} {lb : Bool} {u v : Value} {w : World} (h : J2 o n false lb u v w) (hn : n ≤ w.heap.size) : J2 o n true lb (.pointer (some ⟨w.heap.size, 0, none⟩)) v (w.alloc o) := by
 have hl := h.later (bl_al (Below.refl _ _) o)
 refine ⟨fun _ => ⟨_, rfl, hn, heap_alloc_new w o⟩, hl.2.1, fun _ e => ?_⟩
 obtain ⟨b, rfl, -, e3⟩ := h.2.1 e
 intro hh
 injection hh with hh
 injection hh with hh
 injection hh with hh
 have := blk_lt e3
 omega
theorem J2.two {o : Obj} {n : Nat} {la : Bool} {u v : Value} {w : World} (h : J2 o n la false u v w) (hn : n ≤ w.heap.size) : J2 o n la true u (.pointer (some ⟨w.heap.size, 0, none⟩)) (w.alloc o) := by
 have hl := h.later (bl_al (Below.refl _ _) o)
 refine ⟨hl.1, fun _ => ⟨_, rfl, hn, heap_alloc_new w o⟩, fun e _ => ?_⟩
 obtain ⟨b, rfl, -, e3⟩ := h.1 e
 intro hh
 injection hh with hh
 injection hh with hh
 injection hh with hh
 have := blk_lt e3
 omega
theorem J2.boxes {o : Obj} {n : Nat} {u v : Value} {w : World} (h : J2 o n true true u v w) : ∃ b c, u = .pointer (some ⟨b, 0, none⟩) ∧ v = .pointer (some ⟨c, 0, none⟩) ∧ n ≤ b ∧ n ≤ c ∧ b ≠ c ∧ w.heap[b]? = some o ∧ w.heap[c]? = some o := by
 obtain ⟨b, rfl, e2, e3⟩ := h.1 rfl
 obtain ⟨c, rfl, f2, f3⟩ := h.2.1 rfl
 exact ⟨b, c, rfl, rfl, e2, f2, fun e => h.2.2 rfl rfl (by rw [e]), e3, f3⟩
end Go.Proofs.YtgnfpcebmefhoaaGreat
