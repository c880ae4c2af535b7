/-
  Contracts of the laws' own helpers: op, block, awake.
-/
import Derived.Test.YtldcjboignbfpaaSimp
namespace Go.Proofs.Ytldcjboignbfpaa
open Go.RowKit

theorem buildS2 (a0 a1 a2 a3 b0 b1 b2 b3 : Value) (w : World) : (Instr.buildSlice 22 2 #[(0, .agg #[a0, a1, a2, a3]), (1, .agg #[b0, b1, b2, b3])]).run Try.prog w = .ok (.slice (some ⟨w.heap.size, 0, none⟩) 2 2) (w.alloc (.cells #[a0, a1, a2, a3, b0, b1, b2, b3] 24)) := by kernel_rfl
theorem buildS4 (a0 a1 a2 a3 b0 b1 b2 b3 c0 c1 c2 c3 d0 d1 d2 d3 : Value) (w : World) : (Instr.buildSlice 22 4 #[(0, .agg #[a0, a1, a2, a3]), (1, .agg #[b0, b1, b2, b3]), (2, .agg #[c0, c1, c2, c3]), (3, .agg #[d0, d1, d2, d3])]).run Try.prog w = .ok (.slice (some ⟨w.heap.size, 0, none⟩) 4 4) (w.alloc (.cells #[a0, a1, a2, a3, b0, b1, b2, b3, c0, c1, c2, c3, d0, d1, d2, d3] 24)) := by kernel_rfl
theorem buildVar (s : ByteArray) (w : World) : (Instr.build 24 #[(0, .int .u8 2), (2, .string s)]).run Try.prog w = .ok (nv 2 0 s none 0 0) w := by kernel_rfl
theorem buildNum (w : World) : (Instr.build 24 #[(0, .int .u8 1), (1, .int .i64 1)]).run Try.prog w = .ok (nv 1 1 ⟨#[]⟩ none 0 0) w := by kernel_rfl
theorem buildOp (k : Int) (A : Option Addr) (l c : Nat) (w : World) : (Instr.build 24 #[(0, .int .u8 k), (3, .slice A l c)]).run Try.prog w = .ok (nv k 0 ⟨#[]⟩ A l c) w := by kernel_rfl

theorem row_new (W : World) (E : TypeId) (cs : Array Value) (ts : List T) (S : Nat → Prop) (hS : S W.heap.size)
    (h : ∀ i (hi : i < ts.length), ∃ u0 u1 u2 u3, cs[i * 4]? = some u0 ∧ cs[i * 4 + 1]? = some u1 ∧ cs[i * 4 + 2]? = some u2 ∧ cs[i * 4 + 3]? = some u3 ∧ NV (W.alloc (.cells cs E)) S ts[i] (.agg #[u0, u1, u2, u3])) :
    RowAt (W.alloc (.cells cs E)) S (some ⟨W.heap.size, 0, none⟩) ts := by
  intro i hi
  obtain ⟨u0, u1, u2, u3, h0, h1, h2, h3, hn⟩ := h i hi
  have hh : (W.alloc (.cells cs E)).heap[W.heap.size]? = some (.cells cs E (0, 0)) := heap_alloc_new W _
  have ha : (⟨W.heap.size, 0, none⟩ : Addr).add (i * 4) = ⟨W.heap.size, i * 4, none⟩ := by unfold Addr.add; split <;> simp_all
  refine ⟨⟨W.heap.size, 0, none⟩, u0, u1, u2, u3, rfl, hS, ?_, hn⟩
  rw [ha]
  exact ⟨cell_of_blk hh h0, cell_of_blk hh h1, cell_of_blk hh h2, cell_of_blk hh h3⟩

/-- An update of a variable by 1. -/
def opT (k : Int) (s : ByteArray) : T := .nd k 0 ⟨#[]⟩ [.nd 2 0 s [], .nd 1 1 ⟨#[]⟩ []]
theorem leaf_nv (w : World) (S : Nat → Prop) (k n : Int) (s : ByteArray) (hf : Fld k n s) : NV w S (.nd k n s []) (.agg #[.int .u8 k, .int .i64 n, .string s, .slice none 0 0]) :=
  NV.shut (ks := []) hf (Nat.zero_le _) (Nat.zero_le _) RowAt.nil

set_option maxHeartbeats 1000000 in
theorem op_any (k : Int) (s : ByteArray) (w : World) (hk : 0 ≤ k ∧ k < 256) (hs : s.size ≤ maxLen) : Calls Try.prog 30 #[.int .u8 k, .string s] w (NewNode w (opT k s)) := by
  have h2 := buildS2
  have hv := buildVar
  have hn := buildNum
  have ho := buildOp
  have HK := Lib.hid hk
  have HS := Lib.hid hs
  clear hk hs
  go_enter Try.func30, Try.ntmps30
  go_wp2_with fail
  refine bodyPost_ret (v := nv k 0 ⟨#[]⟩ (some ⟨w.heap.size + 1, 0, none⟩) 2 2) (by simp [results, Try.results30, go_sem]) rfl ⟨k, 0, ⟨#[]⟩, some ⟨w.heap.size + 1, 0, none⟩, 2, 2, rfl, ?_, ?_⟩
  · have h1 := row_new (w.alloc (.cells #[.int .u8 k, .int .i64 0, .string ⟨#[]⟩, .slice (some ⟨w.heap.size + 1, 0, none⟩) 2 2] 24)) 24 #[.int .u8 2, .int .i64 0, .string s, .slice none 0 0, .int .u8 1, .int .i64 1, .string ⟨#[]⟩, .slice none 0 0] [.nd 2 0 s [], .nd 1 1 ⟨#[]⟩ []] (From w.heap.size) (by simp) (by
      intro i hi
      rcases i with _ | _ | i
      · exact ⟨_, _, _, _, rfl, rfl, rfl, rfl, leaf_nv _ _ 2 0 s ⟨⟨by omega, by omega⟩, ⟨by omega, by omega⟩, HS.out⟩⟩
      · exact ⟨_, _, _, _, rfl, rfl, rfl, rfl, leaf_nv _ _ 1 1 ⟨#[]⟩ ⟨⟨by omega, by omega⟩, ⟨by omega, by omega⟩, by decide⟩⟩
      · simp at hi; omega)
    simp only [World.size_alloc] at h1
    exact NV.shut (ks := [.nd 2 0 s [], .nd 1 1 ⟨#[]⟩ []]) ⟨HK.out, ⟨by omega, by omega⟩, by decide⟩ (by simp [LK]) (by simp) h1
  · exact ((Below.refl _ _).alloc (Nat.le_refl _) _).alloc (by simp) _

theorem NV.nv_eq {w : World} {S : Nat → Prop} {t : T} {k n : Int} {s : ByteArray} {A : Option Addr} {l c : Nat} (h : NV w S t (nv k n s A l c)) : k = t.k ∧ n = t.n ∧ s = t.s ∧ l = t.ks.length := by
  obtain ⟨A', c', e, _⟩ := h.open_
  simp only [nv, Value.agg.injEq, Array.mk.injEq, List.cons.injEq, Value.int.injEq, Value.string.injEq, Value.slice.injEq, true_and, and_true] at e
  exact ⟨e.1, e.2.1, e.2.2.1, e.2.2.2.2.1⟩

theorem row4 (W : World) (E : TypeId) {t1 t2 t3 t4 : T} {k1 n1 k2 n2 k3 n3 k4 n4 : Int} {s1 s2 s3 s4 : ByteArray} {A1 A2 A3 A4 : Option Addr} {l1 c1 l2 c2 l3 c3 l4 c4 : Nat}
    (h1 : NV W Any t1 (nv k1 n1 s1 A1 l1 c1)) (h2 : NV W Any t2 (nv k2 n2 s2 A2 l2 c2)) (h3 : NV W Any t3 (nv k3 n3 s3 A3 l3 c3)) (h4 : NV W Any t4 (nv k4 n4 s4 A4 l4 c4)) :
    NV (W.alloc (.cells #[.int .u8 k1, .int .i64 n1, .string s1, .slice A1 l1 c1, .int .u8 k2, .int .i64 n2, .string s2, .slice A2 l2 c2, .int .u8 k3, .int .i64 n3, .string s3, .slice A3 l3 c3, .int .u8 k4, .int .i64 n4, .string s4, .slice A4 l4 c4] E)) Any (.nd 57 0 ⟨#[]⟩ [t1, t2, t3, t4]) (nv 57 0 ⟨#[]⟩ (some ⟨W.heap.size, 0, none⟩) 4 4) := by
  refine NV.shut (ks := [t1, t2, t3, t4]) ⟨⟨by omega, by omega⟩, ⟨by omega, by omega⟩, by decide⟩ (by simp [LK]) (by simp) (row_new W E _ _ Any trivial ?_)
  have hb := fun (o : Obj) => (Below.refl W.heap.size W).alloc (Nat.le_refl _) o
  intro i hi
  rcases i with _ | _ | _ | _ | i
  · exact ⟨_, _, _, _, rfl, rfl, rfl, rfl, h1.later (hb _)⟩
  · exact ⟨_, _, _, _, rfl, rfl, rfl, rfl, h2.later (hb _)⟩
  · exact ⟨_, _, _, _, rfl, rfl, rfl, rfl, h3.later (hb _)⟩
  · exact ⟨_, _, _, _, rfl, rfl, rfl, rfl, h4.later (hb _)⟩
  · simp at hi; omega
theorem row2 (W : World) (E : TypeId) {t1 t2 : T} {k1 n1 k2 n2 : Int} {s1 s2 : ByteArray} {A1 A2 : Option Addr} {l1 c1 l2 c2 : Nat}
    (h1 : NV W Any t1 (nv k1 n1 s1 A1 l1 c1)) (h2 : NV W Any t2 (nv k2 n2 s2 A2 l2 c2)) :
    NV (W.alloc (.cells #[.int .u8 k1, .int .i64 n1, .string s1, .slice A1 l1 c1, .int .u8 k2, .int .i64 n2, .string s2, .slice A2 l2 c2] E)) Any (.nd 57 0 ⟨#[]⟩ [t1, t2]) (nv 57 0 ⟨#[]⟩ (some ⟨W.heap.size, 0, none⟩) 2 2) := by
  refine NV.shut (ks := [t1, t2]) ⟨⟨by omega, by omega⟩, ⟨by omega, by omega⟩, by decide⟩ (by simp [LK]) (by simp) (row_new W E _ _ Any trivial ?_)
  have hb := fun (o : Obj) => (Below.refl W.heap.size W).alloc (Nat.le_refl _) o
  intro i hi
  rcases i with _ | _ | i
  · exact ⟨_, _, _, _, rfl, rfl, rfl, rfl, h1.later (hb _)⟩
  · exact ⟨_, _, _, _, rfl, rfl, rfl, rfl, h2.later (hb _)⟩
  · simp at hi; omega

set_option maxHeartbeats 1000000 in
theorem block_any (A : Option Addr) (l c : Nat) (w : World) : Calls Try.prog 19 #[.slice A l c] w fun e w' => e = .returned (nv 57 0 ⟨#[]⟩ A l c) ∧ Below w.heap.size w w' := by
  have ho := buildOp
  go_enter Try.func19, Try.ntmps19
  go_wp2_with fail
  exact bodyPost_ret (v := nv 57 0 ⟨#[]⟩ A l c) (by simp [results, Try.results19, go_sem]) rfl ⟨rfl, (Below.refl _ _).alloc (Nat.le_refl _) _⟩

set_option maxHeartbeats 4000000 in
set_option maxRecDepth 100000 in
theorem awake_any (w : World) : Calls Try.prog 10 #[] w fun e w' => e = .returned (.bool true) ∧ Below w.heap.size w w' := by
  have h2 := buildS2
  have h4 := buildS4
  go_enter Try.func10, Try.ntmps10
  go_wp2_with fail
  refine (op_any 40 ⟨#[120]⟩ _ ⟨by omega, by omega⟩ (by unfold maxLen; decide)).mono ?_
  rintro e w1 ⟨k1, n1, s1, A1, l1, c1, rfl, hw1, bw1⟩
  go_wp2_with fail
  refine (op_any 42 ⟨#[121]⟩ _ ⟨by omega, by omega⟩ (by unfold maxLen; decide)).mono ?_
  rintro e w2 ⟨k2, n2, s2, A2, l2, c2, rfl, hw2, bw2⟩
  go_wp2_with fail
  refine (op_any 42 ⟨#[121]⟩ _ ⟨by omega, by omega⟩ (by unfold maxLen; decide)).mono ?_
  rintro e w3 ⟨k3, n3, s3, A3, l3, c3, rfl, hw3, bw3⟩
  go_wp2_with fail
  refine (op_any 41 ⟨#[120]⟩ _ ⟨by omega, by omega⟩ (by unfold maxLen; decide)).mono ?_
  rintro e w4 ⟨k4, n4, s4, A4, l4, c4, rfl, hw4, bw4⟩
  go_wp2_with fail
  have m4 := row4 w4 24 (hw1.any.later (bw2.trans ((bw3.mono bw2.size).trans (bw4.mono (Nat.le_trans bw2.size bw3.size))))) (hw2.any.later (bw3.trans (bw4.mono bw3.size))) (hw3.any.later bw4) hw4.any
  have q4 := (bw1.trans ((bw2.mono bw1.size).trans ((bw3.mono (Nat.le_trans bw1.size bw2.size)).trans (bw4.mono (Nat.le_trans bw1.size (Nat.le_trans bw2.size bw3.size)))))).alloc (Nat.le_trans bw1.size (Nat.le_trans bw2.size (Nat.le_trans bw3.size bw4.size))) (.cells #[.int .u8 k1, .int .i64 n1, .string s1, .slice A1 l1 c1, .int .u8 k2, .int .i64 n2, .string s2, .slice A2 l2 c2, .int .u8 k3, .int .i64 n3, .string s3, .slice A3 l3 c3, .int .u8 k4, .int .i64 n4, .string s4, .slice A4 l4 c4] 24)
  clear hw1 hw2 hw3 hw4 bw1 bw2 bw3 bw4
  refine (block_any _ _ _ _).mono ?_
  rintro e w5 ⟨rfl, bw5⟩
  go_wp2_with fail
  refine (Block_any _ _ _ (m4.later bw5)).mono ?_
  rintro e w6 ⟨k6, n6, s6, A6, l6, c6, rfl, hw6, bw6⟩
  obtain ⟨rfl, rfl, rfl, rfl⟩ := hw6.nv_eq
  have q6 : Below w.heap.size w w6 := q4.trans ((bw5.mono q4.size).trans (bw6.mono (Nat.le_trans q4.size bw5.size)))
  clear hw6 bw6 bw5 q4 m4
  generalize ht6 : blockF (.nd 57 0 ⟨#[]⟩ [opT 40 ⟨#[120]⟩, opT 42 ⟨#[121]⟩, opT 42 ⟨#[121]⟩, opT 41 ⟨#[120]⟩]) = t6
  have e6k : t6.k = 57 := by rw [← ht6]; decide +kernel
  have e6l : t6.ks.length = 0 := by rw [← ht6]; decide +kernel
  rw [e6k, e6l]
  clear ht6 e6k e6l
  go_wp2_with fail
  have bw6 : Below w6.heap.size w6 (w6.alloc (.cells #[.int .u8 57, .int .i64 t6.n, .string t6.s, .slice A6 0 c6] 24)) := (Below.refl _ _).alloc (Nat.le_refl _) _
  refine (op_any 56 ⟨#[120]⟩ _ ⟨by omega, by omega⟩ (by unfold maxLen; decide)).mono ?_
  rintro e w7 ⟨k7, n7, s7, A7, l7, c7, rfl, hw7, bw7⟩
  go_wp2_with fail
  refine (op_any 56 ⟨#[120]⟩ _ ⟨by omega, by omega⟩ (by unfold maxLen; decide)).mono ?_
  rintro e w8 ⟨k8, n8, s8, A8, l8, c8, rfl, hw8, bw8⟩
  go_wp2_with fail
  have mw8 := row2 w8 24 (hw7.any.later bw8) hw8.any
  have qw8 := ((bw7.trans (bw8.mono bw7.size)).alloc (Nat.le_trans bw7.size bw8.size) (.cells #[.int .u8 k7, .int .i64 n7, .string s7, .slice A7 l7 c7, .int .u8 k8, .int .i64 n8, .string s8, .slice A8 l8 c8] 24))
  clear hw7 hw8 bw7 bw8
  refine (block_any _ _ _ _).mono ?_
  rintro e w9 ⟨rfl, bw9⟩
  go_wp2_with fail
  refine (Block_any _ _ _ (mw8.later bw9)).mono ?_
  rintro e w10 ⟨k10, n10, s10, A10, l10, c10, rfl, hw10, bw10⟩
  obtain ⟨rfl, rfl, rfl, rfl⟩ := hw10.nv_eq
  have qw10 := qw8.trans ((bw9.mono qw8.size).trans (bw10.mono (Nat.le_trans qw8.size bw9.size)))
  clear hw10 bw10 bw9 qw8 mw8
  generalize ht10 : blockF (.nd 57 0 ⟨#[]⟩ [opT 56 ⟨#[120]⟩, opT 56 ⟨#[120]⟩]) = t10
  have ew10l : t10.ks.length = 2 := by rw [← ht10]; decide +kernel
  rw [ew10l]
  clear ht10 ew10l
  go_wp2_with fail
  have bw10 : Below w10.heap.size w10 (w10.alloc (.cells #[.int .u8 t10.k, .int .i64 t10.n, .string t10.s, .slice A10 2 c10] 24)) := (Below.refl _ _).alloc (Nat.le_refl _) _
  refine (op_any 40 ⟨#[120]⟩ _ ⟨by omega, by omega⟩ (by unfold maxLen; decide)).mono ?_
  rintro e w11 ⟨k11, n11, s11, A11, l11, c11, rfl, hw11, bw11⟩
  go_wp2_with fail
  refine (op_any 40 ⟨#[120]⟩ _ ⟨by omega, by omega⟩ (by unfold maxLen; decide)).mono ?_
  rintro e w12 ⟨k12, n12, s12, A12, l12, c12, rfl, hw12, bw12⟩
  go_wp2_with fail
  have mw12 := row2 w12 24 (hw11.any.later bw12) hw12.any
  have qw12 := ((bw11.trans (bw12.mono bw11.size)).alloc (Nat.le_trans bw11.size bw12.size) (.cells #[.int .u8 k11, .int .i64 n11, .string s11, .slice A11 l11 c11, .int .u8 k12, .int .i64 n12, .string s12, .slice A12 l12 c12] 24))
  clear hw11 hw12 bw11 bw12
  refine (block_any _ _ _ _).mono ?_
  rintro e w13 ⟨rfl, bw13⟩
  go_wp2_with fail
  refine (Block_any _ _ _ (mw12.later bw13)).mono ?_
  rintro e w14 ⟨k14, n14, s14, A14, l14, c14, rfl, hw14, bw14⟩
  obtain ⟨rfl, rfl, rfl, rfl⟩ := hw14.nv_eq
  have qw14 := qw12.trans ((bw13.mono qw12.size).trans (bw14.mono (Nat.le_trans qw12.size bw13.size)))
  clear hw14 bw14 bw13 qw12 mw12
  generalize ht14 : blockF (.nd 57 0 ⟨#[]⟩ [opT 40 ⟨#[120]⟩, opT 40 ⟨#[120]⟩]) = t14
  have ew14l : t14.ks.length = 2 := by rw [← ht14]; decide +kernel
  rw [ew14l]
  clear ht14 ew14l
  have B1 : Below (w6.heap.size + 1) (w6.alloc (.cells #[.int .u8 57, .int .i64 t6.n, .string t6.s, .slice A6 0 c6] 24)) w10 := qw10.mono (by simp)
  have B2 : Below (w10.heap.size + 1) (w10.alloc (.cells #[.int .u8 t10.k, .int .i64 t10.n, .string t10.s, .slice A10 2 c10] 24)) w14 := qw14.mono (by simp)
  have d0 : w14.cell? ⟨w6.heap.size, 0, none⟩ = some (.int .u8 57) := cell_bl qw14 (cell_al (cell_bl qw10 (by simp)) _)
  have d3 : w14.cell? ⟨w6.heap.size, 3, none⟩ = some (.slice A6 0 c6) := cell_bl qw14 (cell_al (cell_bl qw10 (by simp)) _)
  have f3 : w14.cell? ⟨w10.heap.size, 3, none⟩ = some (.slice A10 2 c10) := cell_bl qw14 (by simp)
  have d0' := cell_al d0
  have d3' := cell_al d3
  have f3' := cell_al f3
  have Q14 : Below w.heap.size w w14 := q6.trans ((bw6.mono q6.size).trans ((qw10.mono (by have := q6.size; simp; omega)).trans ((bw10.mono (Nat.le_trans q6.size (Nat.le_trans (by simp) qw10.size))).trans (qw14.mono (by have := q6.size; have := qw10.size; simp at *; omega)))))
  clear B1 B2 qw10 qw14 bw6 bw10 q6 h2 h4
  go_wp2_with fail
  refine (op_any 40 ⟨#[120]⟩ _ ⟨by omega, by omega⟩ (by unfold maxLen; decide)).mono ?_
  rintro e w15 ⟨k15, n15, s15, A15, l15, c15, rfl, hw15, bw15⟩
  go_wp2_with fail
  refine (op_any 41 ⟨#[120]⟩ _ ⟨by omega, by omega⟩ (by unfold maxLen; decide)).mono ?_
  rintro e w16 ⟨k16, n16, s16, A16, l16, c16, rfl, hw16, bw16⟩
  go_wp2_with fail
  refine (Cancels_any _ _ _ _ _ (hw15.any.later bw16) hw16.any).mono ?_
  rintro e w17 ⟨rfl, bw17⟩
  have ec : canc (opT 40 ⟨#[120]⟩) (opT 41 ⟨#[120]⟩) = true := by decide +kernel
  rw [ec]
  go_wp2_with fail
  go_ret
  exact ⟨rfl, (Q14.alloc Q14.size _).trans ((bw15.mono (by have := Q14.size; simp; omega)).trans ((bw16.mono (by have := Q14.size; have := bw15.size; simp at *; omega)).trans (bw17.mono (by have := Q14.size; have := bw15.size; have := bw16.size; simp at *; omega))))⟩

end Go.Proofs.Ytldcjboignbfpaa
