/-
  The laws of the store: variable, number, awake.
-/
import Derived.Test.YtekjfbnggfbfhaaSk
namespace Go.Proofs.Ytekjfbnggfbfhaa
open Go Go.RowKit

set_option maxHeartbeats 2000000 in
theorem lvariable_any (s : ByteArray) (w : World) : Calls Try.prog 11 #[.string s] w fun e w' => e = .returned (nv 2 0 s none 0 0) ∧ Below w.heap.size w w' := by
  have hb : ∀ w, (Instr.build 36 #[(0, .int .u8 2), (2, .string s)]).run Try.prog w = .ok (nv 2 0 s none 0 0) w := fun w => by kernel_rfl
  go_enter Try.func11, Try.ntmps11
  go_wp2_with fail
  exact bodyPost_ret (v := nv 2 0 s none 0 0) (by simp [results, Try.results11, go_sem]) rfl ⟨rfl, bl_al (Below.refl _ _) _⟩
set_option maxHeartbeats 2000000 in
theorem lnumber_any (n : Int) (w : World) : Calls Try.prog 19 #[.int .i64 n] w fun e w' => e = .returned (nv 1 n ⟨#[]⟩ none 0 0) ∧ Below w.heap.size w w' := by
  have hb : ∀ w, (Instr.build 36 #[(0, .int .u8 1), (1, .int .i64 n)]).run Try.prog w = .ok (nv 1 n ⟨#[]⟩ none 0 0) w := fun w => by kernel_rfl
  go_enter Try.func19, Try.ntmps19
  go_wp2_with fail
  exact bodyPost_ret (v := nv 1 n ⟨#[]⟩ none 0 0) (by simp [results, Try.results19, go_sem]) rfl ⟨rfl, bl_al (Below.refl _ _) _⟩
/-- A node without children. -/
theorem NV_leaf (w : World) (S : Nat → Prop) {k n : Int} {s : ByteArray} (hf : Fld k n s) : NV w S (.nd k n s []) (nv k n s none 0 0) := NV.shut (ks := []) hf (by simp) (Nat.le_refl _) (fun i hi => by simp at hi)
theorem NV_one (W : World) (E : TypeId) {S : Nat → Prop} (hS : S W.heap.size) {t1 : T} {k n k1 n1 : Int} {s s1 : ByteArray} {A1 : Option Addr} {l1 c1 : Nat} (hf : Fld k n s) (h1 : NV W S t1 (nv k1 n1 s1 A1 l1 c1)) :
    NV (W.alloc (.cells #[.int .u8 k1, .int .i64 n1, .string s1, .slice A1 l1 c1] E)) S (.nd k n s [t1]) (nv k n s (some ⟨W.heap.size, 0, none⟩) 1 1) := by
  refine NV.shut (ks := [t1]) hf (by simp [LK]) (by simp) fun i hi => ?_
  have hi0 : i = 0 := by simp at hi; exact hi
  subst hi0
  have hb := bl_al (Below.refl W.heap.size W) (.cells #[.int .u8 k1, .int .i64 n1, .string s1, .slice A1 l1 c1] E)
  have hx := heap_alloc_new W (.cells #[.int .u8 k1, .int .i64 n1, .string s1, .slice A1 l1 c1] E)
  exact ⟨⟨W.heap.size, 0, none⟩, _, _, _, _, rfl, hS, ⟨cell_of_blk hx rfl, cell_of_blk hx rfl, cell_of_blk hx rfl, cell_of_blk hx rfl⟩, h1.later hb⟩
theorem NV_two (W : World) (E : TypeId) {S : Nat → Prop} (hS : S W.heap.size) {t1 t2 : T} {k n k1 n1 k2 n2 : Int} {s s1 s2 : ByteArray} {A1 A2 : Option Addr} {l1 c1 l2 c2 : Nat} (hf : Fld k n s) (h1 : NV W S t1 (nv k1 n1 s1 A1 l1 c1)) (h2 : NV W S t2 (nv k2 n2 s2 A2 l2 c2)) :
    NV (W.alloc (.cells #[.int .u8 k1, .int .i64 n1, .string s1, .slice A1 l1 c1, .int .u8 k2, .int .i64 n2, .string s2, .slice A2 l2 c2] E)) S (.nd k n s [t1, t2]) (nv k n s (some ⟨W.heap.size, 0, none⟩) 2 2) := by
  refine NV.shut (ks := [t1, t2]) hf (by simp [LK]) (by simp) fun i hi => ?_
  have hb := bl_al (Below.refl W.heap.size W) (.cells #[.int .u8 k1, .int .i64 n1, .string s1, .slice A1 l1 c1, .int .u8 k2, .int .i64 n2, .string s2, .slice A2 l2 c2] E)
  have hx := heap_alloc_new W (.cells #[.int .u8 k1, .int .i64 n1, .string s1, .slice A1 l1 c1, .int .u8 k2, .int .i64 n2, .string s2, .slice A2 l2 c2] E)
  match i, hi with
  | 0, _ => exact ⟨⟨W.heap.size, 0, none⟩, _, _, _, _, rfl, hS, ⟨cell_of_blk hx rfl, cell_of_blk hx rfl, cell_of_blk hx rfl, cell_of_blk hx rfl⟩, h1.later hb⟩
  | 1, _ => exact ⟨⟨W.heap.size, 0, none⟩, _, _, _, _, rfl, hS, ⟨cell_of_blk hx rfl, cell_of_blk hx rfl, cell_of_blk hx rfl, cell_of_blk hx rfl⟩, h2.later hb⟩
theorem rowI_blk {W : World} {b : Nat} {E : TypeId} {xs : List Int} (h : W.heap[b]? = some (.cells (flatI xs).toArray E (0, 0))) (hx : ∀ x ∈ xs, I64 x) : RowI W Any (some ⟨b, 0, none⟩) xs := fun i hi => by
  have ha : (⟨b, 0, none⟩ : Addr).add i = ⟨b, i, none⟩ := by rw [Addr.add_lit, Nat.zero_add]
  refine ⟨⟨b, 0, none⟩, rfl, trivial, ?_, hx _ (List.getElem_mem hi)⟩
  rw [ha]
  simp only [World.cell?, h]
  simp [flatI, hi]
/-- A row of declarations in a block. -/
theorem rowV_blk {W : World} {b : Nat} {E : TypeId} {vs : List VD} (h : W.heap[b]? = some (.cells (flatV vs).toArray E (0, 0))) (hx : ∀ v ∈ vs, FldV v) : RowV W Any (some ⟨b, 0, none⟩) vs := fun i hi => by
  have ha : (⟨b, 0, none⟩ : Addr).add (i * 3) = ⟨b, i * 3, none⟩ := by rw [Addr.add_lit, Nat.zero_add]
  obtain ⟨g1, g2, g3⟩ := flatV_get vs i hi
  refine ⟨⟨b, 0, none⟩, rfl, trivial, ?_, hx _ (List.getElem_mem hi)⟩
  rw [ha]
  have key : ∀ o u, (flatV vs)[o]? = some u → W.cell? ⟨b, o, none⟩ = some u := fun o u ho => by
    simp only [World.cell?, h]
    simpa using ho
  exact ⟨key _ _ g1, key _ _ g2, key _ _ g3⟩

set_option maxHeartbeats 2000000 in
theorem aitem_any (n : Int) (hn : I64 n) (w : World) : Calls Try.prog 29 #[.int .i64 n] w fun e w' => ∃ A, e = .returned (nv 3 0 ⟨#[97]⟩ A 1 1) ∧ NV w' Any (.nd 3 0 ⟨#[97]⟩ [.nd 1 n ⟨#[]⟩ []]) (nv 3 0 ⟨#[97]⟩ A 1 1) ∧ Below w.heap.size w w' := by
  have hb : ∀ A w, (Instr.build 36 #[(0, .int .u8 3), (2, .string ⟨#[97]⟩), (3, .slice A 1 1)]).run Try.prog w = .ok (nv 3 0 ⟨#[97]⟩ A 1 1) w := fun A w => by kernel_rfl
  have hb1 : ∀ w, (Instr.buildSlice 34 1 #[(0, nv 1 n ⟨#[]⟩ none 0 0)]).run Try.prog w = .ok (.slice (some ⟨w.heap.size, 0, none⟩) 1 1) (w.alloc (.cells #[.int .u8 1, .int .i64 n, .string ⟨#[]⟩, .slice none 0 0] 36)) := fun w => by kernel_rfl
  go_enter Try.func29, Try.ntmps29
  go_wp2_with fail
  refine (lnumber_any n _).mono ?_
  rintro e w1 ⟨rfl, bw1⟩
  have hk := blk_bl (heap_alloc_new w (.cells #[.int .u8 0, .int .i64 0, .string ⟨#[]⟩, .slice none 0 0] 36)) bw1
  have q1 := bl_tt (bl_al (Below.refl _ _) _) bw1
  have hka := fun o => blk_al hk o
  have c0 : ∀ o, (w1.alloc o).cell? ⟨w.heap.size, 0, none⟩ = some (.int .u8 0) := fun o => cell_of_blk (hka o) rfl
  have c1 : ∀ o, (w1.alloc o).cell? ⟨w.heap.size, 1, none⟩ = some (.int .i64 0) := fun o => cell_of_blk (hka o) rfl
  have c2 : ∀ o, (w1.alloc o).cell? ⟨w.heap.size, 2, none⟩ = some (.string ⟨#[]⟩) := fun o => cell_of_blk (hka o) rfl
  have c3 : ∀ o, (w1.alloc o).cell? ⟨w.heap.size, 3, none⟩ = some (.slice none 0 0) := fun o => cell_of_blk (hka o) rfl
  have cf : ∀ o j, (w1.alloc o).frozen? ⟨w.heap.size, j, none⟩ = false := fun o j => frozen_of_blk (hka o)
  clear hka
  go_wp2_with fail
  have hnv := NV_one w1 36 (S := fun b => b = w1.heap.size) rfl (k := 3) (n := 0) (s := ⟨#[97]⟩) ⟨⟨by omega, by omega⟩, ⟨by omega, by omega⟩, by decide⟩ (NV_leaf w1 _ (k := 1) (n := n) (s := ⟨#[]⟩) ⟨⟨by omega, by omega⟩, hn, by decide⟩)
  have hsz := blk_lt hk
  obtain ⟨W2, hW2⟩ : ∃ W2, w1.alloc (.cells #[.int .u8 1, .int .i64 n, .string ⟨#[]⟩, .slice none 0 0] 36) = W2 := ⟨_, rfl⟩
  have hk2 : W2.heap[w.heap.size]? = _ := hW2 ▸ blk_al hk _
  have q2 : Below w.heap.size w W2 := hW2 ▸ bl_al q1 _
  rw [hW2] at hnv ⊢
  have hc6 : Chg (fun b => b = w.heap.size) W2 ((((W2.setCell ⟨w.heap.size, 0, none⟩ (.int .u8 3)).setCell ⟨w.heap.size, 1, none⟩ (.int .i64 0)).setCell ⟨w.heap.size, 2, none⟩ (.string ⟨#[97]⟩)).setCell ⟨w.heap.size, 3, none⟩ (.slice (some ⟨w1.heap.size, 0, none⟩) 1 1)) :=
    ((((Chg.refl (fun b => b = w.heap.size) W2).setCell (p := ⟨w.heap.size, 0, none⟩) (.inl rfl) _).setCell (p := ⟨w.heap.size, 1, none⟩) (.inl rfl) _).setCell (p := ⟨w.heap.size, 2, none⟩) (.inl rfl) _).setCell (p := ⟨w.heap.size, 3, none⟩) (.inl rfl) _
  have hh6 := heap_setCell_same _ w.heap.size 3 _ _ (.slice (some ⟨w1.heap.size, 0, none⟩) 1 1) (heap_setCell_same _ w.heap.size 2 _ _ (.string ⟨#[97]⟩) (heap_setCell_same _ w.heap.size 1 _ _ (.int .i64 0) (heap_setCell_same W2 w.heap.size 0 _ _ (.int .u8 3) hk2)))
  obtain ⟨w6, hw6⟩ : ∃ w6, (((W2.setCell ⟨w.heap.size, 0, none⟩ (.int .u8 3)).setCell ⟨w.heap.size, 1, none⟩ (.int .i64 0)).setCell ⟨w.heap.size, 2, none⟩ (.string ⟨#[97]⟩)).setCell ⟨w.heap.size, 3, none⟩ (.slice (some ⟨w1.heap.size, 0, none⟩) 1 1) = w6 := ⟨_, rfl⟩
  rw [hw6] at hc6 hh6 ⊢
  obtain ⟨r0, r1, r2, r3⟩ := box4 (u0 := .int .u8 3) (u1 := .int .i64 0) (u2 := .string ⟨#[97]⟩) (u3 := .slice (some ⟨w1.heap.size, 0, none⟩) 1 1) hh6
  refine bodyPost_ret (v := nv 3 0 ⟨#[97]⟩ (some ⟨w1.heap.size, 0, none⟩) 1 1) (by simp [results, Try.results29, go_sem, r0, r1, r2, r3]) rfl ⟨_, rfl, ?_, ?_⟩
  · exact hnv.keep (fun _ _ _ => trivial) fun b hb hlt => hc6.block b hlt fun e => by omega
  · exact q2.trans (hc6.below q2.size fun b hb => by omega)

/-- What the examples of the chapter say, plainly. -/
def vsA : List VD := [⟨⟨#[120]⟩, 1, 0⟩, ⟨⟨#[97]⟩, 2, 2⟩, ⟨⟨#[115]⟩, 3, 0⟩]
def ssA : SS := ⟨[[3], [5, 6], []], [], []⟩
def tA1 : T := .nd 41 0 ⟨#[]⟩ [.nd 3 0 ⟨#[97]⟩ [.nd 1 1 ⟨#[]⟩ []], .nd 2 0 ⟨#[120]⟩ []]
def tA2 : T := .nd 44 0 ⟨#[115]⟩ [.nd 2 0 ⟨#[120]⟩ []]
def tA3 : T := .nd 45 0 ⟨#[115]⟩ [.nd 3 0 ⟨#[97]⟩ [.nd 1 0 ⟨#[]⟩ []]]
def sA1 : ST := (doE (newS vsA ssA) tA1).2
def sA2 : ST := (doE sA1 tA2).2
def sA3 : ST := (doE sA2 tA3).2
theorem eA0 : fitB vsA ssA = true := by decide +kernel
theorem eA1 : (doE (newS vsA ssA) tA1).1 = 0 := by decide +kernel
theorem eA2 : (doE sA1 tA2).1 = 0 := by decide +kernel
theorem eA3 : (doE sA2 tA3).1 = 14 := by decide +kernel
theorem eA4 : eqS sA3.state ⟨[[0], [5, 3], [3]], [], []⟩ = true := by decide +kernel

theorem bV2 (s : ByteArray) (k : Int) (w : World) : (Instr.build 24 #[(0, .string s), (1, .int .u8 k)]).run Try.prog w = .ok (.agg #[.string s, .int .u8 k, .int .i64 0]) w := by kernel_rfl
theorem bV3 (s : ByteArray) (k n : Int) (w : World) : (Instr.build 24 #[(0, .string s), (1, .int .u8 k), (2, .int .i64 n)]).run Try.prog w = .ok (.agg #[.string s, .int .u8 k, .int .i64 n]) w := by kernel_rfl
theorem bSV3 (a0 a1 a2 b0 b1 b2 c0 c1 c2 : Value) (w : World) : (Instr.buildSlice 25 3 #[(0, .agg #[a0, a1, a2]), (1, .agg #[b0, b1, b2]), (2, .agg #[c0, c1, c2])]).run Try.prog w = .ok (.slice (some ⟨w.heap.size, 0, none⟩) 3 3) (w.alloc (.cells #[a0, a1, a2, b0, b1, b2, c0, c1, c2] 24)) := by kernel_rfl
theorem bI2 (x y : Int) (w : World) : (Instr.buildSlice 26 2 #[(0, .int .i64 x), (1, .int .i64 y)]).run Try.prog w = .ok (.slice (some ⟨w.heap.size, 0, none⟩) 2 2) (w.alloc (.cells #[.int .i64 x, .int .i64 y] 3)) := by kernel_rfl
theorem bII3 (A B C : Option Addr) (l c m d n e : Nat) (w : World) : (Instr.buildSlice 27 3 #[(0, .slice A l c), (1, .slice B m d), (2, .slice C n e)]).run Try.prog w = .ok (.slice (some ⟨w.heap.size, 0, none⟩) 3 3) (w.alloc (.cells #[.slice A l c, .slice B m d, .slice C n e] 26)) := by kernel_rfl
theorem bS1 (A : Option Addr) (l c : Nat) (w : World) : (Instr.build 29 #[(0, .slice A l c)]).run Try.prog w = .ok (.agg #[.slice A l c, .slice none 0 0, .slice none 0 0]) w := by kernel_rfl
theorem bN4 (k : Int) (s : ByteArray) (A : Option Addr) (l c : Nat) (w : World) : (Instr.build 36 #[(0, .int .u8 k), (2, .string s), (3, .slice A l c)]).run Try.prog w = .ok (nv k 0 s A l c) w := by kernel_rfl
theorem bSN1 (a0 a1 a2 a3 : Value) (w : World) : (Instr.buildSlice 34 1 #[(0, .agg #[a0, a1, a2, a3])]).run Try.prog w = .ok (.slice (some ⟨w.heap.size, 0, none⟩) 1 1) (w.alloc (.cells #[a0, a1, a2, a3] 36)) := by kernel_rfl
theorem fnItem : IsFn Try.prog 29 Try.f29 := ⟨Try.func29, by kernel_rfl, by kernel_rfl⟩
/-- Three rows in a block. -/
theorem rowII3 {W : World} {b : Nat} {E : TypeId} {l1 l2 l3 : List Int} {A1 A2 A3 : Option Addr} {c1 c2 c3 : Nat} (h : W.heap[b]? = some (.cells #[.slice A1 l1.length c1, .slice A2 l2.length c2, .slice A3 l3.length c3] E (0, 0)))
    (r1 : RowI W Any A1 l1) (r2 : RowI W Any A2 l2) (r3 : RowI W Any A3 l3) (h1 : l1.length ≤ c1) (h2 : l2.length ≤ c2) (h3 : l3.length ≤ c3) : RowII W Any (some ⟨b, 0, none⟩) [l1, l2, l3] := fun i hi => by
  match i, hi with
  | 0, _ => exact ⟨⟨b, 0, none⟩, A1, c1, rfl, trivial, cell_of_blk h rfl, h1, r1⟩
  | 1, _ => exact ⟨⟨b, 0, none⟩, A2, c2, rfl, trivial, cell_of_blk h rfl, h2, r2⟩
  | 2, _ => exact ⟨⟨b, 0, none⟩, A3, c3, rfl, trivial, cell_of_blk h rfl, h3, r3⟩

set_option maxHeartbeats 4000000 in
set_option maxRecDepth 100000 in
theorem awake_any (w : World) : Calls Try.prog 9 #[] w fun e w' => e = .returned (.bool true) ∧ Below w.heap.size w w' := by
  have h1 := bV2
  have h2 := bV3
  have h3 := bSV3
  have h4 := bI2
  have h5 := buildI1
  have h6 := bII3
  have h7 := bS1
  go_enter Try.func9, Try.ntmps9
  go_wp2_with fail
  obtain ⟨w1, hw1⟩ : ∃ w1, w.alloc (.cells #[.string ⟨#[120]⟩, .int .u8 1, .int .i64 0, .string ⟨#[97]⟩, .int .u8 2, .int .i64 2, .string ⟨#[115]⟩, .int .u8 3, .int .i64 0] 24) = w1 := ⟨_, rfl⟩
  obtain ⟨w2, hw2⟩ : ∃ w2, w1.alloc (.cells #[.int .i64 3] 3) = w2 := ⟨_, rfl⟩
  obtain ⟨w3, hw3⟩ : ∃ w3, w2.alloc (.cells #[.int .i64 5, .int .i64 6] 3) = w3 := ⟨_, rfl⟩
  obtain ⟨w4, hw4⟩ : ∃ w4, w3.alloc (.cells #[.slice (some ⟨w.heap.size + 1, 0, none⟩) 1 1, .slice (some ⟨w.heap.size + 1 + 1, 0, none⟩) 2 2, .slice none 0 0] 26) = w4 := ⟨_, rfl⟩
  rw [hw1, hw2, hw3, hw4]
  have b1 : Below w.heap.size w w1 := hw1 ▸ bl_al (Below.refl _ _) _
  have b2 : Below w1.heap.size w1 w2 := hw2 ▸ bl_al (Below.refl _ _) _
  have b3 : Below w2.heap.size w2 w3 := hw3 ▸ bl_al (Below.refl _ _) _
  have b4 : Below w3.heap.size w3 w4 := hw4 ▸ bl_al (Below.refl _ _) _
  have z1 : w1.heap.size = w.heap.size + 1 := by rw [← hw1]; simp
  have z2 : w2.heap.size = w.heap.size + 1 + 1 := by rw [← hw2]; simp [z1]
  have z3 : w3.heap.size = w.heap.size + 1 + 1 + 1 := by rw [← hw3]; simp [z2]
  have k1 : w1.heap[w.heap.size]? = some (.cells (flatV vsA).toArray 24 (0, 0)) := hw1 ▸ heap_alloc_new w _
  have k2 : w2.heap[w.heap.size + 1]? = some (.cells (flatI [3]).toArray 3 (0, 0)) := by rw [← z1, ← hw2]; exact heap_alloc_new w1 _
  have k3 : w3.heap[w.heap.size + 1 + 1]? = some (.cells (flatI [5, 6]).toArray 3 (0, 0)) := by rw [← z2, ← hw3]; exact heap_alloc_new w2 _
  have k4 : w4.heap[w.heap.size + 1 + 1 + 1]? = some (.cells #[.slice (some ⟨w.heap.size + 1, 0, none⟩) 1 1, .slice (some ⟨w.heap.size + 1 + 1, 0, none⟩) 2 2, .slice none 0 0] 26 (0, 0)) := by rw [← z3, ← hw4]; exact heap_alloc_new w3 _
  have hV : RowV w4 Any (some ⟨w.heap.size, 0, none⟩) vsA := rowV_blk (blk_bl (blk_bl (blk_bl k1 b2) b3) b4) (by
    intro v hv
    simp only [vsA, List.mem_cons, List.not_mem_nil, or_false] at hv
    rcases hv with rfl | rfl | rfl <;> exact ⟨by decide, ⟨by decide, by decide⟩, by decide, by decide⟩)
  have hSV : SV w4 Any ssA (.agg #[.slice (some ⟨w.heap.size + 1 + 1 + 1, 0, none⟩) 3 3, .slice none 0 0, .slice none 0 0]) :=
    ⟨_, 3, none, 0, none, 0, rfl, rowII3 (l1 := [3]) (l2 := [5, 6]) (l3 := []) k4 (rowI_blk (blk_bl (blk_bl k2 b3) b4) (by intro x hx; simp at hx; subst hx; exact ⟨by decide, by decide⟩)) (rowI_blk (blk_bl k3 b4) (by intro x hx; simp at hx; rcases hx with rfl | rfl <;> exact ⟨by decide, by decide⟩)) (fun i hi => by simp at hi) (by simp) (by simp) (by simp),
      fun i hi => by simp [ssA] at hi, fun i hi => by simp [ssA] at hi, by decide, by decide, by decide, by decide, by intro l hl; simp only [ssA, List.mem_cons, List.not_mem_nil, or_false] at hl; rcases hl with rfl | rfl | rfl <;> decide, by decide, by decide⟩
  have HB4 := Lib.hid (bl_tt (bl_tt (bl_tt b1 b2) b3) b4)
  have HNW := Lib.hid (New_any vsA ssA (some ⟨w.heap.size, 0, none⟩) 3 _ w4 hV (by decide) hSV)
  clear hw1 hw2 hw3 hw4 b1 b2 b3 b4 z1 z2 z3 k1 k2 k3 k4 hV hSV h1 h2 h3 h6 h7
  refine HNW.out.mono ?_
  rintro e w5 ⟨bw5, hh⟩
  rcases hh with ⟨hno, -⟩ | ⟨-, P, rfl, hsr⟩
  · rw [eA0] at hno; cases hno
  · have HS0 := Lib.hid hsr
    have HB5 := Lib.hid (bl_tt HB4.out bw5)
    have HB5W := Lib.hid bw5.size
    clear hsr bw5
    have h8 := buildS2
    have h9 := buildOp
    have h10 := bN4
    have h11 := bSN1
    go_wp2_with fail
    refine (aitem_any 1 ⟨by decide, by decide⟩ w5).mono ?_
    rintro e w6 ⟨A6, rfl, hn6, bw6⟩
    have HN6 := Lib.hid hn6
    have HB6 := Lib.hid bw6
    clear hn6 bw6
    go_wp2_with fail
    refine (lvariable_any ⟨#[120]⟩ w6).mono ?_
    rintro e w7 ⟨rfl, bw7⟩
    have HB7 := Lib.hid bw7
    have HDO := Lib.hid (Do_any (HS0.out.later (bl_al (bl_tt HB6.out bw7) (.cells #[.int .u8 3, .int .i64 0, .string ⟨#[97]⟩, .slice A6 1 1, .int .u8 2, .int .i64 0, .string ⟨#[120]⟩, .slice none 0 0] 36))) tA1 _ (NV_two w7 36 (S := Any) trivial (k := 41) (n := 0) (s := ⟨#[]⟩) ⟨⟨by omega, by omega⟩, ⟨by omega, by omega⟩, by decide⟩ (HN6.out.later bw7) (NV_leaf w7 Any (k := 2) (n := 0) (s := ⟨#[120]⟩) ⟨⟨by omega, by omega⟩, ⟨by omega, by omega⟩, by decide⟩)))
    clear bw7
    go_wp2_with fail
    refine HDO.out.mono ?_
    rintro e w8 ⟨he, P1, hs1, hp1⟩
    rw [eA1] at he
    subst he
    have HS1 := Lib.hid (show SR w8 w4.heap.size P1 sA1 from hs1.sr)
    have HC1 := Lib.hid (show Below w4.heap.size w5 w8 from ((bl_al (bl_tt HB6.out HB7.out) _).mono HB5W.out).trans (hs1.st.chg.below (by have := HB6.out.size; have := HB7.out.size; have := HB5W.out; simp; omega) fun b ⟨q, hq⟩ => (HS0.out.rws.lt q b hq).1))
    clear hs1 HDO HN6
    rw [← hp1]
    clear hp1
    go_wp2_with fail
    refine (lvariable_any ⟨#[120]⟩ w8).mono ?_
    rintro e w9 ⟨rfl, bw9⟩
    have HB9 := Lib.hid bw9
    have HDO := Lib.hid (Do_any (HS1.out.later (bl_al bw9 (.cells #[.int .u8 2, .int .i64 0, .string ⟨#[120]⟩, .slice none 0 0] 36))) tA2 _ (NV_one w9 36 (S := Any) trivial (k := 44) (n := 0) (s := ⟨#[115]⟩) ⟨⟨by omega, by omega⟩, ⟨by omega, by omega⟩, by decide⟩ (NV_leaf w9 Any (k := 2) (n := 0) (s := ⟨#[120]⟩) ⟨⟨by omega, by omega⟩, ⟨by omega, by omega⟩, by decide⟩)))
    clear bw9
    go_wp2_with fail
    refine HDO.out.mono ?_
    rintro e w10 ⟨he, P2, hs2, hp2⟩
    rw [eA2] at he
    subst he
    have HS2 := Lib.hid (show SR w10 w4.heap.size P2 sA2 from hs2.sr)
    have hz8 : w4.heap.size ≤ w8.heap.size := by have := HS1.out.rws.lt .sb _ rfl; omega
    have HC2 := Lib.hid (show Below w4.heap.size w8 w10 from ((bl_al HB9.out _).mono hz8).trans (hs2.st.chg.below (by have := HB9.out.size; simp; omega) fun b ⟨q, hq⟩ => (HS1.out.rws.lt q b hq).1))
    clear hs2 HDO
    rw [← hp2]
    clear hp2
    go_wp2_with fail
    refine (aitem_any 0 ⟨by decide, by decide⟩ w10).mono ?_
    rintro e w11 ⟨A11, rfl, hn11, bw11⟩
    have HB11 := Lib.hid bw11
    have HDO := Lib.hid (Do_any (HS2.out.later (bl_al bw11 (.cells #[.int .u8 3, .int .i64 0, .string ⟨#[97]⟩, .slice A11 1 1] 36))) tA3 _ (NV_one w11 36 (S := Any) trivial (k := 45) (n := 0) (s := ⟨#[115]⟩) ⟨⟨by omega, by omega⟩, ⟨by omega, by omega⟩, by decide⟩ hn11))
    clear hn11 bw11
    go_wp2_with fail
    refine HDO.out.mono ?_
    rintro e w12 ⟨he, P3, hs3, hp3⟩
    rw [eA3] at he
    subst he
    have HS3 := Lib.hid (show SR w12 w4.heap.size P3 sA3 from hs3.sr)
    have hz10 : w4.heap.size ≤ w10.heap.size := by have := HS2.out.rws.lt .sb _ rfl; omega
    have HC3 := Lib.hid (show Below w4.heap.size w10 w12 from ((bl_al HB11.out _).mono hz10).trans (hs3.st.chg.below (by have := HB11.out.size; simp; omega) fun b ⟨q, hq⟩ => (HS2.out.rws.lt q b hq).1))
    clear hs3 HDO
    rw [← hp3]
    clear hp3
    go_wp2_with fail
    refine (State_any HS3.out).mono ?_
    rintro e w13 ⟨v13, rfl, ho13, bw13⟩
    have HO13 := Lib.hid ho13
    have HB13 := Lib.hid bw13
    obtain ⟨vc, vi, vo, fc, rfl, -⟩ := ho13
    clear bw13
    have h6 := bII3
    have h7 := bS1
    go_wp2_with fail
    obtain ⟨x1, hx1⟩ : ∃ x, w13.alloc (.cells #[.int .i64 0] 3) = x := ⟨_, rfl⟩
    obtain ⟨x2, hx2⟩ : ∃ x, x1.alloc (.cells #[.int .i64 5, .int .i64 3] 3) = x := ⟨_, rfl⟩
    obtain ⟨x3, hx3⟩ : ∃ x, x2.alloc (.cells #[.int .i64 3] 3) = x := ⟨_, rfl⟩
    obtain ⟨x4, hx4⟩ : ∃ x, x3.alloc (.cells #[.slice (some ⟨w13.heap.size, 0, none⟩) 1 1, .slice (some ⟨w13.heap.size + 1, 0, none⟩) 2 2, .slice (some ⟨w13.heap.size + 1 + 1, 0, none⟩) 1 1] 26) = x := ⟨_, rfl⟩
    rw [hx1, hx2, hx3, hx4]
    have d1 : Below w13.heap.size w13 x1 := hx1 ▸ bl_al (Below.refl _ _) _
    have d2 : Below x1.heap.size x1 x2 := hx2 ▸ bl_al (Below.refl _ _) _
    have d3 : Below x2.heap.size x2 x3 := hx3 ▸ bl_al (Below.refl _ _) _
    have d4 : Below x3.heap.size x3 x4 := hx4 ▸ bl_al (Below.refl _ _) _
    have z1 : x1.heap.size = w13.heap.size + 1 := by rw [← hx1]; simp
    have z2 : x2.heap.size = w13.heap.size + 1 + 1 := by rw [← hx2]; simp [z1]
    have z3 : x3.heap.size = w13.heap.size + 1 + 1 + 1 := by rw [← hx3]; simp [z2]
    have k1 : x1.heap[w13.heap.size]? = some (.cells (flatI [0]).toArray 3 (0, 0)) := hx1 ▸ heap_alloc_new w13 _
    have k2 : x2.heap[w13.heap.size + 1]? = some (.cells (flatI [5, 3]).toArray 3 (0, 0)) := by rw [← z1, ← hx2]; exact heap_alloc_new x1 _
    have k3 : x3.heap[w13.heap.size + 1 + 1]? = some (.cells (flatI [3]).toArray 3 (0, 0)) := by rw [← z2, ← hx3]; exact heap_alloc_new x2 _
    have k4 : x4.heap[w13.heap.size + 1 + 1 + 1]? = some (.cells #[.slice (some ⟨w13.heap.size, 0, none⟩) 1 1, .slice (some ⟨w13.heap.size + 1, 0, none⟩) 2 2, .slice (some ⟨w13.heap.size + 1 + 1, 0, none⟩) 1 1] 26 (0, 0)) := by rw [← z3, ← hx4]; exact heap_alloc_new x3 _
    have hSV : SV x4 Any ⟨[[0], [5, 3], [3]], [], []⟩ (.agg #[.slice (some ⟨w13.heap.size + 1 + 1 + 1, 0, none⟩) 3 3, .slice none 0 0, .slice none 0 0]) :=
      ⟨_, 3, none, 0, none, 0, rfl, rowII3 (l1 := [0]) (l2 := [5, 3]) (l3 := [3]) k4 (rowI_blk (blk_bl (blk_bl (blk_bl k1 d2) d3) d4) (by intro x hx; simp at hx; subst hx; exact ⟨by decide, by decide⟩)) (rowI_blk (blk_bl (blk_bl k2 d3) d4) (by intro x hx; simp at hx; rcases hx with rfl | rfl <;> exact ⟨by decide, by decide⟩)) (rowI_blk (blk_bl k3 d4) (by intro x hx; simp at hx; subst hx; exact ⟨by decide, by decide⟩)) (by simp) (by simp) (by simp),
        fun i hi => by simp at hi, fun i hi => by simp at hi, by decide, by decide, by decide, by decide, by intro l hl; simp only [List.mem_cons, List.not_mem_nil, or_false] at hl; rcases hl with rfl | rfl | rfl <;> decide, by decide, by decide⟩
    have hB4 := bl_tt (bl_tt (bl_tt d1 d2) d3) d4
    obtain ⟨hI, hLim, hL2⟩ := state_I HS3.out.wf
    have hsm : sA3.state.Sm := ⟨by rw [show sA3.state.cells.length = 3 by decide +kernel]; decide, fun l hl => by have := hL2 l hl; omega, by have := HS3.out.wf.tin.1; simp only [ST.state]; omega, by have := HS3.out.wf.tout.1; simp only [ST.state]; omega⟩
    have HEQ := Lib.hid (StEqual_any sA3.state ⟨[[0], [5, 3], [3]], [], []⟩ _ _ x4 ((HO13.out.sv hLim).later hB4) hSV hsm ⟨by decide, by intro l hl; simp only [List.mem_cons, List.not_mem_nil, or_false] at hl; rcases hl with rfl | rfl | rfl <;> decide, by decide, by decide⟩)
    rw [eA4] at HEQ
    have HX4 := Lib.hid hB4
    clear hx1 hx2 hx3 hx4 d1 d2 d3 d4 z1 z2 z3 k1 k2 k3 k4 hSV hB4 hI hLim hL2 hsm
    refine HEQ.out.mono ?_
    rintro e w14 ⟨rfl, bw14⟩
    have HB14 := Lib.hid bw14
    clear bw14
    go_wp2_with fail
    go_ret
    refine ⟨rfl, ?_⟩
    have hs4 := HB4.out.size
    have hs12 : w4.heap.size ≤ w12.heap.size := by have := HS3.out.rws.lt .sb _ rfl; omega
    have t12 : Below w.heap.size w w12 := HB5.out.trans (((HC1.out.trans HC2.out).trans HC3.out).mono hs4)
    exact bl_tt (bl_tt (bl_tt t12 HB13.out) HX4.out) HB14.out

end Go.Proofs.Ytekjfbnggfbfhaa
