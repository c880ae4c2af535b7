/-
  constfold: the contracts of the two instances of each, and of the closure that fold hands to one of them.
-/
import Derived.Test.YtldcjboignbfpaaCz
import Derived.Test.YtldcjboignbfpaaScR
import Derived.Test.YtldcjboignbfpaaFx
import Derived.Deep.RegionLaw
namespace Go.Proofs.Ytldcjboignbfpaa
open Go Go.RowKit

theorem own_later {w w' : World} {base : Nat} {E : TypeId} {size : Nat} {v : Value} {n : Nat} {xs : List Value} (h : w.ownsRow base E size v n xs) (hb : Below w.heap.size w w') : w'.ownsRow base E size v n xs := by
  obtain ⟨e1, h2⟩ := h
  refine ⟨e1, ?_⟩
  rcases h2 with h2 | ⟨g, cap, cur, rfl, h3, hg, h4⟩
  · exact .inl h2
  · exact .inr ⟨g, cap, cur, rfl, h3, (hb.block _ (blk_lt hg)).trans hg, h4⟩

/-- The cells of one folded expression. -/
def Chunk (f : FO) (us : List Value) : Prop := ∃ k n s A l c, us = [.int .u8 k, .int .i64 n, .string s, .slice A l c, .int .i64 f.v, .bool f.c]
/-- The cells of folded expressions, one after the other. -/
inductive FlatF : List FO → List Value → Prop
  | nil : FlatF [] []
  | snoc {fs : List FO} {xs : List Value} {f : FO} {us : List Value} : FlatF fs xs → Chunk f us → FlatF (fs ++ [f]) (xs ++ us)
theorem FlatF.len {fs : List FO} {xs : List Value} (h : FlatF fs xs) : xs.length = fs.length * 6 := by
  induction h with
  | nil => rfl
  | snoc _ hc ih => obtain ⟨_, _, _, _, _, _, rfl⟩ := hc; simp [ih]; omega
theorem FlatF.get {fs : List FO} {xs : List Value} (h : FlatF fs xs) : ∀ i (hi : i < fs.length), ∃ us, Chunk fs[i] us ∧ ∀ j, j < 6 → xs[i * 6 + j]? = us[j]? := by
  induction h with
  | nil => intro i hi; simp at hi
  | @snoc fs xs f us h hc ih =>
    intro i hi
    have hl := h.len
    by_cases hlt : i < fs.length
    · obtain ⟨us', h1, h2⟩ := ih i hlt
      rw [List.getElem_append_left hlt]
      refine ⟨us', h1, fun j hj => ?_⟩
      rw [List.getElem?_append_left (by omega)]
      exact h2 j hj
    · obtain rfl : i = fs.length := by simp at hi; omega
      refine ⟨us, by simpa using hc, fun j hj => ?_⟩
      rw [List.getElem?_append_right (by omega), show fs.length * 6 + j - xs.length = j by omega]
theorem ownsRow_rowF {w : World} {base : Nat} {E : TypeId} {v : Value} {fs : List FO} {xs : List Value} (h : w.ownsRow base E 6 v fs.length xs) (hx : FlatF fs xs) (hf : ∀ f ∈ fs, I64 f.v) : ∃ A c, v = .slice A fs.length c ∧ fs.length ≤ c ∧ RowF w Any A fs := by
  rcases h.2 with ⟨rfl, h0⟩ | ⟨g, cap, cur, rfl, hb, hg, hc, hm, hz, hx'⟩
  · exact ⟨none, 0, by rw [h0], by omega, fun i hi => absurd hi (by omega)⟩
  · refine ⟨some ⟨g, 0, none⟩, cap, rfl, hc, fun i hi => ?_⟩
    have ha : (⟨g, 0, none⟩ : Addr).add (i * 6) = ⟨g, i * 6, none⟩ := by unfold Addr.add; split <;> simp_all
    obtain ⟨us, ⟨k, n, s, A, l, c, rfl⟩, h2⟩ := hx.get i hi
    have cc : ∀ j, j < 6 → w.cell? ⟨g, i * 6 + j, none⟩ = ([.int .u8 k, .int .i64 n, .string s, .slice A l c, .int .i64 fs[i].v, .bool fs[i].c] : List Value)[j]? := fun j hj => by
      rw [h.cellAt _ (by omega), h2 j hj]
    refine ⟨⟨g, 0, none⟩, rfl, trivial, ?_, hf _ (List.getElem_mem hi)⟩
    rw [ha]
    exact ⟨k, n, s, A, l, c, by simpa using cc 0 (by omega), by simpa using cc 1 (by omega), by simpa using cc 2 (by omega), by simpa using cc 3 (by omega), by simpa using cc 4 (by omega), by simpa using cc 5 (by omega)⟩

/-- The value of a folded expression. -/
abbrev fv (k n : Int) (s : ByteArray) (A : Option Addr) (l c : Nat) (f : FO) : Value := .agg #[.int .u8 k, .int .i64 n, .string s, .slice A l c, .int .i64 f.v, .bool f.c]
/-- A folded expression is handed back. -/
def NewF (w : World) (f : FO) (e : Ending) (w' : World) : Prop := ∃ k n s A l c, e = .returned (fv k n s A l c f) ∧ I64 f.v ∧ Below w.heap.size w w'
def NewFV (w : World) (f : FO) (v : Value) (w' : World) : Prop := ∃ k n s A l c, v = fv k n s A l c f ∧ I64 f.v ∧ Below w.heap.size w w'
theorem newFV_of {P : Program} {f : FuncId} {args : Array Value} {w : World} {t : FO} (h : Calls P f args w (NewF w t)) : Calls P f args w fun e w' => ∃ v, e = .returned v ∧ NewFV w t v w' :=
  h.mono fun _ _ ⟨k, n, s, A, l, c, he, hn, hb⟩ => ⟨_, he, k, n, s, A, l, c, rfl, hn, hb⟩
/-- What fold does at one tree. -/
def FoldC (t : T) : Prop := ∀ (v : Value) (w : World), NV w Any t v → Calls Try.prog 98 #[v] w (NewF w (foldE t))
theorem fnFold : IsFn Try.prog 98 Try.f98 := ⟨Try.func98, by kernel_rfl, by kernel_rfl⟩
theorem foldInfo : (Try.prog.info? 107).map (fun i => (i.zero, i.size, i.bytes)) = some (some (.agg #[.int .u8 0, .int .i64 0, .string ⟨#[]⟩, .slice none 0 0, .int .i64 0, .bool false]), 6, 72) := by kernel_rfl
theorem buildSFo (a0 a1 a2 a3 a4 a5 : Value) (w : World) : (Instr.buildSlice 109 1 #[(0, .agg #[a0, a1, a2, a3, a4, a5])]).run Try.prog w = .ok (.slice (some ⟨w.heap.size, 0, none⟩) 1 1) (w.alloc (.cells #[a0, a1, a2, a3, a4, a5] 107)) := by kernel_rfl

set_option maxHeartbeats 4000000 in
set_option maxRecDepth 100000 in
theorem eachF_any (ks : List T) (A : Option Addr) (c : Nat) (w : World) (hrow : RowAt w Any A ks) (hl : ks.length ≤ 8) (hF : ∀ kid ∈ ks, FoldC kid) :
    Calls Try.prog 99 #[.slice A ks.length c, .func (.func 98) #[] #[]] w fun e w' => ∃ A' c', e = .returned (.slice A' ks.length c') ∧ RowF w' Any A' (ks.map foldE) ∧ Below w.heap.size w w' := by
  obtain ⟨i0, hi0, hz0, hz1, hz2⟩ := info_parts foldInfo
  have HF := Lib.hid hF
  have HROW := Lib.hid hrow
  clear hF hrow
  have hbs := buildSFo
  go_enter Try.func99, Try.ntmps99
  go_wp2_with fail
  go_loopw [5, 10] (fun x i wr => ∃ (j : Nat) (xs : List Value), j ≤ ks.length ∧ i = .int .i64 j ∧ wr.ownsRow w.heap.size 107 6 x j xs ∧ FlatF ((ks.take j).map foldE) xs ∧ (∀ f ∈ (ks.take j).map foldE, I64 f.v) ∧ Below w.heap.size w wr) (fun _ i _ => ks.length - (intOf i).toNat)
  case atStart => exact ⟨0, [], Nat.zero_le _, rfl, World.ownsRow_nil _ _ _ _, .nil, by simp, Below.refl _ _⟩
  case round =>
    obtain ⟨j, xs, hj, rfl, hown, hfl, hf64, hbw⟩ := hrel
    have hxsl : ∃ A3 c3, u5 = .slice A3 j c3 := by
      rcases hown.2 with ⟨rfl, rfl⟩ | ⟨g, cap, cur, rfl, _⟩
      · exact ⟨_, _, rfl⟩
      · exact ⟨_, _, rfl⟩
    obtain ⟨A3, c3, rfl⟩ := hxsl
    have HOWN := Lib.hid hown
    have HFL := Lib.hid hfl
    have HF64 := Lib.hid hf64
    have HBW := Lib.hid hbw
    clear hown hfl hf64
    by_cases hlt : j < ks.length
    · obtain ⟨a, t, A1, c1, rfl, _, Ht, ⟨q0, q1, q2, q3⟩, hn⟩ := (HROW.out.later hbw).nd hlt
      have hF1 := HF.out ks[j] (List.getElem_mem hlt)
      rw [Ht.out] at hF1
      have HF1 := Lib.hid hF1
      have HN := Lib.hid hn
      clear hF1 hn hbw
      go_wp2_with fail
      refine (HF1.out _ _ (HN.out.later ((Below.refl _ _).alloc (Nat.le_refl _) _))).mono ?_
      rintro e w1 ⟨k', n', s', A', l', c', rfl, h64, bw1⟩
      have hb1 : Below wr.heap.size wr w1 := bl_tt (bl_al (Below.refl _ _) _) bw1
      have hown1 := (own_later HOWN.out hb1).alloc (.cells #[.int .u8 k', .int .i64 n', .string s', .slice A' l' c', .int .i64 (foldE t).v, .bool (foldE t).c] 107)
      have HB1 := Lib.hid hb1
      have hbz := HBW.out.size
      have hbz1 := hb1.size
      have HN1 := Lib.hid (news_newN w1 107 [.int .u8 k', .int .i64 n', .string s', .slice A' l' c', .int .i64 (foldE t).v, .bool (foldE t).c])
      clear q0 q1 q2 q3 bw1
      go_wp2_with (at_builtin; refine wpList_append_own_at (P := Try.prog) _ rfl (.tmp 14) (.tmp 18) 109 rfl w.heap.size 107 i0 _ 6 72 Try.underlying109 hi0 hz0 hz1 hz2 rfl (by decide) (.slice A3 j c3) j xs rfl hown1 ⟨w1.heap.size, 0, none⟩ 1 1 [.int .u8 k', .int .i64 n', .string s', .slice A' l' c', .int .i64 (foldE t).v, .bool (foldE t).c] rfl rfl HN1.out (by intro u hu; simp at hu; rcases hu with rfl | rfl | rfl | rfl | rfl | rfl <;> rfl) (by unfold maxLen; omega) (by omega) (by simp; omega) ?_; intro v' w' h2 h3 h4 h5)
      have hbl : Below w.heap.size w w' := (bl_al (bl_tt HBW.out HB1.out) _).grown h3 (by simp; omega) (fun g e => (hown1.lt g e).1)
      have e2 : (ks.take (j + 1)).map foldE = (ks.take j).map foldE ++ [foldE t] := by rw [List.take_succ_eq_append_getElem hlt, Ht.out]; simp
      refine ⟨⟨j + 1, _, by omega, rfl, h2, ?_, ?_, hbl⟩, by simp [intOf]; omega⟩
      · rw [e2]; exact HFL.out.snoc ⟨_, _, _, _, _, _, rfl⟩
      · intro f hf
        rw [e2, List.mem_append] at hf
        rcases hf with hf | hf
        · exact HF64.out f hf
        · simp at hf; rw [hf]; exact h64
    · obtain rfl : j = ks.length := by omega
      have e3 : ks.take ks.length = ks := List.take_of_length_le (Nat.le_refl _)
      have h1 := HFL.out
      have h2 := HF64.out
      rw [e3] at h1 h2
      have h3 := HOWN.out
      rw [show ks.length = (ks.map foldE).length by simp] at h3
      obtain ⟨A4, c4, e4, hc4, hrf⟩ := ownsRow_rowF h3 h1 h2
      have e5 : A4 = A3 := by injection e4 with e _ _; exact e.symm
      subst e5
      have HRF := Lib.hid hrf
      clear hbw h1 h2 h3 e4 hrf
      go_wp2_with fail
      go_ret
      exact ⟨_, _, rfl, HRF.out, HBW.out⟩

/-- The closure that fold hands to each. -/
theorem fold1_any (k n : Int) (s : ByteArray) (A : Option Addr) (l c : Nat) (f : FO) (w : World) : Calls Try.prog 103 #[fv k n s A l c f] w (SomeN w) := by
  go_enter Try.func103, Try.ntmps103
  go_wp2_with fail
  exact bodyPost_ret (v := nv k n s A l c) (by simp [results, Try.results103, go_sem]) rfl ⟨_, _, _, _, _, _, rfl, bl_al (bl_al (Below.refl _ _) _) _⟩

set_option maxHeartbeats 4000000 in
set_option maxRecDepth 100000 in
theorem eachN_any (fs : List FO) (A : Option Addr) (c : Nat) (S : Nat → Prop) (w : World) (hrow : RowF w S A fs) (hl : fs.length ≤ 8) :
    Calls Try.prog 102 #[.slice A fs.length c, .func (.func 103) #[] #[]] w fun e w' => ∃ A' l' c', e = .returned (.slice A' l' c') ∧ Below w.heap.size w w' := by
  obtain ⟨i0, hi0, hz0, hz1, hz2⟩ := info_parts nodeInfo
  have HROW := Lib.hid hrow
  clear hrow
  have hbs := build1
  go_enter Try.func102, Try.ntmps102
  go_wp2_with fail
  go_loopw [5, 10] (fun x i wr => ∃ (j : Nat) (xs : List Value), j ≤ fs.length ∧ i = .int .i64 j ∧ wr.ownsRow w.heap.size 24 4 x j xs ∧ Below w.heap.size w wr) (fun _ i _ => fs.length - (intOf i).toNat)
  case atStart => exact ⟨0, [], Nat.zero_le _, rfl, World.ownsRow_nil _ _ _ _, Below.refl _ _⟩
  case round =>
    obtain ⟨j, xs, hj, rfl, hown, hbw⟩ := hrel
    have hxsl : ∃ A3 c3, u5 = .slice A3 j c3 := by
      rcases hown.2 with ⟨rfl, rfl⟩ | ⟨g, cap, cur, rfl, _⟩
      · exact ⟨_, _, rfl⟩
      · exact ⟨_, _, rfl⟩
    obtain ⟨A3, c3, rfl⟩ := hxsl
    have HOWN := Lib.hid hown
    have HBW := Lib.hid hbw
    clear hown
    by_cases hlt : j < fs.length
    · obtain ⟨a, f, rfl, Hf, ⟨k1, n1, s1, A1, l1, c1, q0, q1, q2, q3, q4, q5⟩, -⟩ := (HROW.out.later hbw).nd hlt
      clear hbw
      go_wp2_with fail
      refine (fold1_any k1 n1 s1 A1 l1 c1 f _).mono ?_
      rintro e w1 ⟨k', n', s', A', l', c', rfl, bw1⟩
      have hb1 : Below wr.heap.size wr w1 := bl_tt (bl_al (Below.refl _ _) _) bw1
      have hown1 := (own_later HOWN.out hb1).alloc (.cells #[.int .u8 k', .int .i64 n', .string s', .slice A' l' c'] 24)
      have HB1 := Lib.hid hb1
      have hbz := HBW.out.size
      have hbz1 := hb1.size
      have HN1 := Lib.hid (news_newN w1 24 [.int .u8 k', .int .i64 n', .string s', .slice A' l' c'])
      clear q0 q1 q2 q3 q4 q5 bw1
      go_wp2_with (at_builtin; refine wpList_append_own_at (P := Try.prog) _ rfl (.tmp 14) (.tmp 18) 22 rfl w.heap.size 24 i0 _ 4 56 Try.underlying22 hi0 hz0 hz1 hz2 rfl (by decide) (.slice A3 j c3) j xs rfl hown1 ⟨w1.heap.size, 0, none⟩ 1 1 [.int .u8 k', .int .i64 n', .string s', .slice A' l' c'] rfl rfl HN1.out (by intro u hu; simp at hu; rcases hu with rfl | rfl | rfl | rfl <;> rfl) (by unfold maxLen; omega) (by omega) (by simp; omega) ?_; intro v' w' h2 h3 h4 h5)
      have hbl : Below w.heap.size w w' := (bl_al (bl_tt HBW.out HB1.out) _).grown h3 (by simp; omega) (fun g e => (hown1.lt g e).1)
      exact ⟨⟨j + 1, _, by omega, rfl, h2, hbl⟩, by simp [intOf]; omega⟩
    · obtain rfl : j = fs.length := by omega
      clear hbw
      go_wp2_with fail
      go_ret
      exact ⟨_, _, _, rfl, HBW.out⟩

theorem value_L (t : T) (fs : List FO) (L : Nat) (hL : fs.length = L) (A : Option Addr) (c : Nat) (S : Nat → Prop) (v : Value) (w : World) (hv : NV w Any t v) (hrow : RowF w S A fs) (hl : L ≤ 100000) (h1 : t.k = 6 ∨ t.k = 7 → 1 ≤ L) (h2 : 8 ≤ t.k → t.k ≤ 23 ∧ 2 ≤ L) (h0 : 1 ≤ t.k) (g : FO) (hg : valE t.k t.n fs = g) :
    Calls Try.prog 100 #[v, .slice A L c] w fun e w' => e = .returned (.tuple #[.int .i64 g.v, .bool g.c]) ∧ Below w.heap.size w w' := by
  subst hL hg
  exact value_any t fs A c S v w hv hrow hl h1 h2 h0
theorem eachN_L (fs : List FO) (L : Nat) (hL : fs.length = L) (A : Option Addr) (c : Nat) (S : Nat → Prop) (w : World) (hrow : RowF w S A fs) (hl : L ≤ 8) :
    Calls Try.prog 102 #[.slice A L c, .func (.func 103) #[] #[]] w fun e w' => ∃ A' l' c', e = .returned (.slice A' l' c') ∧ Below w.heap.size w w' := by
  subst hL
  exact eachN_any fs A c S w hrow hl
theorem valE_64 {k n : Int} {fs : List FO} (hn : I64 n) (hf : ∀ f ∈ fs, I64 f.v) : I64 (valE k n fs).v := by
  have h0 : I64 (fs[0]?.elim 0 (·.v)) := by
    cases fs with
    | nil => simp [I64]
    | cons f fs => simpa using hf f (by simp)
  unfold valE
  split
  · split
    · exact hn
    · split
      · simp [I64]
      · split
        · exact unE_64
        · exact apE_64 h0
  · simp [I64]
theorem RowF.fits {w : World} {S : Nat → Prop} {A : Option Addr} {fs : List FO} (h : RowF w S A fs) : ∀ f ∈ fs, I64 f.v := fun f hf => by
  obtain ⟨i, hi, rfl⟩ := List.getElem_of_mem hf
  obtain ⟨_, _, _, _, h⟩ := h i hi
  exact h
theorem isE_shape {k n : Int} {s : ByteArray} {ks : List T} (h : isE (.nd k n s ks) = true) : 1 ≤ k ∧ k ≤ 23 ∧ ks.length ≤ 2 ∧ (k = 6 ∨ k = 7 → 1 ≤ ks.length) ∧ (8 ≤ k → 2 ≤ ks.length) := by
  rw [isE] at h
  split at h
  · simp only [Bool.and_eq_true, decide_eq_true_eq] at h; omega
  · split at h
    · simp only [Bool.and_eq_true, decide_eq_true_eq] at h; omega
    · split at h
      · simp only [Bool.and_eq_true, decide_eq_true_eq] at h; omega
      · split at h
        · simp only [Bool.and_eq_true, decide_eq_true_eq] at h; omega
        · split at h
          · simp only [Bool.and_eq_true, decide_eq_true_eq] at h; omega
          · cases h

set_option maxHeartbeats 4000000 in
set_option maxRecDepth 100000 in
theorem fold_any (t : T) (hE : isE t = true) : FoldC t := by
  revert hE
  refine T.ind (p := fun t => isE t = true → FoldC t) ?_ t
  intro k n s ks ih hE v w hv
  have hk := isE_kids hE
  have hsh := isE_shape hE
  have HV := Lib.hid hv
  obtain ⟨A, c, rfl, hf, hlk, hlc, hrow⟩ := hv.open_
  simp only [T.k_nd, T.n_nd, T.s_nd, T.ks_nd] at *
  have HIH := Lib.hid (fun t ht => ih t ht (hk t ht))
  have HROW := Lib.hid hrow
  obtain ⟨g, hg⟩ : ∃ g, valE k n (ks.map foldE) = g := ⟨_, rfl⟩
  have hff : foldE (.nd k n s ks) = nrm g := by rw [foldE, foldEs_map, hg]
  rw [hff]
  have HG := Lib.hid hg
  have HSH := Lib.hid hsh
  have HFD := Lib.hid hf
  clear ih hk hrow hg hff hsh hE hlk hlc hf
  go_enter Try.func98, Try.ntmps98
  go_wp2_with fail
  refine (eachF_any ks A c _ (HROW.out.later (bl_al (bl_al (Below.refl _ _) _) _)) (by have := HSH.out; omega) HIH.out).mono ?_
  rintro e w1 ⟨A1, c1, rfl, hrf, bw1⟩
  have q1 : Below w.heap.size w w1 := bl_tt (bl_al (bl_al (Below.refl _ _) _) _) bw1
  have hN := blk_bl (blk_al (heap_alloc_new w (.cells #[.int .u8 k, .int .i64 n, .string s, .slice A ks.length c] 24)) _) bw1
  have hR := blk_bl (heap_alloc_new (w.alloc (.cells #[.int .u8 k, .int .i64 n, .string s, .slice A ks.length c] 24)) (.cells #[.int .u8 0, .int .i64 0, .string ⟨#[]⟩, .slice none 0 0, .int .i64 0, .bool false] 107)) bw1
  simp only [World.size_alloc] at hR
  obtain ⟨a0, a1, a2, a3⟩ := box4 hN
  have HG64 := Lib.hid (show I64 g.v from HG.out ▸ valE_64 HFD.out.2.1 hrf.fits)
  have HN := Lib.hid hN
  have HR := Lib.hid hR
  have HRF := Lib.hid hrf
  clear bw1 hN hR hrf
  go_wp2_with fail
  refine (value_L (.nd k n s ks) (ks.map foldE) ks.length (by simp) A1 c1 Any _ _ (HV.out.later q1) HRF.out (by have := HSH.out; omega) HSH.out.2.2.2.1 (fun h => ⟨HSH.out.2.1, HSH.out.2.2.2.2 h⟩) HSH.out.1 g HG.out).mono ?_
  rintro e w2 ⟨rfl, bw2⟩
  have q2 := bl_tt q1 bw2
  have hN := blk_bl HN.out bw2
  have hR := blk_bl HR.out bw2
  obtain ⟨gv, gc⟩ := g
  dsimp only at *
  cases gc
  · clear a0 a1 a2 a3
    obtain ⟨a0, a1, a2, a3⟩ := box4 hN
    have HN := Lib.hid hN
    have HR := Lib.hid hR
    have HRF2 := Lib.hid (HRF.out.later bw2)
    clear hN hR bw2
    go_wp2_with fail
    refine (eachN_L (ks.map foldE) ks.length (by simp) A1 c1 Any _ HRF2.out (by have := HSH.out; omega)).mono ?_
    rintro e w3 ⟨A3, l3, c3, rfl, bw3⟩
    have q3 := bl_tt q2 bw3
    have hN := blk_bl HN.out bw3
    have hR := blk_bl HR.out bw3
    have hz : w3.frozen? ⟨w.heap.size, 3, none⟩ = false := frozen_of_blk hN
    clear a0 a1 a2 a3
    obtain ⟨a0, a1, a2, a3⟩ := box4 hN
    obtain ⟨r0, r1, r2, r3, r4, r5⟩ := box6 hR
    have rz : ∀ i, w3.frozen? ⟨w.heap.size + 1, i, none⟩ = false := fun i => frozen_of_blk hR
    clear hN hR bw3
    go_wp2_with fail
    refine bodyPost_ret (v := fv k n s A3 l3 c3 ⟨0, false⟩) (by simp [results, Try.results98, go_sem, r0, r1, r2, r3, r4, r5]) rfl ⟨_, _, _, _, _, _, rfl, by simp [nrm, I64], ?_⟩
    exact (((((((q3.setCell (by simp) _).setCell (by simp) _).setCell (by simp) _).setCell (by simp) _).setCell (by simp) _).setCell (by simp) _).setCell (by simp) _)
  · clear a0 a1 a2 a3
    obtain ⟨r0, r1, r2, r3, r4, r5⟩ := box6 hR
    have HN := Lib.hid hN
    have HR := Lib.hid hR
    clear hN hR bw2
    go_wp2_with fail
    refine (literal_any gv HG64.out _).mono ?_
    rintro e w3 ⟨k3, n3, s3, A3, l3, c3, rfl, bw3⟩
    have q3 := bl_tt q2 bw3
    have hR := blk_bl HR.out bw3
    clear r0 r1 r2 r3 r4 r5
    obtain ⟨r0, r1, r2, r3, r4, r5⟩ := box6 hR
    have rz : ∀ i, w3.frozen? ⟨w.heap.size + 1, i, none⟩ = false := fun i => frozen_of_blk hR
    clear hR bw3
    go_wp2_with fail
    refine bodyPost_ret (v := fv k3 n3 s3 A3 l3 c3 ⟨gv, true⟩) (by simp [results, Try.results98, go_sem, r0, r1, r2, r3, r4, r5]) rfl ⟨_, _, _, _, _, _, rfl, HG64.out, ?_⟩
    exact ((((((q3.setCell (by simp) _).setCell (by simp) _).setCell (by simp) _).setCell (by simp) _).setCell (by simp) _).setCell (by simp) _)

end Go.Proofs.Ytldcjboignbfpaa
