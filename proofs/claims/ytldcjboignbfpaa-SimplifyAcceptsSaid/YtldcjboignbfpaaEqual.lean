/-
  Contracts of ast.Equal, slices.EqualFunc and the reference's Equal.
-/
import Derived.Test.YtldcjboignbfpaaAst
import Derived.Deep.RegionHeld3
namespace Go.Proofs.Ytldcjboignbfpaa
open Go.RowKit

mutual
/-- Two trees are alike. -/
def teq : T → T → Bool
  | .nd k n s ks, .nd k' n' s' ks' => k == k' && n == n' && s.toList == s'.toList && teqs ks ks'
def teqs : List T → List T → Bool
  | [], [] => true
  | a :: xs, b :: ys => teq a b && teqs xs ys
  | _, _ => false
end
theorem teqs_iff : ∀ (xs ys : List T), teqs xs ys = true ↔ xs.length = ys.length ∧ ∀ i (h : i < xs.length) (h' : i < ys.length), teq xs[i] ys[i] = true
  | [], [] => by simp [teqs]
  | [], _ :: _ => by simp [teqs]
  | _ :: _, [] => by simp [teqs]
  | a :: xs, b :: ys => by
    rw [teqs, Bool.and_eq_true, teqs_iff xs ys]
    constructor
    · rintro ⟨h1, h2, h3⟩
      refine ⟨by simp [h2], fun i h h' => ?_⟩
      cases i with
      | zero => exact h1
      | succ i => exact h3 i (by simpa using h) (by simpa using h')
    · rintro ⟨h1, h2⟩
      exact ⟨h2 0 (Nat.zero_lt_succ _) (Nat.zero_lt_succ _), by simpa using h1, fun i h h' => h2 (i + 1) (Nat.succ_lt_succ h) (Nat.succ_lt_succ h')⟩
theorem teqs_true {xs ys : List T} (hl : xs.length = ys.length) (h : ∀ i (h : i < xs.length) (h' : i < ys.length), teq xs[i] ys[i] = true) : teqs xs ys = true := (teqs_iff xs ys).2 ⟨hl, h⟩
theorem teqs_len {xs ys : List T} (hl : xs.length ≠ ys.length) : teqs xs ys = false := by
  rw [Bool.eq_false_iff, ne_eq, teqs_iff]; exact fun h => hl h.1
theorem teqs_at {xs ys : List T} {i : Nat} (h : i < xs.length) (h' : i < ys.length) (hf : teq xs[i] ys[i] = false) : teqs xs ys = false := by
  rw [Bool.eq_false_iff, ne_eq, teqs_iff]
  intro hh
  have := hh.2 i h h'
  simp [hf] at this
theorem teq_nd (a b : T) : teq a b = (a.k == b.k && a.n == b.n && a.s.toList == b.s.toList && teqs a.ks b.ks) := by
  cases a; cases b; simp [teq]
theorem teq_iff (a : T) : ∀ b, teq a b = true ↔ a = b := by
  induction a using T.ind with
  | _ k n s ks ih =>
  rintro ⟨k', n', s', ks'⟩
  simp only [teq, Bool.and_eq_true, beq_iff_eq, T.nd.injEq, teqs_iff]
  constructor
  · rintro ⟨⟨⟨h1, h2⟩, h3⟩, h4, h5⟩
    refine ⟨h1, h2, ba_inj h3, List.ext_getElem h4 fun i hi hi' => (ih _ (List.getElem_mem hi) _).1 (h5 i hi hi')⟩
  · rintro ⟨h1, h2, h3, h4⟩
    subst h4
    exact ⟨⟨⟨h1, h2⟩, by rw [h3]⟩, rfl, fun i hi _ => (ih _ (List.getElem_mem hi) _).2 rfl⟩
theorem teq_refl (a : T) : teq a a = true := (teq_iff a a).2 rfl

/-- What a test of two trees does. -/
def EqC (f : FuncId) (a b : T) : Prop := ∀ (v1 v2 : Value) (w : World), NV w Any a v1 → NV w Any b v2 → Calls Try.prog f #[v1, v2] w fun e w' => e = .returned (.bool (teq a b)) ∧ Below w.heap.size w w'

set_option maxHeartbeats 1000000 in
theorem EqualFunc_any (xs ys : List T) (A B : Option Addr) (ca cb : Nat) (w : World) (ha : RowAt w Any A xs) (hb : RowAt w Any B ys) (hla : xs.length ≤ LK) (hlb : ys.length ≤ LK) (f : FuncId) (fn : Func) (hfn : IsFn Try.prog f fn)
    (hc : ∀ i (hi : i < xs.length) (hi' : i < ys.length), EqC f xs[i] ys[i]) :
    Calls Try.prog 58 #[.slice A xs.length ca, .slice B ys.length cb, .func (.func f) #[] #[]] w fun e w' => e = .returned (.bool (teqs xs ys)) ∧ Below w.heap.size w w' := by
  have hla' := LK_int hla
  have hlb' := LK_int hlb
  have hcall := run_callFunc hfn
  have HC := Lib.hid hc
  clear hc hfn hla hlb
  by_cases hl : xs.length = ys.length
  · have HL := Lib.hid hl
    have h1 : ((xs.length : Int) != (ys.length : Int)) = false := by simp [hl]
    have h2 : (xs.length != ys.length) = false := by simp [hl]
    have h3 : xs.length ≤ ys.length := by omega
    clear hl
    go_enter Try.func58, Try.ntmps58
    go_wp2
    go_loopw [6, 17] (fun r i wr => ∃ j : Nat, j ≤ xs.length ∧ i = .int .i64 j ∧ r = .bool false ∧ Hid (∀ q (h : q < xs.length) (h' : q < ys.length), q < j → teq xs[q] ys[q] = true) ∧ Below w.heap.size w wr) (fun _ i _ => xs.length - (intOf i).toNat)
    case atStart => exact ⟨0, Nat.zero_le _, rfl, rfl, fun q hq _ h => by omega, Below.refl _ _⟩
    case round =>
      obtain ⟨j, hj, rfl, rfl, HP, hbl⟩ := hrel
      by_cases hlt : j < xs.length
      · have hlt2 : j < ys.length := by omega
        obtain ⟨a, t, A', c', rfl, _, Ht, c0, c1, c2, c3, hn⟩ := (ha.later hbl).get hlt
        obtain ⟨a2, t2, A2, c2', rfl, _, Ht2, d0, d1, d2, d3, hn2⟩ := (hb.later hbl).get hlt2
        have h0 := HC.out j hlt hlt2
        rw [Ht.out, Ht2.out] at h0
        have H0 := Lib.hid h0
        clear h0 ha hb
        have e0 := cell_al d0
        have e1 := cell_al d1
        have e2 := cell_al d2
        have e3 := cell_al d3
        go_wp2_with fail
        refine (H0.out _ _ _ (hn.later (((Below.refl _ _).alloc (Nat.le_refl _) _).alloc (by simp) _)) (hn2.later (((Below.refl _ _).alloc (Nat.le_refl _) _).alloc (by simp) _))).mono ?_
        rintro e w1 ⟨rfl, hb1⟩
        have hb2 : Below w.heap.size w w1 := ((hbl.alloc hbl.size _).alloc (by have := hbl.size; simp; omega) _).trans (hb1.mono (by have := hbl.size; simp; omega))
        cases hp : teq t t2
        · go_wp2_with fail
          go_ret
          exact ⟨by rw [teqs_at hlt hlt2 (by rw [Ht.out, Ht2.out]; exact hp)]; rfl, hb2⟩
        · have HP2 := Lib.hid hp
          clear hp
          go_wp2_with fail
          go_roundw
          case rel =>
            refine ⟨j + 1, by omega, by go_num, rfl, ?_, hb2⟩
            intro q hq hq' hqj
            by_cases e : q = j
            · subst e; rw [Ht.out, Ht2.out]; exact HP2.out
            · exact HP.out q hq hq' (by omega)
          case measure => simp [intOf]; omega
      · have hlt' : xs.length ≤ j := by omega
        go_wp2_with fail
        go_ret
        exact ⟨by rw [teqs_true HL.out (fun q hq hq' => HP.out q hq hq' (by omega))]; rfl, hbl⟩
  · have h1 : ((xs.length : Int) != (ys.length : Int)) = true := by simp; omega
    have h2 : (xs.length != ys.length) = true := by simpa using hl
    have HX := Lib.hid (teqs_len hl)
    clear hl ha hb HC
    generalize xs.length = la, ys.length = lb at *
    go_enter Try.func58, Try.ntmps58
    go_wp2
    go_ret
    exact ⟨by rw [HX.out]; rfl, Below.refl _ _⟩

theorem fnEqual : IsFn Try.prog 39 Try.f39 := ⟨Try.func39, by kernel_rfl, by kernel_rfl⟩

set_option maxHeartbeats 1000000 in
theorem Equal_any (a : T) : ∀ b, EqC 39 a b := by
  induction a using T.ind with
  | _ k n s ks ih =>
  rintro ⟨k', n', s', ks'⟩ v1 v2 w hv1 hv2
  obtain ⟨A, c, rfl, hf, hlk, hlc, hrow⟩ := hv1.open_
  obtain ⟨A', c', rfl, hf', hlk', hlc', hrow'⟩ := hv2.open_
  simp only [T.k_nd, T.n_nd, T.s_nd, T.ks_nd] at *
  have IH := Lib.hid ih
  clear ih hf hf' hlc hlc' hv1 hv2
  have hb0 : ∀ o o', Below w.heap.size w ((w.alloc o).alloc o') := fun o o' => ((Below.refl _ _).alloc (Nat.le_refl _) _).alloc (by simp) _
  have HB := Lib.hid hb0
  clear hb0
  have HX := Lib.hid (show teq (.nd k n s ks) (.nd k' n' s' ks') = (k == k' && n == n' && s.toList == s'.toList && teqs ks ks') by rw [teq])
  by_cases h1 : (k == k') = true
  · by_cases h2 : (n == n') = true
    · by_cases h3 : (s.toList == s'.toList) = true
      · go_enter Try.func39, Try.ntmps39
        go_wp2_with fail
        refine (EqualFunc_any ks ks' A A' c c' _ (hrow.later (HB.out _ _)) (hrow'.later (HB.out _ _)) hlk hlk' _ _ fnEqual (fun i hi hi' => IH.out _ (List.getElem_mem hi) _)).mono ?_
        rintro e w1 ⟨rfl, hb1⟩
        go_wp2_with fail
        go_ret
        exact ⟨by rw [HX.out]; simp [*], (HB.out _ _).trans (hb1.mono (by simp; omega))⟩
      · have h3' : (s.toList == s'.toList) = false := by simpa using h3
        clear h3
        go_enter Try.func39, Try.ntmps39
        go_wp2_with fail
        go_ret
        exact ⟨by rw [HX.out]; simp [*], HB.out _ _⟩
    · have h2' : (n == n') = false := by simpa using h2
      clear h2
      go_enter Try.func39, Try.ntmps39
      go_wp2_with fail
      go_ret
      exact ⟨by rw [HX.out]; simp [*], HB.out _ _⟩
  · have h1' : (k == k') = false := by simpa using h1
    clear h1
    go_enter Try.func39, Try.ntmps39
    go_wp2_with fail
    go_ret
    exact ⟨by rw [HX.out]; simp [*], HB.out _ _⟩

end Go.Proofs.Ytldcjboignbfpaa
