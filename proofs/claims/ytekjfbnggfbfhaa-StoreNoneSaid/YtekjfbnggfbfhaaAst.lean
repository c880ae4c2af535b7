/-
  Contracts of package ast: Size, plain, named, kids, every, IsExpr, IsPlace, isVar.
-/
import Derived.Test.YtekjfbnggfbfhaaSpec
namespace Go.Proofs.Ytekjfbnggfbfhaa
open Go.RowKit

theorem bcell {W w1 : World} (hb : Below W.heap.size W w1) : (∀ b o, b < W.heap.size → w1.cell? ⟨b, o, none⟩ = W.cell? ⟨b, o, none⟩) ∧ (∀ b o, b < W.heap.size → w1.frozen? ⟨b, o, none⟩ = W.frozen? ⟨b, o, none⟩) :=
  ⟨fun b o h => hb.cell (p := ⟨b, o, none⟩) h, fun b o h => hb.frozen (p := ⟨b, o, none⟩) h⟩

set_option maxHeartbeats 400000 in
theorem plain_any (k n : Int) (s : ByteArray) (A : Option Addr) (l c : Nat) (w : World) :
    Calls Try.prog 48 #[nv k n s A l c] w fun e w' => e = .returned (.bool (plainB n s)) ∧ Below w.heap.size w w' := by
  go_enter Try.func48, Try.ntmps48
  go_wp2
  all_goals (go_ret; exact ⟨by simp [plainB, *], (Below.refl _ _).alloc (Nat.le_refl _) _⟩)

set_option maxHeartbeats 400000 in
theorem named_any (k n : Int) (s : ByteArray) (A : Option Addr) (l c : Nat) (w : World) :
    Calls Try.prog 52 #[nv k n s A l c] w fun e w' => e = .returned (.bool (namedB n s)) ∧ Below w.heap.size w w' := by
  go_enter Try.func52, Try.ntmps52
  by_cases hn : (n == 0) = true
  · go_wp2_with (go_at_call 64; refine (Name_any _ _).mono ?_; rintro e w' ⟨rfl, hb⟩)
    go_ret
    exact ⟨by simp [namedB, hn], ((Below.refl _ _).alloc (Nat.le_refl _) _).trans (hb.mono (by simp))⟩
  · have hn' : (n == 0) = false := by simpa using hn
    clear hn
    go_wp2_with fail
    go_ret
    exact ⟨by simp [namedB, hn'], (Below.refl _ _).alloc (Nat.le_refl _) _⟩

set_option maxHeartbeats 1000000 in
theorem kids_any (t : T) (v : Value) (w : World) (hv : NV w Any t v) (b m : Nat) (F : Nat → FuncId) (G : Nat → Func) (p : Nat → T → Bool) (hm : m ≤ 8) (hbl : b < w.heap.size)
    (hcell : ∀ i, i < m → w.cell? ⟨b, i, none⟩ = some (.func (.func (F i)) #[] #[])) (hfn : ∀ i, i < m → IsFn Try.prog (F i) (G i))
    (hc : t.ks.length = m → ∀ i (hi : i < t.ks.length) v1 w1, NV w1 Any t.ks[i] v1 → Calls Try.prog (F i) #[v1] w1 fun e w' => e = .returned (.bool (p i t.ks[i])) ∧ Below w1.heap.size w1 w') :
    Calls Try.prog 49 #[v, .slice (some ⟨b, 0, none⟩) m m] w fun e w' => e = .returned (.bool (kidsB m p t.ks)) ∧ Below w.heap.size w w' := by
  obtain ⟨A, c, rfl, hf, hlk, hlc, hrow⟩ := hv.open_
  have hlk' := LK_int hlk
  have HC := Lib.hid hc
  have HCell := Lib.hid hcell
  have HFn := Lib.hid hfn
  clear hc hcell hfn hf hv hlk
  generalize t.k = k, t.n = n, t.s = s, t.ks = ks at *
  by_cases hl : ks.length = m
  · subst hl
    have HC1 := Lib.hid (HC.out rfl)
    clear HC
    have hneq : ((ks.length : Int) != (ks.length : Int)) = false := by simp
    go_enter Try.func49, Try.ntmps49
    go_wp2
    go_loopw [4, 5, 6, 15] (fun r _ _ i wr => ∃ j : Nat, j ≤ ks.length ∧ i = .int .i64 j ∧ r = .bool false ∧ Hid (∀ q (hq : q < ks.length), q < j → p q ks[q] = true) ∧ Below (w.heap.size + 1) (w.alloc (.cells #[.int .u8 k, .int .i64 n, .string s, .slice A ks.length c] 36)) wr) (fun _ _ _ i _ => ks.length - (intOf i).toNat)
    case atStart => exact ⟨0, Nat.zero_le _, rfl, rfl, fun q hq h => by omega, Below.refl _ _⟩
    case round =>
      obtain ⟨j, hj, rfl, rfl, HP, hb⟩ := hrel
      have hb0 : Below w.heap.size w wr := ((Below.refl _ _).alloc (Nat.le_refl _) _).trans (hb.mono (by omega))
      by_cases hlt : j < ks.length
      · obtain ⟨a, t', A', c', rfl, _, Ht, c0, c1, c2, c3, hn⟩ := (hrow.later hb0).get hlt
        have hcall := run_callFunc (HFn.out j hlt)
        have hfc : wr.cell? ⟨b, j, none⟩ = some (.func (.func (F j)) #[] #[]) := (hb0.cell (p := ⟨b, j, none⟩) hbl).trans (HCell.out j hlt)
        have hbox : wr.cell? ⟨w.heap.size, 3, none⟩ = some (.slice (some a) ks.length c) := (hb.cell (p := ⟨w.heap.size, 3, none⟩) (Nat.lt_succ_self _)).trans (by simp)
        have hlt' : j < 8 := by omega
        have h0 := HC1.out j hlt
        rw [Ht.out] at h0
        have H0 := Lib.hid h0
        clear h0 hrow
        go_wp2_with fail
        refine (H0.out _ _ hn).mono ?_
        rintro e w1 ⟨rfl, hb1⟩
        cases hp : p j t'
        · go_wp2_with fail
          go_ret
          exact ⟨by rw [kidsB_false hlt (by rw [Ht.out]; exact hp)]; rfl, hb0.trans (hb1.mono hb0.size)⟩
        · have HP2 := Lib.hid hp
          clear hp
          go_wp2_with fail
          go_roundw
          case rel =>
            refine ⟨j + 1, by omega, by go_num, rfl, ?_, hb.trans (hb1.mono (by have := hb.size; simpa using this))⟩
            intro q hq hqj
            by_cases e : q = j
            · subst e; rw [Ht.out]; exact HP2.out
            · exact HP.out q hq (by omega)
          case measure => simp [intOf]; omega
      · have hlt' : ks.length ≤ j := by omega
        go_wp2_with fail
        go_ret
        exact ⟨by rw [kidsB_true rfl (fun q hq => HP.out q hq (by omega))]; rfl, hb0⟩
  · have hneq : ((ks.length : Int) != (m : Int)) = true := by simp; omega
    have hneq' : (ks.length != m) = true := by simpa using hl
    have HX := Lib.hid (kidsB_len (p := p) hl)
    clear hl HC hrow
    generalize ks.length = l at *
    go_enter Try.func49, Try.ntmps49
    go_wp2
    go_ret
    exact ⟨by rw [HX.out]; rfl, (Below.refl _ _).alloc (Nat.le_refl _) _⟩

end Go.Proofs.Ytekjfbnggfbfhaa
