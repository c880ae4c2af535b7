/-
  Contracts of package ast: every, IsExpr, IsPlace, isVar.
-/
import Derived.Test.YtekjfbnggfbfhaaAst
namespace Go.Proofs.Ytekjfbnggfbfhaa
open Go.RowKit

set_option maxHeartbeats 1000000 in
theorem every_any (ts : List T) (Ad : Option Addr) (c : Nat) (w : World) (hrow : RowAt w Any Ad ts) (hlk : ts.length ≤ LK) (f : FuncId) (fn : Func) (hfn : IsFn Try.prog f fn) (p : T → Bool)
    (hc : ∀ i (hi : i < ts.length) v1 w1, NV w1 Any ts[i] v1 → Calls Try.prog f #[v1] w1 fun e w' => e = .returned (.bool (p ts[i])) ∧ Below w1.heap.size w1 w') :
    Calls Try.prog 53 #[.slice Ad ts.length c, .func (.func f) #[] #[]] w fun e w' => e = .returned (.bool (kidsFrom (fun _ => p) 0 ts)) ∧ Below w.heap.size w w' := by
  have hlk' := LK_int hlk
  have HC := Lib.hid hc
  have hcall := run_callFunc hfn
  clear hc hfn hlk
  go_enter Try.func53, Try.ntmps53
  go_wp2
  go_loopw [4, 9] (fun r i wr => ∃ j : Nat, j ≤ ts.length ∧ i = .int .i64 j ∧ r = .bool false ∧ Hid (∀ q (hq : q < ts.length), q < j → p ts[q] = true) ∧ Below w.heap.size w wr) (fun _ i _ => ts.length - (intOf i).toNat)
  case atStart => exact ⟨0, Nat.zero_le _, rfl, rfl, fun q hq h => by omega, Below.refl _ _⟩
  case round =>
    obtain ⟨j, hj, rfl, rfl, HP, hb⟩ := hrel
    by_cases hlt : j < ts.length
    · obtain ⟨a, t', A', c', rfl, _, Ht, c0, c1, c2, c3, hn⟩ := (hrow.later hb).get hlt
      have h0 := HC.out j hlt
      rw [Ht.out] at h0
      have H0 := Lib.hid h0
      clear h0 hrow
      go_wp2_with fail
      refine (H0.out _ _ (hn.later ((Below.refl _ _).alloc (Nat.le_refl _) _))).mono ?_
      rintro e w1 ⟨rfl, hb1⟩
      have hb2 : Below w.heap.size w w1 := (hb.alloc hb.size _).trans (hb1.mono (by have := hb.size; simp; omega))
      cases hp : p t'
      · go_wp2_with fail
        go_ret
        have hx : kidsFrom (fun _ => p) 0 ts = false := by
          have := kidsB_false (m := ts.length) (p := fun _ => p) hlt (by rw [Ht.out]; exact hp)
          simpa [kidsB] using this
        exact ⟨by rw [hx]; rfl, hb2⟩
      · have HP2 := Lib.hid hp
        clear hp
        go_wp2_with fail
        go_roundw
        case rel =>
          refine ⟨j + 1, by omega, by go_num, rfl, ?_, hb2⟩
          intro q hq hqj
          by_cases e : q = j
          · subst e; rw [Ht.out]; exact HP2.out
          · exact HP.out q hq (by omega)
        case measure => simp [intOf]; omega
    · have hlt' : ts.length ≤ j := by omega
      go_wp2_with fail
      go_ret
      have hx : kidsFrom (fun _ => p) 0 ts = true := by
        rw [kidsFrom_iff]
        exact fun q hq => HP.out q hq (by omega)
      exact ⟨by rw [hx]; rfl, hb⟩

theorem fcell {w : World} {cs : Array Value} {ty : TypeId} {i : Nat} {u : Value} (h : cs[i]? = some u) : (w.alloc (.cells cs ty)).cell? ⟨w.heap.size, i, none⟩ = some u := by
  have hh : (w.alloc (.cells cs ty)).heap[w.heap.size]? = some (.cells cs ty (0, 0)) := heap_alloc_new w _
  simp only [World.cell?, hh]; simpa using h
theorem fnIsExpr : IsFn Try.prog 51 Try.f51 := ⟨Try.func51, by kernel_rfl, by kernel_rfl⟩
theorem fnIsPlace : IsFn Try.prog 50 Try.f50 := ⟨Try.func50, by kernel_rfl, by kernel_rfl⟩
theorem fnIsVar : IsFn Try.prog 54 Try.f54 := ⟨Try.func54, by kernel_rfl, by kernel_rfl⟩
theorem fnIsStmt : IsFn Try.prog 34 Try.f34 := ⟨Try.func34, by kernel_rfl, by kernel_rfl⟩
theorem fnIsBlock : IsFn Try.prog 55 Try.f55 := ⟨Try.func55, by kernel_rfl, by kernel_rfl⟩

set_option maxHeartbeats 1000000 in
theorem IsExpr_1 (n : Int) (s : ByteArray) (ks : List T) (v : Value) (w : World) (hv : NV w Any (.nd 1 n s ks) v) :
    Calls Try.prog 51 #[v] w fun e w' => e = .returned (.bool (isE (.nd 1 n s ks))) ∧ Below w.heap.size w w' := by
  obtain ⟨Ad, c, rfl, hf, hlk, hlc, hrow⟩ := hv.open_
  simp only [T.k_nd, T.n_nd, T.s_nd, T.ks_nd] at *
  have hlk' := LK_int hlk
  clear hf hv hlk hrow hlc
  have HX := Lib.hid (show isE (.nd 1 n s ks) = (decide (0 ≤ n) && s.toList.isEmpty && decide (ks.length = 0)) by simp [isE])
  have hz : ((ks.length : Int) == 0) = decide (ks.length = 0) := by rw [Bool.eq_iff_iff]; simp
  generalize ks.length = l at *
  have HZ := Lib.hid hz
  clear hz
  by_cases hn : 0 ≤ n
  all_goals
    by_cases hs : s.toList.isEmpty = true
    all_goals
      go_enter Try.func51, Try.ntmps51
      go_wp2
      all_goals (go_ret; exact ⟨by rw [HX.out, ← HZ.out]; simp [*] <;> omega, (Below.refl _ _).alloc (Nat.le_refl _) _⟩)

set_option maxHeartbeats 1000000 in
theorem IsExpr_2 (n : Int) (s : ByteArray) (ks : List T) (v : Value) (w : World) (hv : NV w Any (.nd 2 n s ks) v) :
    Calls Try.prog 51 #[v] w fun e w' => e = .returned (.bool (isE (.nd 2 n s ks))) ∧ Below w.heap.size w w' := by
  obtain ⟨Ad, c, rfl, hf, hlk, hlc, hrow⟩ := hv.open_
  simp only [T.k_nd, T.n_nd, T.s_nd, T.ks_nd] at *
  have hlk' := LK_int hlk
  clear hf hv hlk hrow hlc
  have HX := Lib.hid (show isE (.nd 2 n s ks) = (namedB n s && decide (ks.length = 0)) by simp [isE])
  have hz : ((ks.length : Int) == 0) = decide (ks.length = 0) := by rw [Bool.eq_iff_iff]; simp
  generalize ks.length = l at *
  have HZ := Lib.hid hz
  clear hz
  by_cases hnb : namedB n s = true
  · go_enter Try.func51, Try.ntmps51
    go_wp2_with fail
    refine (named_any _ _ _ _ _ _ _).mono ?_
    rintro e w1 ⟨rfl, hb1⟩
    obtain ⟨hc1, hf1⟩ := bcell hb1
    have hbb : Below w.heap.size w w1 := ((Below.refl _ _).alloc (Nat.le_refl _) _).trans (hb1.mono (by simp))
    go_wp2_with fail
    go_ret
    exact ⟨by rw [HX.out, ← HZ.out]; simp [*], hbb⟩
  · have hnb' : namedB n s = false := by simpa using hnb
    clear hnb
    go_enter Try.func51, Try.ntmps51
    go_wp2_with fail
    refine (named_any _ _ _ _ _ _ _).mono ?_
    rintro e w1 ⟨rfl, hb1⟩
    have hbb : Below w.heap.size w w1 := ((Below.refl _ _).alloc (Nat.le_refl _) _).trans (hb1.mono (by simp))
    go_wp2_with fail
    go_ret
    exact ⟨by rw [HX.out]; simp [*], hbb⟩

set_option maxHeartbeats 1000000 in
theorem IsExpr_4 (n : Int) (s : ByteArray) (ks : List T) (v : Value) (w : World) (hv : NV w Any (.nd 4 n s ks) v) :
    Calls Try.prog 51 #[v] w fun e w' => e = .returned (.bool (isE (.nd 4 n s ks))) ∧ Below w.heap.size w w' := by
  obtain ⟨Ad, c, rfl, hf, hlk, hlc, hrow⟩ := hv.open_
  simp only [T.k_nd, T.n_nd, T.s_nd, T.ks_nd] at *
  have hlk' := LK_int hlk
  clear hf hv hlk hrow hlc
  have HX := Lib.hid (show isE (.nd 4 n s ks) = (namedB n s && decide (ks.length = 0)) by simp [isE])
  have hz : ((ks.length : Int) == 0) = decide (ks.length = 0) := by rw [Bool.eq_iff_iff]; simp
  generalize ks.length = l at *
  have HZ := Lib.hid hz
  clear hz
  by_cases hnb : namedB n s = true
  · go_enter Try.func51, Try.ntmps51
    go_wp2_with fail
    refine (named_any _ _ _ _ _ _ _).mono ?_
    rintro e w1 ⟨rfl, hb1⟩
    obtain ⟨hc1, hf1⟩ := bcell hb1
    have hbb : Below w.heap.size w w1 := ((Below.refl _ _).alloc (Nat.le_refl _) _).trans (hb1.mono (by simp))
    go_wp2_with fail
    go_ret
    exact ⟨by rw [HX.out, ← HZ.out]; simp [*], hbb⟩
  · have hnb' : namedB n s = false := by simpa using hnb
    clear hnb
    go_enter Try.func51, Try.ntmps51
    go_wp2_with fail
    refine (named_any _ _ _ _ _ _ _).mono ?_
    rintro e w1 ⟨rfl, hb1⟩
    have hbb : Below w.heap.size w w1 := ((Below.refl _ _).alloc (Nat.le_refl _) _).trans (hb1.mono (by simp))
    go_wp2_with fail
    go_ret
    exact ⟨by rw [HX.out]; simp [*], hbb⟩

set_option maxHeartbeats 1000000 in
theorem IsExpr_5 (n : Int) (s : ByteArray) (ks : List T) (v : Value) (w : World) (hv : NV w Any (.nd 5 n s ks) v) :
    Calls Try.prog 51 #[v] w fun e w' => e = .returned (.bool (isE (.nd 5 n s ks))) ∧ Below w.heap.size w w' := by
  obtain ⟨Ad, c, rfl, hf, hlk, hlc, hrow⟩ := hv.open_
  simp only [T.k_nd, T.n_nd, T.s_nd, T.ks_nd] at *
  have hlk' := LK_int hlk
  clear hf hv hlk hrow hlc
  have HX := Lib.hid (show isE (.nd 5 n s ks) = (namedB n s && decide (ks.length = 0)) by simp [isE])
  have hz : ((ks.length : Int) == 0) = decide (ks.length = 0) := by rw [Bool.eq_iff_iff]; simp
  generalize ks.length = l at *
  have HZ := Lib.hid hz
  clear hz
  by_cases hnb : namedB n s = true
  · go_enter Try.func51, Try.ntmps51
    go_wp2_with fail
    refine (named_any _ _ _ _ _ _ _).mono ?_
    rintro e w1 ⟨rfl, hb1⟩
    obtain ⟨hc1, hf1⟩ := bcell hb1
    have hbb : Below w.heap.size w w1 := ((Below.refl _ _).alloc (Nat.le_refl _) _).trans (hb1.mono (by simp))
    go_wp2_with fail
    go_ret
    exact ⟨by rw [HX.out, ← HZ.out]; simp [*], hbb⟩
  · have hnb' : namedB n s = false := by simpa using hnb
    clear hnb
    go_enter Try.func51, Try.ntmps51
    go_wp2_with fail
    refine (named_any _ _ _ _ _ _ _).mono ?_
    rintro e w1 ⟨rfl, hb1⟩
    have hbb : Below w.heap.size w w1 := ((Below.refl _ _).alloc (Nat.le_refl _) _).trans (hb1.mono (by simp))
    go_wp2_with fail
    go_ret
    exact ⟨by rw [HX.out]; simp [*], hbb⟩

set_option maxHeartbeats 1000000 in
theorem IsExpr_3 (n : Int) (s : ByteArray) (ks : List T) (v : Value) (w : World) (hv : NV w Any (.nd 3 n s ks) v)
    (ih : ∀ i (hi : i < ks.length) v1 w1, NV w1 Any ks[i] v1 → Calls Try.prog 51 #[v1] w1 fun e w' => e = .returned (.bool (isE ks[i])) ∧ Below w1.heap.size w1 w') :
    Calls Try.prog 51 #[v] w fun e w' => e = .returned (.bool (isE (.nd 3 n s ks))) ∧ Below w.heap.size w w' := by
  have HX := Lib.hid (show isE (.nd 3 n s ks) = (namedB n s && kidsB 1 (fun _ => isE) ks) by simp [isE, kidsB, isEs_eq 0])
  have IH := Lib.hid ih
  have HV := Lib.hid hv
  obtain ⟨Ad, c, rfl, hf, hlk, hlc, hrow⟩ := hv.open_
  simp only [T.k_nd, T.n_nd, T.s_nd, T.ks_nd] at *
  have hlk' := LK_int hlk
  clear hf hv hlk hrow hlc ih
  by_cases hnb : namedB n s = true
  · go_enter Try.func51, Try.ntmps51
    go_wp2_with fail
    refine (named_any _ _ _ _ _ _ _).mono ?_
    rintro e w1 ⟨rfl, hb1⟩
    obtain ⟨hc1, hf1⟩ := bcell hb1
    have hbb : Below w.heap.size w w1 := ((Below.refl _ _).alloc (Nat.le_refl _) _).trans (hb1.mono (by simp))
    go_wp2_with fail
    refine (kids_any (.nd 3 n s ks) _ _ (HV.out.later (hbb.alloc hbb.size _)) _ 1 (fun _ => 51) (fun _ => Try.f51) (fun _ => isE) (by decide) (by simp) (fun i hi => fcell (by rcases i with _ | _ | i <;> first | omega | rfl)) (fun _ _ => fnIsExpr) (fun _ => IH.out)).mono ?_
    rintro e w2 ⟨rfl, hb2⟩
    have hbc : Below w.heap.size w w2 := (hbb.alloc hbb.size _).trans (hb2.mono (by have := hbb.size; simp; omega))
    go_wp2_with fail
    go_ret
    exact ⟨by rw [HX.out]; simp [*], hbc⟩
  · have hnb' : namedB n s = false := by simpa using hnb
    clear hnb
    go_enter Try.func51, Try.ntmps51
    go_wp2_with fail
    refine (named_any _ _ _ _ _ _ _).mono ?_
    rintro e w1 ⟨rfl, hb1⟩
    have hbb : Below w.heap.size w w1 := ((Below.refl _ _).alloc (Nat.le_refl _) _).trans (hb1.mono (by simp))
    go_wp2_with fail
    go_ret
    exact ⟨by rw [HX.out]; simp [*], hbb⟩

set_option maxHeartbeats 1000000 in
theorem IsExpr_6 (n : Int) (s : ByteArray) (ks : List T) (v : Value) (w : World) (hv : NV w Any (.nd 6 n s ks) v)
    (ih : ∀ i (hi : i < ks.length) v1 w1, NV w1 Any ks[i] v1 → Calls Try.prog 51 #[v1] w1 fun e w' => e = .returned (.bool (isE ks[i])) ∧ Below w1.heap.size w1 w') :
    Calls Try.prog 51 #[v] w fun e w' => e = .returned (.bool (isE (.nd 6 n s ks))) ∧ Below w.heap.size w w' := by
  have HX := Lib.hid (show isE (.nd 6 n s ks) = (plainB n s && kidsB 1 (fun _ => isE) ks) by simp [isE, kidsB, isEs_eq 0])
  have IH := Lib.hid ih
  have HV := Lib.hid hv
  obtain ⟨Ad, c, rfl, hf, hlk, hlc, hrow⟩ := hv.open_
  simp only [T.k_nd, T.n_nd, T.s_nd, T.ks_nd] at *
  have hlk' := LK_int hlk
  clear hf hv hlk hrow hlc ih
  by_cases hnb : plainB n s = true
  · go_enter Try.func51, Try.ntmps51
    go_wp2_with fail
    refine (plain_any _ _ _ _ _ _ _).mono ?_
    rintro e w1 ⟨rfl, hb1⟩
    obtain ⟨hc1, hf1⟩ := bcell hb1
    have hbb : Below w.heap.size w w1 := ((Below.refl _ _).alloc (Nat.le_refl _) _).trans (hb1.mono (by simp))
    go_wp2_with fail
    refine (kids_any (.nd 6 n s ks) _ _ (HV.out.later (hbb.alloc hbb.size _)) _ 1 (fun _ => 51) (fun _ => Try.f51) (fun _ => isE) (by decide) (by simp) (fun i hi => fcell (by rcases i with _ | _ | i <;> first | omega | rfl)) (fun _ _ => fnIsExpr) (fun _ => IH.out)).mono ?_
    rintro e w2 ⟨rfl, hb2⟩
    have hbc : Below w.heap.size w w2 := (hbb.alloc hbb.size _).trans (hb2.mono (by have := hbb.size; simp; omega))
    go_wp2_with fail
    go_ret
    exact ⟨by rw [HX.out]; simp [*], hbc⟩
  · have hnb' : plainB n s = false := by simpa using hnb
    clear hnb
    go_enter Try.func51, Try.ntmps51
    go_wp2_with fail
    refine (plain_any _ _ _ _ _ _ _).mono ?_
    rintro e w1 ⟨rfl, hb1⟩
    have hbb : Below w.heap.size w w1 := ((Below.refl _ _).alloc (Nat.le_refl _) _).trans (hb1.mono (by simp))
    go_wp2_with fail
    go_ret
    exact ⟨by rw [HX.out]; simp [*], hbb⟩

set_option maxHeartbeats 1000000 in
theorem IsExpr_7 (n : Int) (s : ByteArray) (ks : List T) (v : Value) (w : World) (hv : NV w Any (.nd 7 n s ks) v)
    (ih : ∀ i (hi : i < ks.length) v1 w1, NV w1 Any ks[i] v1 → Calls Try.prog 51 #[v1] w1 fun e w' => e = .returned (.bool (isE ks[i])) ∧ Below w1.heap.size w1 w') :
    Calls Try.prog 51 #[v] w fun e w' => e = .returned (.bool (isE (.nd 7 n s ks))) ∧ Below w.heap.size w w' := by
  have HX := Lib.hid (show isE (.nd 7 n s ks) = (plainB n s && kidsB 1 (fun _ => isE) ks) by simp [isE, kidsB, isEs_eq 0])
  have IH := Lib.hid ih
  have HV := Lib.hid hv
  obtain ⟨Ad, c, rfl, hf, hlk, hlc, hrow⟩ := hv.open_
  simp only [T.k_nd, T.n_nd, T.s_nd, T.ks_nd] at *
  have hlk' := LK_int hlk
  clear hf hv hlk hrow hlc ih
  by_cases hnb : plainB n s = true
  · go_enter Try.func51, Try.ntmps51
    go_wp2_with fail
    refine (plain_any _ _ _ _ _ _ _).mono ?_
    rintro e w1 ⟨rfl, hb1⟩
    obtain ⟨hc1, hf1⟩ := bcell hb1
    have hbb : Below w.heap.size w w1 := ((Below.refl _ _).alloc (Nat.le_refl _) _).trans (hb1.mono (by simp))
    go_wp2_with fail
    refine (kids_any (.nd 7 n s ks) _ _ (HV.out.later (hbb.alloc hbb.size _)) _ 1 (fun _ => 51) (fun _ => Try.f51) (fun _ => isE) (by decide) (by simp) (fun i hi => fcell (by rcases i with _ | _ | i <;> first | omega | rfl)) (fun _ _ => fnIsExpr) (fun _ => IH.out)).mono ?_
    rintro e w2 ⟨rfl, hb2⟩
    have hbc : Below w.heap.size w w2 := (hbb.alloc hbb.size _).trans (hb2.mono (by have := hbb.size; simp; omega))
    go_wp2_with fail
    go_ret
    exact ⟨by rw [HX.out]; simp [*], hbc⟩
  · have hnb' : plainB n s = false := by simpa using hnb
    clear hnb
    go_enter Try.func51, Try.ntmps51
    go_wp2_with fail
    refine (plain_any _ _ _ _ _ _ _).mono ?_
    rintro e w1 ⟨rfl, hb1⟩
    have hbb : Below w.heap.size w w1 := ((Below.refl _ _).alloc (Nat.le_refl _) _).trans (hb1.mono (by simp))
    go_wp2_with fail
    go_ret
    exact ⟨by rw [HX.out]; simp [*], hbb⟩

set_option maxHeartbeats 1000000 in
theorem IsExpr_bin (k n : Int) (s : ByteArray) (ks : List T) (v : Value) (w : World) (h8 : 8 ≤ k) (h23 : k ≤ 23) (hv : NV w Any (.nd k n s ks) v)
    (ih : ∀ i (hi : i < ks.length) v1 w1, NV w1 Any ks[i] v1 → Calls Try.prog 51 #[v1] w1 fun e w' => e = .returned (.bool (isE ks[i])) ∧ Below w1.heap.size w1 w') :
    Calls Try.prog 51 #[v] w fun e w' => e = .returned (.bool (isE (.nd k n s ks))) ∧ Below w.heap.size w w' := by
  have HX := Lib.hid (show isE (.nd k n s ks) = (plainB n s && kidsB 2 (fun _ => isE) ks) by rw [isE, if_neg (by omega), if_neg (by omega), if_neg (by omega), if_neg (by omega), if_pos ⟨h8, h23⟩, kidsB, isEs_eq 0])
  have IH := Lib.hid ih
  have HV := Lib.hid hv
  obtain ⟨Ad, c, rfl, hf, hlk, hlc, hrow⟩ := hv.open_
  simp only [T.k_nd, T.n_nd, T.s_nd, T.ks_nd] at *
  have hlk' := LK_int hlk
  clear hf hv hlk hrow hlc ih
  by_cases hnb : plainB n s = true
  · go_enter Try.func51, Try.ntmps51
    go_wp2_with fail
    refine (plain_any _ _ _ _ _ _ _).mono ?_
    rintro e w1 ⟨rfl, hb1⟩
    obtain ⟨hc1, hf1⟩ := bcell hb1
    have hbb : Below w.heap.size w w1 := ((Below.refl _ _).alloc (Nat.le_refl _) _).trans (hb1.mono (by simp))
    go_wp2_with fail
    refine (kids_any (.nd k n s ks) _ _ (HV.out.later (hbb.alloc hbb.size _)) _ 2 (fun _ => 51) (fun _ => Try.f51) (fun _ => isE) (by decide) (by simp) (fun i hi => fcell (by rcases i with _ | _ | i <;> first | omega | rfl)) (fun _ _ => fnIsExpr) (fun _ => IH.out)).mono ?_
    rintro e w2 ⟨rfl, hb2⟩
    have hbc : Below w.heap.size w w2 := (hbb.alloc hbb.size _).trans (hb2.mono (by have := hbb.size; simp; omega))
    go_wp2_with fail
    go_ret
    exact ⟨by rw [HX.out]; simp [*], hbc⟩
  · have hnb' : plainB n s = false := by simpa using hnb
    clear hnb
    go_enter Try.func51, Try.ntmps51
    go_wp2_with fail
    refine (plain_any _ _ _ _ _ _ _).mono ?_
    rintro e w1 ⟨rfl, hb1⟩
    have hbb : Below w.heap.size w w1 := ((Below.refl _ _).alloc (Nat.le_refl _) _).trans (hb1.mono (by simp))
    go_wp2_with fail
    go_ret
    exact ⟨by rw [HX.out]; simp [*], hbb⟩

set_option maxHeartbeats 1000000 in
theorem IsExpr_not (k n : Int) (s : ByteArray) (ks : List T) (v : Value) (w : World) (n1 : (k == 1) = false) (n2 : (k == 2) = false) (n3 : (k == 3) = false) (n4 : (k == 4) = false) (n5 : (k == 5) = false) (n6 : (k == 6) = false) (n7 : (k == 7) = false) (h8 : k < 8 ∨ 23 < k) (hv : NV w Any (.nd k n s ks) v) :
    Calls Try.prog 51 #[v] w fun e w' => e = .returned (.bool (isE (.nd k n s ks))) ∧ Below w.heap.size w w' := by
  obtain ⟨Ad, c, rfl, hf, hlk, hlc, hrow⟩ := hv.open_
  simp only [T.k_nd, T.n_nd, T.s_nd, T.ks_nd] at *
  have hlk' := LK_int hlk
  have HX := Lib.hid (show isE (.nd k n s ks) = false by
    simp only [beq_eq_false_iff_ne, ne_eq] at n1 n2 n3 n4 n5 n6 n7
    rw [isE, if_neg (by omega), if_neg (by omega), if_neg (by omega), if_neg (by omega), if_neg (by omega)])
  clear hf hv hlk hrow hlc
  rcases h8 with h8 | h8
  all_goals
    go_enter Try.func51, Try.ntmps51
    go_wp2
    go_ret
    exact ⟨by rw [HX.out]; rfl, (Below.refl _ _).alloc (Nat.le_refl _) _⟩

theorem IsExpr_any (t : T) : ∀ (v : Value) (w : World), NV w Any t v →
    Calls Try.prog 51 #[v] w fun e w' => e = .returned (.bool (isE t)) ∧ Below w.heap.size w w' := by
  induction t using T.ind with
  | _ k n s ks ih =>
  intro v w hv
  have ih' : ∀ i (hi : i < ks.length) v1 w1, NV w1 Any ks[i] v1 → Calls Try.prog 51 #[v1] w1 fun e w' => e = .returned (.bool (isE ks[i])) ∧ Below w1.heap.size w1 w' := fun i hi => ih _ (List.getElem_mem hi)
  by_cases h1 : k = 1
  · subst h1; exact IsExpr_1 n s ks v w hv
  by_cases h2 : k = 2
  · subst h2; exact IsExpr_2 n s ks v w hv
  by_cases h4 : k = 4
  · subst h4; exact IsExpr_4 n s ks v w hv
  by_cases h5 : k = 5
  · subst h5; exact IsExpr_5 n s ks v w hv
  by_cases h3 : k = 3
  · subst h3; exact IsExpr_3 n s ks v w hv ih'
  by_cases h6 : k = 6
  · subst h6; exact IsExpr_6 n s ks v w hv ih'
  by_cases h7 : k = 7
  · subst h7; exact IsExpr_7 n s ks v w hv ih'
  by_cases h8 : 8 ≤ k ∧ k ≤ 23
  · exact IsExpr_bin k n s ks v w h8.1 h8.2 hv ih'
  · exact IsExpr_not k n s ks v w (by simpa using h1) (by simpa using h2) (by simpa using h3) (by simpa using h4) (by simpa using h5) (by simpa using h6) (by simpa using h7) (by omega) hv

set_option maxHeartbeats 1000000 in
theorem IsPlace_any (t : T) (v : Value) (w : World) (hv : NV w Any t v) :
    Calls Try.prog 50 #[v] w fun e w' => e = .returned (.bool (isP t)) ∧ Below w.heap.size w w' := by
  have HV := Lib.hid hv
  obtain ⟨Ad, c, rfl, hf, hlk, hlc, hrow⟩ := hv.open_
  clear hf hlk hrow hv
  have HX := Lib.hid (show isP t = ((t.k == 2 || t.k == 3) && isE t) from rfl)
  generalize t.k = k, t.n = n, t.s = s, t.ks.length = l at *
  by_cases h2 : (k == 2) = true
  · go_enter Try.func50, Try.ntmps50
    go_wp2_with (go_at_call 51; refine (IsExpr_any t _ _ (HV.out.later ((Below.refl _ _).alloc (Nat.le_refl _) _))).mono ?_; rintro e w1 ⟨rfl, hb1⟩)
    go_ret
    exact ⟨by rw [HX.out]; simp [h2], ((Below.refl _ _).alloc (Nat.le_refl _) _).trans (hb1.mono (by simp))⟩
  · have h2' : (k == 2) = false := by simpa using h2
    clear h2
    by_cases h3 : (k == 3) = true
    · go_enter Try.func50, Try.ntmps50
      go_wp2_with (go_at_call 51; refine (IsExpr_any t _ _ (HV.out.later ((Below.refl _ _).alloc (Nat.le_refl _) _))).mono ?_; rintro e w1 ⟨rfl, hb1⟩)
      go_ret
      exact ⟨by rw [HX.out]; simp [h3], ((Below.refl _ _).alloc (Nat.le_refl _) _).trans (hb1.mono (by simp))⟩
    · have h3' : (k == 3) = false := by simpa using h3
      clear h3
      go_enter Try.func50, Try.ntmps50
      go_wp2_with fail
      go_ret
      exact ⟨by rw [HX.out]; simp [h2', h3'], ((Below.refl _ _).alloc (Nat.le_refl _) _)⟩

set_option maxHeartbeats 1000000 in
theorem isVar_any (t : T) (v : Value) (w : World) (hv : NV w Any t v) :
    Calls Try.prog 54 #[v] w fun e w' => e = .returned (.bool (isV t)) ∧ Below w.heap.size w w' := by
  have HV := Lib.hid hv
  obtain ⟨Ad, c, rfl, hf, hlk, hlc, hrow⟩ := hv.open_
  clear hf hlk hrow hv
  have HX := Lib.hid (show isV t = (t.k == 2 && isE t) from rfl)
  generalize t.k = k, t.n = n, t.s = s, t.ks.length = l at *
  by_cases h2 : (k == 2) = true
  · go_enter Try.func54, Try.ntmps54
    go_wp2_with (go_at_call 51; refine (IsExpr_any t _ _ (HV.out.later ((Below.refl _ _).alloc (Nat.le_refl _) _))).mono ?_; rintro e w1 ⟨rfl, hb1⟩)
    go_ret
    exact ⟨by rw [HX.out]; simp [h2], ((Below.refl _ _).alloc (Nat.le_refl _) _).trans (hb1.mono (by simp))⟩
  · have h2' : (k == 2) = false := by simpa using h2
    clear h2
    go_enter Try.func54, Try.ntmps54
    go_wp2_with fail
    go_ret
    exact ⟨by rw [HX.out]; simp [h2'], ((Below.refl _ _).alloc (Nat.le_refl _) _)⟩

end Go.Proofs.Ytekjfbnggfbfhaa
