/-
  Texts of the proof, put together without their remarks: Ast3, Sk, Kg, Ip, Ir.
-/
import Derived.Test.YtgnfpcebmefhoaaGreatY5
import Derived.Recover
set_option linter.unusedSimpArgs false
set_option linter.unusedVariables false
namespace Go.Proofs.YtgnfpcebmefhoaaGreat
open Go.RowKit
def StmtC (t : T) : Prop := ∀ (v : Value) (w : World), NV w Any t v → Calls Tryz.prog 92 #[v] w fun e w' => e = .returned (.bool (isS t)) ∧ Below w.heap.size w w'
def BlockC (t : T) : Prop := ∀ (v : Value) (w : World), NV w Any t v → Calls Tryz.prog 58 #[v] w fun e w' => e = .returned (.bool (isB t)) ∧ Below w.heap.size w w'
set_option maxHeartbeats 1000000 in
theorem IsStmt_40 (n : Int) (s : ByteArray) (ks : List T) (ihB : ∀ t ∈ ks, BlockC t) : StmtC (.nd 40 n s ks) := by
 intro v w hv
 have HX := Lib.hid (show isS (.nd 40 n s ks) = (plainB n s && kidsB 2 (fun i => if i = 0 then isP else isE) ks) by simp [isS])
 have IH := Lib.hid ihB
 have HV := Lib.hid hv
 obtain ⟨Ad, c, rfl, hf, hlk, hlc, hrow⟩ := hv.open_
 simp only [T.k_nd, T.n_nd, T.s_nd, T.ks_nd] at *
 have hlk' := LK_int hlk
 clear hf hv hlk hrow hlc ihB
 by_cases hnb : plainB n s = true
 ·go_enter Tryz.func92, Tryz.ntmps92
  go_wp2_with fail
  refine (plain_any _ _ _ _ _ _ _).mono ?_
  rintro e w1 ⟨rfl, hb1⟩
  obtain ⟨hc1, hf1⟩ := bcell hb1
  have hbb : Below w.heap.size w w1 := ((Below.refl _ _).alloc (Nat.le_refl _) _).trans (hb1.mono (by simp))
  go_wp2_with fail
  refine (kids_any (.nd 40 n s ks) _ _ (HV.out.later (hbb.alloc hbb.size _)) _ 2 (fun i => if i = 0 then 119 else 120) (fun i => if i = 0 then Tryz.f119 else Tryz.f120) (fun i => if i = 0 then isP else isE) (by decide) (by simp) (fun i hi => fcell (by rcases i with _ | _ | _ | _ | i <;> first | omega | rfl)) (fun i hi => by rcases i with _ | i; exact fnIsPlace; exact fnIsExpr) (fun hl i hi => by rcases i with _ | i; exact IsPlace_any _; exact IsExpr_any _)).mono ?_
  rintro e w2 ⟨rfl, hb2⟩
  have hbc : Below w.heap.size w w2 := (hbb.alloc hbb.size _).trans (hb2.mono (by have := hbb.size; simp; omega))
  go_wp2_with fail
  go_ret
  exact ⟨by rw [HX.out]; simp [*], hbc⟩
 ·have hnb' : plainB n s = false := by simpa using hnb
  clear hnb
  go_enter Tryz.func92, Tryz.ntmps92
  go_wp2_with fail
  refine (plain_any _ _ _ _ _ _ _).mono ?_
  rintro e w1 ⟨rfl, hb1⟩
  have hbb : Below w.heap.size w w1 := ((Below.refl _ _).alloc (Nat.le_refl _) _).trans (hb1.mono (by simp))
  go_wp2_with fail
  go_ret
  exact ⟨by rw [HX.out]; simp [*], hbb⟩
set_option maxHeartbeats 1000000 in
theorem IsStmt_41 (n : Int) (s : ByteArray) (ks : List T) (ihB : ∀ t ∈ ks, BlockC t) : StmtC (.nd 41 n s ks) := by
 intro v w hv
 have HX := Lib.hid (show isS (.nd 41 n s ks) = (plainB n s && kidsB 2 (fun i => if i = 0 then isP else isE) ks) by simp [isS])
 have IH := Lib.hid ihB
 have HV := Lib.hid hv
 obtain ⟨Ad, c, rfl, hf, hlk, hlc, hrow⟩ := hv.open_
 simp only [T.k_nd, T.n_nd, T.s_nd, T.ks_nd] at *
 have hlk' := LK_int hlk
 clear hf hv hlk hrow hlc ihB
 by_cases hnb : plainB n s = true
 ·go_enter Tryz.func92, Tryz.ntmps92
  go_wp2_with fail
  refine (plain_any _ _ _ _ _ _ _).mono ?_
  rintro e w1 ⟨rfl, hb1⟩
  obtain ⟨hc1, hf1⟩ := bcell hb1
  have hbb : Below w.heap.size w w1 := ((Below.refl _ _).alloc (Nat.le_refl _) _).trans (hb1.mono (by simp))
  go_wp2_with fail
  refine (kids_any (.nd 41 n s ks) _ _ (HV.out.later (hbb.alloc hbb.size _)) _ 2 (fun i => if i = 0 then 119 else 120) (fun i => if i = 0 then Tryz.f119 else Tryz.f120) (fun i => if i = 0 then isP else isE) (by decide) (by simp) (fun i hi => fcell (by rcases i with _ | _ | _ | _ | i <;> first | omega | rfl)) (fun i hi => by rcases i with _ | i; exact fnIsPlace; exact fnIsExpr) (fun hl i hi => by rcases i with _ | i; exact IsPlace_any _; exact IsExpr_any _)).mono ?_
  rintro e w2 ⟨rfl, hb2⟩
  have hbc : Below w.heap.size w w2 := (hbb.alloc hbb.size _).trans (hb2.mono (by have := hbb.size; simp; omega))
  go_wp2_with fail
  go_ret
  exact ⟨by rw [HX.out]; simp [*], hbc⟩
 ·have hnb' : plainB n s = false := by simpa using hnb
  clear hnb
  go_enter Tryz.func92, Tryz.ntmps92
  go_wp2_with fail
  refine (plain_any _ _ _ _ _ _ _).mono ?_
  rintro e w1 ⟨rfl, hb1⟩
  have hbb : Below w.heap.size w w1 := ((Below.refl _ _).alloc (Nat.le_refl _) _).trans (hb1.mono (by simp))
  go_wp2_with fail
  go_ret
  exact ⟨by rw [HX.out]; simp [*], hbb⟩
set_option maxHeartbeats 1000000 in
theorem IsStmt_42 (n : Int) (s : ByteArray) (ks : List T) (ihB : ∀ t ∈ ks, BlockC t) : StmtC (.nd 42 n s ks) := by
 intro v w hv
 have HX := Lib.hid (show isS (.nd 42 n s ks) = (plainB n s && kidsB 2 (fun i => if i = 0 then isP else isE) ks) by simp [isS])
 have IH := Lib.hid ihB
 have HV := Lib.hid hv
 obtain ⟨Ad, c, rfl, hf, hlk, hlc, hrow⟩ := hv.open_
 simp only [T.k_nd, T.n_nd, T.s_nd, T.ks_nd] at *
 have hlk' := LK_int hlk
 clear hf hv hlk hrow hlc ihB
 by_cases hnb : plainB n s = true
 ·go_enter Tryz.func92, Tryz.ntmps92
  go_wp2_with fail
  refine (plain_any _ _ _ _ _ _ _).mono ?_
  rintro e w1 ⟨rfl, hb1⟩
  obtain ⟨hc1, hf1⟩ := bcell hb1
  have hbb : Below w.heap.size w w1 := ((Below.refl _ _).alloc (Nat.le_refl _) _).trans (hb1.mono (by simp))
  go_wp2_with fail
  refine (kids_any (.nd 42 n s ks) _ _ (HV.out.later (hbb.alloc hbb.size _)) _ 2 (fun i => if i = 0 then 119 else 120) (fun i => if i = 0 then Tryz.f119 else Tryz.f120) (fun i => if i = 0 then isP else isE) (by decide) (by simp) (fun i hi => fcell (by rcases i with _ | _ | _ | _ | i <;> first | omega | rfl)) (fun i hi => by rcases i with _ | i; exact fnIsPlace; exact fnIsExpr) (fun hl i hi => by rcases i with _ | i; exact IsPlace_any _; exact IsExpr_any _)).mono ?_
  rintro e w2 ⟨rfl, hb2⟩
  have hbc : Below w.heap.size w w2 := (hbb.alloc hbb.size _).trans (hb2.mono (by have := hbb.size; simp; omega))
  go_wp2_with fail
  go_ret
  exact ⟨by rw [HX.out]; simp [*], hbc⟩
 ·have hnb' : plainB n s = false := by simpa using hnb
  clear hnb
  go_enter Tryz.func92, Tryz.ntmps92
  go_wp2_with fail
  refine (plain_any _ _ _ _ _ _ _).mono ?_
  rintro e w1 ⟨rfl, hb1⟩
  have hbb : Below w.heap.size w w1 := ((Below.refl _ _).alloc (Nat.le_refl _) _).trans (hb1.mono (by simp))
  go_wp2_with fail
  go_ret
  exact ⟨by rw [HX.out]; simp [*], hbb⟩
set_option maxHeartbeats 1000000 in
theorem IsStmt_56 (n : Int) (s : ByteArray) (ks : List T) (ihB : ∀ t ∈ ks, BlockC t) : StmtC (.nd 56 n s ks) := by
 intro v w hv
 have HX := Lib.hid (show isS (.nd 56 n s ks) = (plainB n s && kidsB 2 (fun i => if i = 0 then isP else isE) ks) by simp [isS])
 have IH := Lib.hid ihB
 have HV := Lib.hid hv
 obtain ⟨Ad, c, rfl, hf, hlk, hlc, hrow⟩ := hv.open_
 simp only [T.k_nd, T.n_nd, T.s_nd, T.ks_nd] at *
 have hlk' := LK_int hlk
 clear hf hv hlk hrow hlc ihB
 by_cases hnb : plainB n s = true
 ·go_enter Tryz.func92, Tryz.ntmps92
  go_wp2_with fail
  refine (plain_any _ _ _ _ _ _ _).mono ?_
  rintro e w1 ⟨rfl, hb1⟩
  obtain ⟨hc1, hf1⟩ := bcell hb1
  have hbb : Below w.heap.size w w1 := ((Below.refl _ _).alloc (Nat.le_refl _) _).trans (hb1.mono (by simp))
  go_wp2_with fail
  refine (kids_any (.nd 56 n s ks) _ _ (HV.out.later (hbb.alloc hbb.size _)) _ 2 (fun i => if i = 0 then 119 else 120) (fun i => if i = 0 then Tryz.f119 else Tryz.f120) (fun i => if i = 0 then isP else isE) (by decide) (by simp) (fun i hi => fcell (by rcases i with _ | _ | _ | _ | i <;> first | omega | rfl)) (fun i hi => by rcases i with _ | i; exact fnIsPlace; exact fnIsExpr) (fun hl i hi => by rcases i with _ | i; exact IsPlace_any _; exact IsExpr_any _)).mono ?_
  rintro e w2 ⟨rfl, hb2⟩
  have hbc : Below w.heap.size w w2 := (hbb.alloc hbb.size _).trans (hb2.mono (by have := hbb.size; simp; omega))
  go_wp2_with fail
  go_ret
  exact ⟨by rw [HX.out]; simp [*], hbc⟩
 ·have hnb' : plainB n s = false := by simpa using hnb
  clear hnb
  go_enter Tryz.func92, Tryz.ntmps92
  go_wp2_with fail
  refine (plain_any _ _ _ _ _ _ _).mono ?_
  rintro e w1 ⟨rfl, hb1⟩
  have hbb : Below w.heap.size w w1 := ((Below.refl _ _).alloc (Nat.le_refl _) _).trans (hb1.mono (by simp))
  go_wp2_with fail
  go_ret
  exact ⟨by rw [HX.out]; simp [*], hbb⟩
set_option maxHeartbeats 1000000 in
theorem IsStmt_43 (n : Int) (s : ByteArray) (ks : List T) (ihB : ∀ t ∈ ks, BlockC t) : StmtC (.nd 43 n s ks) := by
 intro v w hv
 have HX := Lib.hid (show isS (.nd 43 n s ks) = (plainB n s && kidsB 2 (fun _ => isP) ks) by simp [isS])
 have IH := Lib.hid ihB
 have HV := Lib.hid hv
 obtain ⟨Ad, c, rfl, hf, hlk, hlc, hrow⟩ := hv.open_
 simp only [T.k_nd, T.n_nd, T.s_nd, T.ks_nd] at *
 have hlk' := LK_int hlk
 clear hf hv hlk hrow hlc ihB
 by_cases hnb : plainB n s = true
 ·go_enter Tryz.func92, Tryz.ntmps92
  go_wp2_with fail
  refine (plain_any _ _ _ _ _ _ _).mono ?_
  rintro e w1 ⟨rfl, hb1⟩
  obtain ⟨hc1, hf1⟩ := bcell hb1
  have hbb : Below w.heap.size w w1 := ((Below.refl _ _).alloc (Nat.le_refl _) _).trans (hb1.mono (by simp))
  go_wp2_with fail
  refine (kids_any (.nd 43 n s ks) _ _ (HV.out.later (hbb.alloc hbb.size _)) _ 2 (fun _ => 119) (fun _ => Tryz.f119) (fun _ => isP) (by decide) (by simp) (fun i hi => fcell (by rcases i with _ | _ | _ | _ | i <;> first | omega | rfl)) (fun _ _ => fnIsPlace) (fun hl i hi => IsPlace_any _)).mono ?_
  rintro e w2 ⟨rfl, hb2⟩
  have hbc : Below w.heap.size w w2 := (hbb.alloc hbb.size _).trans (hb2.mono (by have := hbb.size; simp; omega))
  go_wp2_with fail
  go_ret
  exact ⟨by rw [HX.out]; simp [*], hbc⟩
 ·have hnb' : plainB n s = false := by simpa using hnb
  clear hnb
  go_enter Tryz.func92, Tryz.ntmps92
  go_wp2_with fail
  refine (plain_any _ _ _ _ _ _ _).mono ?_
  rintro e w1 ⟨rfl, hb1⟩
  have hbb : Below w.heap.size w w1 := ((Below.refl _ _).alloc (Nat.le_refl _) _).trans (hb1.mono (by simp))
  go_wp2_with fail
  go_ret
  exact ⟨by rw [HX.out]; simp [*], hbb⟩
set_option maxHeartbeats 1000000 in
theorem IsStmt_44 (n : Int) (s : ByteArray) (ks : List T) (ihB : ∀ t ∈ ks, BlockC t) : StmtC (.nd 44 n s ks) := by
 intro v w hv
 have HX := Lib.hid (show isS (.nd 44 n s ks) = (namedB n s && kidsB 1 (fun _ => isP) ks) by simp [isS])
 have IH := Lib.hid ihB
 have HV := Lib.hid hv
 obtain ⟨Ad, c, rfl, hf, hlk, hlc, hrow⟩ := hv.open_
 simp only [T.k_nd, T.n_nd, T.s_nd, T.ks_nd] at *
 have hlk' := LK_int hlk
 clear hf hv hlk hrow hlc ihB
 by_cases hnb : namedB n s = true
 ·go_enter Tryz.func92, Tryz.ntmps92
  go_wp2_with fail
  refine (named_any _ _ _ _ _ _ _).mono ?_
  rintro e w1 ⟨rfl, hb1⟩
  obtain ⟨hc1, hf1⟩ := bcell hb1
  have hbb : Below w.heap.size w w1 := ((Below.refl _ _).alloc (Nat.le_refl _) _).trans (hb1.mono (by simp))
  go_wp2_with fail
  refine (kids_any (.nd 44 n s ks) _ _ (HV.out.later (hbb.alloc hbb.size _)) _ 1 (fun _ => 119) (fun _ => Tryz.f119) (fun _ => isP) (by decide) (by simp) (fun i hi => fcell (by rcases i with _ | _ | _ | _ | i <;> first | omega | rfl)) (fun _ _ => fnIsPlace) (fun hl i hi => IsPlace_any _)).mono ?_
  rintro e w2 ⟨rfl, hb2⟩
  have hbc : Below w.heap.size w w2 := (hbb.alloc hbb.size _).trans (hb2.mono (by have := hbb.size; simp; omega))
  go_wp2_with fail
  go_ret
  exact ⟨by rw [HX.out]; simp [*], hbc⟩
 ·have hnb' : namedB n s = false := by simpa using hnb
  clear hnb
  go_enter Tryz.func92, Tryz.ntmps92
  go_wp2_with fail
  refine (named_any _ _ _ _ _ _ _).mono ?_
  rintro e w1 ⟨rfl, hb1⟩
  have hbb : Below w.heap.size w w1 := ((Below.refl _ _).alloc (Nat.le_refl _) _).trans (hb1.mono (by simp))
  go_wp2_with fail
  go_ret
  exact ⟨by rw [HX.out]; simp [*], hbb⟩
set_option maxHeartbeats 1000000 in
theorem IsStmt_45 (n : Int) (s : ByteArray) (ks : List T) (ihB : ∀ t ∈ ks, BlockC t) : StmtC (.nd 45 n s ks) := by
 intro v w hv
 have HX := Lib.hid (show isS (.nd 45 n s ks) = (namedB n s && kidsB 1 (fun _ => isP) ks) by simp [isS])
 have IH := Lib.hid ihB
 have HV := Lib.hid hv
 obtain ⟨Ad, c, rfl, hf, hlk, hlc, hrow⟩ := hv.open_
 simp only [T.k_nd, T.n_nd, T.s_nd, T.ks_nd] at *
 have hlk' := LK_int hlk
 clear hf hv hlk hrow hlc ihB
 by_cases hnb : namedB n s = true
 ·go_enter Tryz.func92, Tryz.ntmps92
  go_wp2_with fail
  refine (named_any _ _ _ _ _ _ _).mono ?_
  rintro e w1 ⟨rfl, hb1⟩
  obtain ⟨hc1, hf1⟩ := bcell hb1
  have hbb : Below w.heap.size w w1 := ((Below.refl _ _).alloc (Nat.le_refl _) _).trans (hb1.mono (by simp))
  go_wp2_with fail
  refine (kids_any (.nd 45 n s ks) _ _ (HV.out.later (hbb.alloc hbb.size _)) _ 1 (fun _ => 119) (fun _ => Tryz.f119) (fun _ => isP) (by decide) (by simp) (fun i hi => fcell (by rcases i with _ | _ | _ | _ | i <;> first | omega | rfl)) (fun _ _ => fnIsPlace) (fun hl i hi => IsPlace_any _)).mono ?_
  rintro e w2 ⟨rfl, hb2⟩
  have hbc : Below w.heap.size w w2 := (hbb.alloc hbb.size _).trans (hb2.mono (by have := hbb.size; simp; omega))
  go_wp2_with fail
  go_ret
  exact ⟨by rw [HX.out]; simp [*], hbc⟩
 ·have hnb' : namedB n s = false := by simpa using hnb
  clear hnb
  go_enter Tryz.func92, Tryz.ntmps92
  go_wp2_with fail
  refine (named_any _ _ _ _ _ _ _).mono ?_
  rintro e w1 ⟨rfl, hb1⟩
  have hbb : Below w.heap.size w w1 := ((Below.refl _ _).alloc (Nat.le_refl _) _).trans (hb1.mono (by simp))
  go_wp2_with fail
  go_ret
  exact ⟨by rw [HX.out]; simp [*], hbb⟩
set_option maxHeartbeats 1000000 in
theorem IsStmt_46 (n : Int) (s : ByteArray) (ks : List T) (ihB : ∀ t ∈ ks, BlockC t) : StmtC (.nd 46 n s ks) := by
 intro v w hv
 have HX := Lib.hid (show isS (.nd 46 n s ks) = (plainB n s && kidsB 1 (fun _ => isP) ks) by simp [isS])
 have IH := Lib.hid ihB
 have HV := Lib.hid hv
 obtain ⟨Ad, c, rfl, hf, hlk, hlc, hrow⟩ := hv.open_
 simp only [T.k_nd, T.n_nd, T.s_nd, T.ks_nd] at *
 have hlk' := LK_int hlk
 clear hf hv hlk hrow hlc ihB
 by_cases hnb : plainB n s = true
 ·go_enter Tryz.func92, Tryz.ntmps92
  go_wp2_with fail
  refine (plain_any _ _ _ _ _ _ _).mono ?_
  rintro e w1 ⟨rfl, hb1⟩
  obtain ⟨hc1, hf1⟩ := bcell hb1
  have hbb : Below w.heap.size w w1 := ((Below.refl _ _).alloc (Nat.le_refl _) _).trans (hb1.mono (by simp))
  go_wp2_with fail
  refine (kids_any (.nd 46 n s ks) _ _ (HV.out.later (hbb.alloc hbb.size _)) _ 1 (fun _ => 119) (fun _ => Tryz.f119) (fun _ => isP) (by decide) (by simp) (fun i hi => fcell (by rcases i with _ | _ | _ | _ | i <;> first | omega | rfl)) (fun _ _ => fnIsPlace) (fun hl i hi => IsPlace_any _)).mono ?_
  rintro e w2 ⟨rfl, hb2⟩
  have hbc : Below w.heap.size w w2 := (hbb.alloc hbb.size _).trans (hb2.mono (by have := hbb.size; simp; omega))
  go_wp2_with fail
  go_ret
  exact ⟨by rw [HX.out]; simp [*], hbc⟩
 ·have hnb' : plainB n s = false := by simpa using hnb
  clear hnb
  go_enter Tryz.func92, Tryz.ntmps92
  go_wp2_with fail
  refine (plain_any _ _ _ _ _ _ _).mono ?_
  rintro e w1 ⟨rfl, hb1⟩
  have hbb : Below w.heap.size w w1 := ((Below.refl _ _).alloc (Nat.le_refl _) _).trans (hb1.mono (by simp))
  go_wp2_with fail
  go_ret
  exact ⟨by rw [HX.out]; simp [*], hbb⟩
set_option maxHeartbeats 1000000 in
theorem IsStmt_47 (n : Int) (s : ByteArray) (ks : List T) (ihB : ∀ t ∈ ks, BlockC t) : StmtC (.nd 47 n s ks) := by
 intro v w hv
 have HX := Lib.hid (show isS (.nd 47 n s ks) = (plainB n s && kidsB 1 (fun _ => isP) ks) by simp [isS])
 have IH := Lib.hid ihB
 have HV := Lib.hid hv
 obtain ⟨Ad, c, rfl, hf, hlk, hlc, hrow⟩ := hv.open_
 simp only [T.k_nd, T.n_nd, T.s_nd, T.ks_nd] at *
 have hlk' := LK_int hlk
 clear hf hv hlk hrow hlc ihB
 by_cases hnb : plainB n s = true
 ·go_enter Tryz.func92, Tryz.ntmps92
  go_wp2_with fail
  refine (plain_any _ _ _ _ _ _ _).mono ?_
  rintro e w1 ⟨rfl, hb1⟩
  obtain ⟨hc1, hf1⟩ := bcell hb1
  have hbb : Below w.heap.size w w1 := ((Below.refl _ _).alloc (Nat.le_refl _) _).trans (hb1.mono (by simp))
  go_wp2_with fail
  refine (kids_any (.nd 47 n s ks) _ _ (HV.out.later (hbb.alloc hbb.size _)) _ 1 (fun _ => 119) (fun _ => Tryz.f119) (fun _ => isP) (by decide) (by simp) (fun i hi => fcell (by rcases i with _ | _ | _ | _ | i <;> first | omega | rfl)) (fun _ _ => fnIsPlace) (fun hl i hi => IsPlace_any _)).mono ?_
  rintro e w2 ⟨rfl, hb2⟩
  have hbc : Below w.heap.size w w2 := (hbb.alloc hbb.size _).trans (hb2.mono (by have := hbb.size; simp; omega))
  go_wp2_with fail
  go_ret
  exact ⟨by rw [HX.out]; simp [*], hbc⟩
 ·have hnb' : plainB n s = false := by simpa using hnb
  clear hnb
  go_enter Tryz.func92, Tryz.ntmps92
  go_wp2_with fail
  refine (plain_any _ _ _ _ _ _ _).mono ?_
  rintro e w1 ⟨rfl, hb1⟩
  have hbb : Below w.heap.size w w1 := ((Below.refl _ _).alloc (Nat.le_refl _) _).trans (hb1.mono (by simp))
  go_wp2_with fail
  go_ret
  exact ⟨by rw [HX.out]; simp [*], hbb⟩
set_option maxHeartbeats 1000000 in
theorem IsStmt_48 (n : Int) (s : ByteArray) (ks : List T) (ihB : ∀ t ∈ ks, BlockC t) : StmtC (.nd 48 n s ks) := by
 intro v w hv
 have HX := Lib.hid (show isS (.nd 48 n s ks) = (plainB n s && kidsB 1 (fun _ => isP) ks) by simp [isS])
 have IH := Lib.hid ihB
 have HV := Lib.hid hv
 obtain ⟨Ad, c, rfl, hf, hlk, hlc, hrow⟩ := hv.open_
 simp only [T.k_nd, T.n_nd, T.s_nd, T.ks_nd] at *
 have hlk' := LK_int hlk
 clear hf hv hlk hrow hlc ihB
 by_cases hnb : plainB n s = true
 ·go_enter Tryz.func92, Tryz.ntmps92
  go_wp2_with fail
  refine (plain_any _ _ _ _ _ _ _).mono ?_
  rintro e w1 ⟨rfl, hb1⟩
  obtain ⟨hc1, hf1⟩ := bcell hb1
  have hbb : Below w.heap.size w w1 := ((Below.refl _ _).alloc (Nat.le_refl _) _).trans (hb1.mono (by simp))
  go_wp2_with fail
  refine (kids_any (.nd 48 n s ks) _ _ (HV.out.later (hbb.alloc hbb.size _)) _ 1 (fun _ => 119) (fun _ => Tryz.f119) (fun _ => isP) (by decide) (by simp) (fun i hi => fcell (by rcases i with _ | _ | _ | _ | i <;> first | omega | rfl)) (fun _ _ => fnIsPlace) (fun hl i hi => IsPlace_any _)).mono ?_
  rintro e w2 ⟨rfl, hb2⟩
  have hbc : Below w.heap.size w w2 := (hbb.alloc hbb.size _).trans (hb2.mono (by have := hbb.size; simp; omega))
  go_wp2_with fail
  go_ret
  exact ⟨by rw [HX.out]; simp [*], hbc⟩
 ·have hnb' : plainB n s = false := by simpa using hnb
  clear hnb
  go_enter Tryz.func92, Tryz.ntmps92
  go_wp2_with fail
  refine (plain_any _ _ _ _ _ _ _).mono ?_
  rintro e w1 ⟨rfl, hb1⟩
  have hbb : Below w.heap.size w w1 := ((Below.refl _ _).alloc (Nat.le_refl _) _).trans (hb1.mono (by simp))
  go_wp2_with fail
  go_ret
  exact ⟨by rw [HX.out]; simp [*], hbb⟩
set_option maxHeartbeats 1000000 in
theorem IsStmt_49 (n : Int) (s : ByteArray) (ks : List T) (ihB : ∀ t ∈ ks, BlockC t) : StmtC (.nd 49 n s ks) := by
 intro v w hv
 have HX := Lib.hid (show isS (.nd 49 n s ks) = (plainB n s && kidsB 1 (fun _ => isP) ks) by simp [isS])
 have IH := Lib.hid ihB
 have HV := Lib.hid hv
 obtain ⟨Ad, c, rfl, hf, hlk, hlc, hrow⟩ := hv.open_
 simp only [T.k_nd, T.n_nd, T.s_nd, T.ks_nd] at *
 have hlk' := LK_int hlk
 clear hf hv hlk hrow hlc ihB
 by_cases hnb : plainB n s = true
 ·go_enter Tryz.func92, Tryz.ntmps92
  go_wp2_with fail
  refine (plain_any _ _ _ _ _ _ _).mono ?_
  rintro e w1 ⟨rfl, hb1⟩
  obtain ⟨hc1, hf1⟩ := bcell hb1
  have hbb : Below w.heap.size w w1 := ((Below.refl _ _).alloc (Nat.le_refl _) _).trans (hb1.mono (by simp))
  go_wp2_with fail
  refine (kids_any (.nd 49 n s ks) _ _ (HV.out.later (hbb.alloc hbb.size _)) _ 1 (fun _ => 119) (fun _ => Tryz.f119) (fun _ => isP) (by decide) (by simp) (fun i hi => fcell (by rcases i with _ | _ | _ | _ | i <;> first | omega | rfl)) (fun _ _ => fnIsPlace) (fun hl i hi => IsPlace_any _)).mono ?_
  rintro e w2 ⟨rfl, hb2⟩
  have hbc : Below w.heap.size w w2 := (hbb.alloc hbb.size _).trans (hb2.mono (by have := hbb.size; simp; omega))
  go_wp2_with fail
  go_ret
  exact ⟨by rw [HX.out]; simp [*], hbc⟩
 ·have hnb' : plainB n s = false := by simpa using hnb
  clear hnb
  go_enter Tryz.func92, Tryz.ntmps92
  go_wp2_with fail
  refine (plain_any _ _ _ _ _ _ _).mono ?_
  rintro e w1 ⟨rfl, hb1⟩
  have hbb : Below w.heap.size w w1 := ((Below.refl _ _).alloc (Nat.le_refl _) _).trans (hb1.mono (by simp))
  go_wp2_with fail
  go_ret
  exact ⟨by rw [HX.out]; simp [*], hbb⟩
set_option maxHeartbeats 1000000 in
theorem IsStmt_52 (n : Int) (s : ByteArray) (ks : List T) (ihB : ∀ t ∈ ks, BlockC t) : StmtC (.nd 52 n s ks) := by
 intro v w hv
 have HX := Lib.hid (show isS (.nd 52 n s ks) = (plainB n s && kidsB 4 (pEB 0) ks) by simp [isS, kidsB, ← isEB_eq])
 have IH := Lib.hid ihB
 have HV := Lib.hid hv
 obtain ⟨Ad, c, rfl, hf, hlk, hlc, hrow⟩ := hv.open_
 simp only [T.k_nd, T.n_nd, T.s_nd, T.ks_nd] at *
 have hlk' := LK_int hlk
 clear hf hv hlk hrow hlc ihB
 by_cases hnb : plainB n s = true
 ·go_enter Tryz.func92, Tryz.ntmps92
  go_wp2_with fail
  refine (plain_any _ _ _ _ _ _ _).mono ?_
  rintro e w1 ⟨rfl, hb1⟩
  obtain ⟨hc1, hf1⟩ := bcell hb1
  have hbb : Below w.heap.size w w1 := ((Below.refl _ _).alloc (Nat.le_refl _) _).trans (hb1.mono (by simp))
  go_wp2_with fail
  refine (kids_any (.nd 52 n s ks) _ _ (HV.out.later (hbb.alloc hbb.size _)) _ 4 (fun i => if i = 0 ∨ i = 3 then 120 else 58) (fun i => if i = 0 ∨ i = 3 then Tryz.f120 else Tryz.f58) (pEB 0) (by decide) (by simp) (fun i hi => fcell (by rcases i with _ | _ | _ | _ | i <;> first | omega | rfl)) (fun i hi => by rcases i with _ | _ | _ | _ | i; exact fnIsExpr; exact fnIsBlock; exact fnIsBlock; exact fnIsExpr; omega) (fun hl i hi => by rcases i with _ | _ | _ | _ | i; exact IsExpr_any _; exact IH.out _ (List.getElem_mem hi); exact IH.out _ (List.getElem_mem hi); exact IsExpr_any _; exact absurd hi (by simp only [T.ks_nd] at hl ⊢; omega))).mono ?_
  rintro e w2 ⟨rfl, hb2⟩
  have hbc : Below w.heap.size w w2 := (hbb.alloc hbb.size _).trans (hb2.mono (by have := hbb.size; simp; omega))
  go_wp2_with fail
  go_ret
  exact ⟨by rw [HX.out]; simp [*], hbc⟩
 ·have hnb' : plainB n s = false := by simpa using hnb
  clear hnb
  go_enter Tryz.func92, Tryz.ntmps92
  go_wp2_with fail
  refine (plain_any _ _ _ _ _ _ _).mono ?_
  rintro e w1 ⟨rfl, hb1⟩
  have hbb : Below w.heap.size w w1 := ((Below.refl _ _).alloc (Nat.le_refl _) _).trans (hb1.mono (by simp))
  go_wp2_with fail
  go_ret
  exact ⟨by rw [HX.out]; simp [*], hbb⟩
set_option maxHeartbeats 1000000 in
theorem IsStmt_53 (n : Int) (s : ByteArray) (ks : List T) (ihB : ∀ t ∈ ks, BlockC t) : StmtC (.nd 53 n s ks) := by
 intro v w hv
 have HX := Lib.hid (show isS (.nd 53 n s ks) = (plainB n s && kidsB 4 (pEB 0) ks) by simp [isS, kidsB, ← isEB_eq])
 have IH := Lib.hid ihB
 have HV := Lib.hid hv
 obtain ⟨Ad, c, rfl, hf, hlk, hlc, hrow⟩ := hv.open_
 simp only [T.k_nd, T.n_nd, T.s_nd, T.ks_nd] at *
 have hlk' := LK_int hlk
 clear hf hv hlk hrow hlc ihB
 by_cases hnb : plainB n s = true
 ·go_enter Tryz.func92, Tryz.ntmps92
  go_wp2_with fail
  refine (plain_any _ _ _ _ _ _ _).mono ?_
  rintro e w1 ⟨rfl, hb1⟩
  obtain ⟨hc1, hf1⟩ := bcell hb1
  have hbb : Below w.heap.size w w1 := ((Below.refl _ _).alloc (Nat.le_refl _) _).trans (hb1.mono (by simp))
  go_wp2_with fail
  refine (kids_any (.nd 53 n s ks) _ _ (HV.out.later (hbb.alloc hbb.size _)) _ 4 (fun i => if i = 0 ∨ i = 3 then 120 else 58) (fun i => if i = 0 ∨ i = 3 then Tryz.f120 else Tryz.f58) (pEB 0) (by decide) (by simp) (fun i hi => fcell (by rcases i with _ | _ | _ | _ | i <;> first | omega | rfl)) (fun i hi => by rcases i with _ | _ | _ | _ | i; exact fnIsExpr; exact fnIsBlock; exact fnIsBlock; exact fnIsExpr; omega) (fun hl i hi => by rcases i with _ | _ | _ | _ | i; exact IsExpr_any _; exact IH.out _ (List.getElem_mem hi); exact IH.out _ (List.getElem_mem hi); exact IsExpr_any _; exact absurd hi (by simp only [T.ks_nd] at hl ⊢; omega))).mono ?_
  rintro e w2 ⟨rfl, hb2⟩
  have hbc : Below w.heap.size w w2 := (hbb.alloc hbb.size _).trans (hb2.mono (by have := hbb.size; simp; omega))
  go_wp2_with fail
  go_ret
  exact ⟨by rw [HX.out]; simp [*], hbc⟩
 ·have hnb' : plainB n s = false := by simpa using hnb
  clear hnb
  go_enter Tryz.func92, Tryz.ntmps92
  go_wp2_with fail
  refine (plain_any _ _ _ _ _ _ _).mono ?_
  rintro e w1 ⟨rfl, hb1⟩
  have hbb : Below w.heap.size w w1 := ((Below.refl _ _).alloc (Nat.le_refl _) _).trans (hb1.mono (by simp))
  go_wp2_with fail
  go_ret
  exact ⟨by rw [HX.out]; simp [*], hbb⟩
set_option maxHeartbeats 1000000 in
theorem IsStmt_54 (n : Int) (s : ByteArray) (ks : List T) (ihB : ∀ t ∈ ks, BlockC t) : StmtC (.nd 54 n s ks) := by
 intro v w hv
 have HX := Lib.hid (show isS (.nd 54 n s ks) = (namedB n s && kidsB 3 (pEB 4) ks) by simp [isS, kidsB, ← isEB_eq])
 have IH := Lib.hid ihB
 have HV := Lib.hid hv
 obtain ⟨Ad, c, rfl, hf, hlk, hlc, hrow⟩ := hv.open_
 simp only [T.k_nd, T.n_nd, T.s_nd, T.ks_nd] at *
 have hlk' := LK_int hlk
 clear hf hv hlk hrow hlc ihB
 by_cases hnb : namedB n s = true
 ·go_enter Tryz.func92, Tryz.ntmps92
  go_wp2_with fail
  refine (named_any _ _ _ _ _ _ _).mono ?_
  rintro e w1 ⟨rfl, hb1⟩
  obtain ⟨hc1, hf1⟩ := bcell hb1
  have hbb : Below w.heap.size w w1 := ((Below.refl _ _).alloc (Nat.le_refl _) _).trans (hb1.mono (by simp))
  go_wp2_with fail
  refine (kids_any (.nd 54 n s ks) _ _ (HV.out.later (hbb.alloc hbb.size _)) _ 3 (fun i => if i = 1 then 58 else 120) (fun i => if i = 1 then Tryz.f58 else Tryz.f120) (pEB 4) (by decide) (by simp) (fun i hi => fcell (by rcases i with _ | _ | _ | _ | i <;> first | omega | rfl)) (fun i hi => by rcases i with _ | _ | _ | i; exact fnIsExpr; exact fnIsBlock; exact fnIsExpr; omega) (fun hl i hi => by rcases i with _ | _ | _ | i; exact IsExpr_any _; exact IH.out _ (List.getElem_mem hi); exact IsExpr_any _; exact absurd hi (by simp only [T.ks_nd] at hl ⊢; omega))).mono ?_
  rintro e w2 ⟨rfl, hb2⟩
  have hbc : Below w.heap.size w w2 := (hbb.alloc hbb.size _).trans (hb2.mono (by have := hbb.size; simp; omega))
  go_wp2_with fail
  go_ret
  exact ⟨by rw [HX.out]; simp [*], hbc⟩
 ·have hnb' : namedB n s = false := by simpa using hnb
  clear hnb
  go_enter Tryz.func92, Tryz.ntmps92
  go_wp2_with fail
  refine (named_any _ _ _ _ _ _ _).mono ?_
  rintro e w1 ⟨rfl, hb1⟩
  have hbb : Below w.heap.size w w1 := ((Below.refl _ _).alloc (Nat.le_refl _) _).trans (hb1.mono (by simp))
  go_wp2_with fail
  go_ret
  exact ⟨by rw [HX.out]; simp [*], hbb⟩
set_option maxHeartbeats 1000000 in
theorem IsStmt_55 (n : Int) (s : ByteArray) (ks : List T) (ihB : ∀ t ∈ ks, BlockC t) : StmtC (.nd 55 n s ks) := by
 intro v w hv
 have HX := Lib.hid (show isS (.nd 55 n s ks) = (namedB n s && kidsB 1 (pEB 7) ks) by simp [isS, kidsB, ← isEB_eq])
 have IH := Lib.hid ihB
 have HV := Lib.hid hv
 obtain ⟨Ad, c, rfl, hf, hlk, hlc, hrow⟩ := hv.open_
 simp only [T.k_nd, T.n_nd, T.s_nd, T.ks_nd] at *
 have hlk' := LK_int hlk
 clear hf hv hlk hrow hlc ihB
 by_cases hnb : namedB n s = true
 ·go_enter Tryz.func92, Tryz.ntmps92
  go_wp2_with fail
  refine (named_any _ _ _ _ _ _ _).mono ?_
  rintro e w1 ⟨rfl, hb1⟩
  obtain ⟨hc1, hf1⟩ := bcell hb1
  have hbb : Below w.heap.size w w1 := ((Below.refl _ _).alloc (Nat.le_refl _) _).trans (hb1.mono (by simp))
  go_wp2_with fail
  refine (kids_any (.nd 55 n s ks) _ _ (HV.out.later (hbb.alloc hbb.size _)) _ 1 (fun _ => 58) (fun _ => Tryz.f58) (pEB 7) (by decide) (by simp) (fun i hi => fcell (by rcases i with _ | _ | _ | _ | i <;> first | omega | rfl)) (fun _ _ => fnIsBlock) (fun hl i hi => by rcases i with _ | i; exact IH.out _ (List.getElem_mem hi); exact absurd hi (by simp only [T.ks_nd] at hl ⊢; omega))).mono ?_
  rintro e w2 ⟨rfl, hb2⟩
  have hbc : Below w.heap.size w w2 := (hbb.alloc hbb.size _).trans (hb2.mono (by have := hbb.size; simp; omega))
  go_wp2_with fail
  go_ret
  exact ⟨by rw [HX.out]; simp [*], hbc⟩
 ·have hnb' : namedB n s = false := by simpa using hnb
  clear hnb
  go_enter Tryz.func92, Tryz.ntmps92
  go_wp2_with fail
  refine (named_any _ _ _ _ _ _ _).mono ?_
  rintro e w1 ⟨rfl, hb1⟩
  have hbb : Below w.heap.size w w1 := ((Below.refl _ _).alloc (Nat.le_refl _) _).trans (hb1.mono (by simp))
  go_wp2_with fail
  go_ret
  exact ⟨by rw [HX.out]; simp [*], hbb⟩
set_option maxHeartbeats 1000000 in
theorem IsStmt_50 (n : Int) (s : ByteArray) (ks : List T) : StmtC (.nd 50 n s ks) := by
 intro v w hv
 have HX := Lib.hid (show isS (.nd 50 n s ks) = (namedB n s && decide (ks.length ≤ 8) && kidsFrom (fun _ => isV) 0 ks) by simp [isS])
 have HV := Lib.hid hv
 obtain ⟨Ad, c, rfl, hf, hlk, hlc, hrow⟩ := hv.open_
 simp only [T.k_nd, T.n_nd, T.s_nd, T.ks_nd] at *
 have hlk' := LK_int hlk
 clear hf hv hlc
 by_cases hnb : namedB n s = true
 ·by_cases hl8 : ks.length ≤ 8
  ·go_enter Tryz.func92, Tryz.ntmps92
   go_wp2_with fail
   refine (named_any _ _ _ _ _ _ _).mono ?_
   rintro e w1 ⟨rfl, hb1⟩
   obtain ⟨hc1, hf1⟩ := bcell hb1
   have hbb : Below w.heap.size w w1 := ((Below.refl _ _).alloc (Nat.le_refl _) _).trans (hb1.mono (by simp))
   go_wp2_with fail
   refine (every_any ks _ _ _ (hrow.later hbb) hlk _ _ fnIsVar isV (fun i hi => isVar_any _)).mono ?_
   rintro e w2 ⟨rfl, hb2⟩
   have hbc : Below w.heap.size w w2 := hbb.trans (hb2.mono hbb.size)
   go_wp2_with fail
   go_ret
   exact ⟨by rw [HX.out]; simp [*], hbc⟩
  ·have hl9 : 8 < ks.length := by omega
   clear hl8
   go_enter Tryz.func92, Tryz.ntmps92
   go_wp2_with fail
   refine (named_any _ _ _ _ _ _ _).mono ?_
   rintro e w1 ⟨rfl, hb1⟩
   obtain ⟨hc1, hf1⟩ := bcell hb1
   have hbb : Below w.heap.size w w1 := ((Below.refl _ _).alloc (Nat.le_refl _) _).trans (hb1.mono (by simp))
   go_wp2_with fail
   go_ret
   exact ⟨by rw [HX.out]; simp [show ¬ ks.length ≤ 8 by omega], hbb⟩
 ·have hnb' : namedB n s = false := by simpa using hnb
  clear hnb
  go_enter Tryz.func92, Tryz.ntmps92
  go_wp2_with fail
  refine (named_any _ _ _ _ _ _ _).mono ?_
  rintro e w1 ⟨rfl, hb1⟩
  have hbb : Below w.heap.size w w1 := ((Below.refl _ _).alloc (Nat.le_refl _) _).trans (hb1.mono (by simp))
  go_wp2_with fail
  go_ret
  exact ⟨by rw [HX.out]; simp [*], hbb⟩
set_option maxHeartbeats 1000000 in
theorem IsStmt_51 (n : Int) (s : ByteArray) (ks : List T) : StmtC (.nd 51 n s ks) := by
 intro v w hv
 have HX := Lib.hid (show isS (.nd 51 n s ks) = (namedB n s && decide (ks.length ≤ 8) && kidsFrom (fun _ => isV) 0 ks) by simp [isS])
 have HV := Lib.hid hv
 obtain ⟨Ad, c, rfl, hf, hlk, hlc, hrow⟩ := hv.open_
 simp only [T.k_nd, T.n_nd, T.s_nd, T.ks_nd] at *
 have hlk' := LK_int hlk
 clear hf hv hlc
 by_cases hnb : namedB n s = true
 ·by_cases hl8 : ks.length ≤ 8
  ·go_enter Tryz.func92, Tryz.ntmps92
   go_wp2_with fail
   refine (named_any _ _ _ _ _ _ _).mono ?_
   rintro e w1 ⟨rfl, hb1⟩
   obtain ⟨hc1, hf1⟩ := bcell hb1
   have hbb : Below w.heap.size w w1 := ((Below.refl _ _).alloc (Nat.le_refl _) _).trans (hb1.mono (by simp))
   go_wp2_with fail
   refine (every_any ks _ _ _ (hrow.later hbb) hlk _ _ fnIsVar isV (fun i hi => isVar_any _)).mono ?_
   rintro e w2 ⟨rfl, hb2⟩
   have hbc : Below w.heap.size w w2 := hbb.trans (hb2.mono hbb.size)
   go_wp2_with fail
   go_ret
   exact ⟨by rw [HX.out]; simp [*], hbc⟩
  ·have hl9 : 8 < ks.length := by omega
   clear hl8
   go_enter Tryz.func92, Tryz.ntmps92
   go_wp2_with fail
   refine (named_any _ _ _ _ _ _ _).mono ?_
   rintro e w1 ⟨rfl, hb1⟩
   obtain ⟨hc1, hf1⟩ := bcell hb1
   have hbb : Below w.heap.size w w1 := ((Below.refl _ _).alloc (Nat.le_refl _) _).trans (hb1.mono (by simp))
   go_wp2_with fail
   go_ret
   exact ⟨by rw [HX.out]; simp [show ¬ ks.length ≤ 8 by omega], hbb⟩
 ·have hnb' : namedB n s = false := by simpa using hnb
  clear hnb
  go_enter Tryz.func92, Tryz.ntmps92
  go_wp2_with fail
  refine (named_any _ _ _ _ _ _ _).mono ?_
  rintro e w1 ⟨rfl, hb1⟩
  have hbb : Below w.heap.size w w1 := ((Below.refl _ _).alloc (Nat.le_refl _) _).trans (hb1.mono (by simp))
  go_wp2_with fail
  go_ret
  exact ⟨by rw [HX.out]; simp [*], hbb⟩
set_option maxHeartbeats 1000000 in
theorem IsStmt_not (k n : Int) (s : ByteArray) (ks : List T) (n40 : (k == 40) = false) (n41 : (k == 41) = false) (n42 : (k == 42) = false) (n43 : (k == 43) = false) (n44 : (k == 44) = false) (n45 : (k == 45) = false) (n46 : (k == 46) = false) (n47 : (k == 47) = false) (n48 : (k == 48) = false) (n49 : (k == 49) = false) (n50 : (k == 50) = false) (n51 : (k == 51) = false) (n52 : (k == 52) = false) (n53 : (k == 53) = false) (n54 : (k == 54) = false) (n55 : (k == 55) = false) (n56 : (k == 56) = false) : StmtC (.nd k n s ks) := by
 intro v w hv
 obtain ⟨Ad, c, rfl, hf, hlk, hlc, hrow⟩ := hv.open_
 simp only [T.k_nd, T.n_nd, T.s_nd, T.ks_nd] at *
 have hlk' := LK_int hlk
 have HX := Lib.hid (show isS (.nd k n s ks) = false by
  simp only [beq_eq_false_iff_ne, ne_eq] at n40 n41 n42 n43 n44 n45 n46 n47 n48 n49 n50 n51 n52 n53 n54 n55 n56
  rw [isS, if_neg (by omega), if_neg (by omega), if_neg (by omega), if_neg (by omega), if_neg (by omega), if_neg (by omega), if_neg (by omega), if_neg (by omega)])
 clear hf hv hlk hrow hlc
 go_enter Tryz.func92, Tryz.ntmps92
 go_wp2
 go_ret
 exact ⟨by rw [HX.out]; rfl, (Below.refl _ _).alloc (Nat.le_refl _) _⟩
set_option maxHeartbeats 1000000 in
theorem IsBlock_of (k n : Int) (s : ByteArray) (ks : List T) (ih : ∀ t ∈ ks, StmtC t) : BlockC (.nd k n s ks) := by
 intro v w hv
 have HX := Lib.hid (show isB (.nd k n s ks) = ((k == 57) && plainB n s && kidsFrom (fun _ => isS) 0 ks) by rw [isB, isSs_eq 0]; rfl)
 have IH := Lib.hid ih
 obtain ⟨Ad, c, rfl, hf, hlk, hlc, hrow⟩ := hv.open_
 simp only [T.k_nd, T.n_nd, T.s_nd, T.ks_nd] at *
 have hlk' := LK_int hlk
 clear hf hv hlc ih
 by_cases hk : (k == 57) = true
 ·by_cases hnb : plainB n s = true
  ·go_enter Tryz.func58, Tryz.ntmps58
   go_wp2_with fail
   refine (plain_any _ _ _ _ _ _ _).mono ?_
   rintro e w1 ⟨rfl, hb1⟩
   obtain ⟨hc1, hf1⟩ := bcell hb1
   have hbb : Below w.heap.size w w1 := ((Below.refl _ _).alloc (Nat.le_refl _) _).trans (hb1.mono (by simp))
   go_wp2_with fail
   refine (every_any ks _ _ _ (hrow.later hbb) hlk _ _ fnIsStmt isS (fun i hi => IH.out _ (List.getElem_mem hi))).mono ?_
   rintro e w2 ⟨rfl, hb2⟩
   have hbc : Below w.heap.size w w2 := hbb.trans (hb2.mono hbb.size)
   go_wp2_with fail
   go_ret
   exact ⟨by rw [HX.out]; simp [*], hbc⟩
  ·have hnb' : plainB n s = false := by simpa using hnb
   clear hnb
   go_enter Tryz.func58, Tryz.ntmps58
   go_wp2_with fail
   refine (plain_any _ _ _ _ _ _ _).mono ?_
   rintro e w1 ⟨rfl, hb1⟩
   have hbb : Below w.heap.size w w1 := ((Below.refl _ _).alloc (Nat.le_refl _) _).trans (hb1.mono (by simp))
   go_wp2_with fail
   go_ret
   exact ⟨by rw [HX.out]; simp [*], hbb⟩
 ·have hk' : (k == 57) = false := by simpa using hk
  clear hk
  go_enter Tryz.func58, Tryz.ntmps58
  go_wp2_with fail
  go_ret
  exact ⟨by rw [HX.out]; simp [*], (Below.refl _ _).alloc (Nat.le_refl _) _⟩
theorem both_any (t : T) : StmtC t ∧ BlockC t := by
 induction t using T.ind with
 | _ k n s ks ih =>
 have ihS : ∀ t ∈ ks, StmtC t := fun t ht => (ih t ht).1
 have ihB : ∀ t ∈ ks, BlockC t := fun t ht => (ih t ht).2
 refine ⟨?_, IsBlock_of k n s ks ihS⟩
 by_cases h40 : k = 40
 ·subst h40; exact IsStmt_40 n s ks ihB
 by_cases h41 : k = 41
 ·subst h41; exact IsStmt_41 n s ks ihB
 by_cases h42 : k = 42
 ·subst h42; exact IsStmt_42 n s ks ihB
 by_cases h43 : k = 43
 ·subst h43; exact IsStmt_43 n s ks ihB
 by_cases h44 : k = 44
 ·subst h44; exact IsStmt_44 n s ks ihB
 by_cases h45 : k = 45
 ·subst h45; exact IsStmt_45 n s ks ihB
 by_cases h46 : k = 46
 ·subst h46; exact IsStmt_46 n s ks ihB
 by_cases h47 : k = 47
 ·subst h47; exact IsStmt_47 n s ks ihB
 by_cases h48 : k = 48
 ·subst h48; exact IsStmt_48 n s ks ihB
 by_cases h49 : k = 49
 ·subst h49; exact IsStmt_49 n s ks ihB
 by_cases h50 : k = 50
 ·subst h50; exact IsStmt_50 n s ks
 by_cases h51 : k = 51
 ·subst h51; exact IsStmt_51 n s ks
 by_cases h52 : k = 52
 ·subst h52; exact IsStmt_52 n s ks ihB
 by_cases h53 : k = 53
 ·subst h53; exact IsStmt_53 n s ks ihB
 by_cases h54 : k = 54
 ·subst h54; exact IsStmt_54 n s ks ihB
 by_cases h55 : k = 55
 ·subst h55; exact IsStmt_55 n s ks ihB
 by_cases h56 : k = 56
 ·subst h56; exact IsStmt_56 n s ks ihB
 exact IsStmt_not k n s ks (by simpa using h40) (by simpa using h41) (by simpa using h42) (by simpa using h43) (by simpa using h44) (by simpa using h45) (by simpa using h46) (by simpa using h47) (by simpa using h48) (by simpa using h49) (by simpa using h50) (by simpa using h51) (by simpa using h52) (by simpa using h53) (by simpa using h54) (by simpa using h55) (by simpa using h56)
theorem IsStmt_any (t : T) : StmtC t := (both_any t).1
theorem IsBlock_any (t : T) : BlockC t := (both_any t).2
end Go.Proofs.YtgnfpcebmefhoaaGreat
namespace Go.Proofs.YtgnfpcebmefhoaaGreat
open Go Go.RowKit
theorem kidsB1 {f : Nat → T → Bool} {ks : List T} (h : kidsB 1 f ks = true) : ∃ p, ks = [p] ∧ f 0 p = true := by
 match ks with
 | [p] => simp [kidsB, kidsFrom] at h; exact ⟨p, rfl, h⟩
 | [] => simp [kidsB] at h
 | a :: b :: l => simp [kidsB] at h
theorem kidsB2 {f : Nat → T → Bool} {ks : List T} (h : kidsB 2 f ks = true) : ∃ p q, ks = [p, q] ∧ f 0 p = true ∧ f 1 q = true := by
 match ks with
 | [p, q] => simp [kidsB, kidsFrom] at h; exact ⟨p, q, rfl, h⟩
 | [] => simp [kidsB] at h
 | [a] => simp [kidsB] at h
 | a :: b :: c :: l => simp [kidsB] at h
theorem isS_basic {k n : Int} {s : ByteArray} {ks : List T} (h : isS (.nd k n s ks) = true) (hb : basB k = true) :
  ((k = 40 ∨ k = 41 ∨ k = 42) ∧ ∃ p q, ks = [p, q] ∧ isP p = true ∧ isE q = true) ∨ (k = 43 ∧ ∃ p q, ks = [p, q] ∧ isP p = true ∧ isP q = true) ∨ ((44 ≤ k ∧ k ≤ 49) ∧ ∃ p, ks = [p] ∧ isP p = true) := by
 have hr := of_decide_eq_true hb
 rw [isS] at h
 by_cases h1 : k = 40 ∨ k = 41 ∨ k = 42 ∨ k = 56
 ·rw [if_pos h1, Bool.and_eq_true] at h
  obtain ⟨p, q, e, a, b⟩ := kidsB2 h.2
  exact .inl ⟨by omega, p, q, e, by simpa using a, by simpa using b⟩
 ·rw [if_neg h1] at h
  by_cases h2 : k = 43
  ·rw [if_pos h2, Bool.and_eq_true] at h
   obtain ⟨p, q, e, a, b⟩ := kidsB2 h.2
   exact .inr (.inl ⟨h2, p, q, e, a, b⟩)
  ·rw [if_neg h2] at h
   by_cases h3 : k = 44 ∨ k = 45
   ·rw [if_pos h3, Bool.and_eq_true] at h
    obtain ⟨p, e, a⟩ := kidsB1 h.2
    exact .inr (.inr ⟨by omega, p, e, a⟩)
   ·rw [if_neg h3, if_pos (by omega), Bool.and_eq_true] at h
    obtain ⟨p, e, a⟩ := kidsB1 h.2
    exact .inr (.inr ⟨by omega, p, e, a⟩)
def DoP (n0 : Nat) (P : Ph) (S : ST) (W : World) (R : Int × ST) (e : Ending) (W' : World) : Prop := e = .returned (.int .i64 R.1) ∧ ∃ P', SStp n0 P S W P' R.2 W' ∧ P'.sb = P.sb
theorem execute_any {W : World} {n0 : Nat} {P : Ph} {S : ST} (h : SR W n0 P S) (t : T) (v : Value) (hv : NV W Any t v) (hs : isS t = true) (hb : basB t.k = true) (hf : fltE S.cur.vs t = 0) :
  Calls Tryz.prog 144 #[.pointer (some ⟨P.sb, 0, none⟩), v] W (DoP n0 P S W (execE S t)) := by
 obtain ⟨k, n, s, ks⟩ := t
 obtain ⟨fo, fk⟩ := flt_own hf
 rcases isS_basic hs hb with ⟨hk, p, q, rfl, hp, hq⟩ | ⟨rfl, p, q, rfl, hp, hq⟩ | ⟨hk, p, rfl, hp⟩
 ·obtain ⟨id, kp, h1, h2, h3⟩ := plc_num h.wf hp (flts_mem fk p (by simp))
  have := exec_upd h k n s p q v hv hk id h1 kp h2
  have e : execE S (.nd k n s [p, q]) = exec1 S k s p q (indE S.look p) (exprE S.look q) := by
   show exec1 S k s p q (indE S.look p) (rightE S k q) = _
   rw [rightE, if_neg (by omega), if_pos hk]
  unfold DoP
  rw [e]
  exact this
 ·obtain ⟨id, kp, h1, h2, h3⟩ := plc_num h.wf hp (flts_mem fk p (by simp))
  obtain ⟨jd, kq, h4, h5, h6⟩ := plc_num h.wf hq (flts_mem fk q (by simp))
  have := exec_swap h 43 n s p q v hv rfl id h1 kp h2 jd h4 kq h5
  have e : execE S (.nd 43 n s [p, q]) = exec1 S 43 s p q (indE S.look p) (indE S.look q) := by
   show exec1 S 43 s p q (indE S.look p) (rightE S 43 q) = _
   rw [rightE, if_pos rfl]
  unfold DoP
  rw [e]
  exact this
 ·obtain ⟨id, kp, h1, h2, h3⟩ := plc_num h.wf hp (flts_mem fk p (by simp))
  have hst : k = 44 ∨ k = 45 → ∃ sid, S.num s = some sid ∧ CurK S sid 3 := fun h45 => by
   have hn : needE k = 3 := by rcases h45 with rfl | rfl <;> rfl
   obtain ⟨u, h4, h5⟩ := own_find fo (by rw [hn]; decide)
   obtain ⟨sid, h6, h7⟩ := num_of h.wf h4
   exact ⟨sid, h6, by rw [h5, hn] at h7; exact h7⟩
  have := exec_one h k n s p v hv hk id h1 kp h2 h3 hst
  have e : execE S (.nd k n s [p]) = exec1 S k s p nil0 (indE S.look p) (0, 0) := by
   show exec1 S k s p nil0 (indE S.look p) (rightE S k nil0) = _
   rw [rightE, if_neg (by omega), if_neg (by omega)]
  unfold DoP
  rw [e]
  exact this
theorem fnCurrent : IsFn Tryz.prog 137 Tryz.f137 := ⟨Tryz.func137, by kernel_rfl, by kernel_rfl⟩
theorem fnFFault : IsFn Tryz.prog 143 Tryz.f143 := ⟨Tryz.func143, by kernel_rfl, by kernel_rfl⟩
set_option maxHeartbeats 4000000 in
set_option maxRecDepth 100000 in
theorem Do_any {W : World} {n0 : Nat} {P : Ph} {S : ST} (h : SR W n0 P S) (t : T) (v : Value) (hv : NV W Any t v) :
  Calls Tryz.prog 110 #[.pointer (some ⟨P.sb, 0, none⟩), v] W (DoP n0 P S W (doE S t)) := by
 obtain ⟨R, hR⟩ : ∃ R, doE S t = R := ⟨_, rfl⟩
 rw [hR]
 have HRR := Lib.hid hR
 have HS := Lib.hid h
 have HV := Lib.hid hv
 obtain ⟨A, c, rfl, -, -, -, -⟩ := hv.open_
 obtain ⟨b, hb⟩ : ∃ b, isS t = b := ⟨_, rfl⟩
 have HIS := Lib.hid (show ∀ (v : Value) (w : World), NV w Any t v → Calls Tryz.prog 92 #[v] w fun e w' => e = .returned (.bool b) ∧ Below w.heap.size w w' from fun v w h => hb ▸ IsStmt_any t v w h)
 have HBE := Lib.hid hb
 have HEX := Lib.hid (show ∀ (v : Value) (W' : World), NV W' Any t v → Below W.heap.size W W' → isS t = true → basB t.k = true → fltE S.cur.vs t = 0 → doE S t = execE S t → Calls Tryz.prog 144 #[.pointer (some ⟨P.sb, 0, none⟩), v] W' (DoP n0 P S W R) from fun v W' hv' hbl h1 h2 h3 h4 => by
  refine (execute_any (h.later hbl) t v hv' h1 h2 h3).mono ?_
  rintro e W2 ⟨a1, P', a2, a3⟩
  rw [← h4, hR] at a1 a2
  exact ⟨a1, P', ⟨a2.st.after hbl h.rws, a2.wf⟩, a3⟩)
 obtain ⟨kd, hw⟩ := h.curWF
 obtain ⟨A0, c0, hcv, hc, hrow⟩ := h.curVs
 obtain ⟨h3, h4, h5⟩ := h.cur3
 rw [hcv] at h3
 have HCU := Lib.hid (fun W' (hb : Below W.heap.size W W') => current_any (h.later hb))
 have HFF := Lib.hid (fun (v : Value) W' (hb : Below W.heap.size W W') (hv' : NV W' Any t v) => ffault_any S.cur.vs A0 c0 (curP P S) hw.lim t v W' hv' (cell_bl hb h3) (hrow.later hb))
 obtain ⟨cp, hcp⟩ : ∃ cp, curP P S = cp := ⟨_, rfl⟩
 rw [hcp] at HCU HFF
 obtain ⟨fe, hfe⟩ : ∃ fe, fltE S.cur.vs t = fe := ⟨_, rfl⟩
 rw [hfe] at HFF HEX
 have HBA := Lib.hid (fun w => basic_any t.k w)
 obtain ⟨bb, hbb⟩ : ∃ b, basB t.k = b := ⟨_, rfl⟩
 rw [hbb] at HBA HEX
 have HD := Lib.hid (show R = if b = false then (3, S) else if t.k = 56 then (9, S) else if bb = false then (7, S) else if fe ≠ 0 then (fe, S) else execE S t by rw [← hR, doE, hb, hbb, hfe])
 have HDE := Lib.hid (show doE S t = R from hR)
 obtain ⟨k, hk⟩ : ∃ k, t.k = k := ⟨_, rfl⟩
 obtain ⟨n, hn⟩ : ∃ n, t.n = n := ⟨_, rfl⟩
 obtain ⟨s, hs⟩ : ∃ s, t.s = s := ⟨_, rfl⟩
 obtain ⟨m, hm⟩ : ∃ m, t.ks.length = m := ⟨_, rfl⟩
 rw [hk, hn, hs, hm] at HV ⊢
 rw [hk] at HBA HD
 clear h hv hR hb hw hcv hc hrow h3 h4 h5 hcp hfe hbb hk hn hs hm
 have hbx := box4 (heap_alloc_new W (.cells #[.int .u8 k, .int .i64 n, .string s, .slice A m c] 26))
 have HBK := Lib.hid (heap_alloc_new W (.cells #[.int .u8 k, .int .i64 n, .string s, .slice A m c] 26))
 obtain ⟨W0, hW0⟩ : ∃ W0, W.alloc (.cells #[.int .u8 k, .int .i64 n, .string s, .slice A m c] 26) = W0 := ⟨_, rfl⟩
 have q0 : Below W.heap.size W W0 := hW0 ▸ bl_al (Below.refl _ _) _
 rw [hW0] at hbx HBK
 have HQ0 := Lib.hid q0
 obtain ⟨x0, x1, x2, x3⟩ := hbx
 clear q0
 go_enter Tryz.func110, Tryz.ntmps110
 go_wp2_with fail
 refine (HIS.out _ _ (HV.out.later HQ0.out)).mono ?_
 rintro e w1 ⟨rfl, bw1⟩
 have HB1 := Lib.hid (bl_tt HQ0.out bw1)
 have HK1 := Lib.hid (blk_bl HBK.out bw1)
 obtain ⟨y0, y1, y2, y3⟩ := box4 HK1.out
 clear bw1 x0 x1 x2 x3
 cases b
 ·have HN := Lib.hid (show R = (3, S) by rw [HD.out, if_pos rfl])
  go_wp2_with fail
  go_ret
  exact ⟨by rw [HN.out]; rfl, P, by rw [HN.out]; exact SStp.refl HS.out HB1.out, rfl⟩
 ·by_cases h56 : k = 56
  ·have HN := Lib.hid (show R = (9, S) by rw [HD.out, if_neg (by decide), if_pos h56])
   subst h56
   go_wp2_with fail
   go_ret
   exact ⟨by rw [HN.out]; rfl, P, by rw [HN.out]; exact SStp.refl HS.out HB1.out, rfl⟩
  ·have k56 : (k == 56) = false := by simpa using h56
   go_wp2_with fail
   refine (HBA.out _).mono ?_
   rintro e w2 ⟨rfl, rfl⟩
   cases bb
   ·have HN := Lib.hid (show R = (7, S) by rw [HD.out, if_neg (by decide), if_neg h56, if_pos rfl])
    go_wp2_with fail
    go_ret
    exact ⟨by rw [HN.out]; rfl, P, by rw [HN.out]; exact SStp.refl HS.out HB1.out, rfl⟩
   ·have HD2 := Lib.hid (show R = if fe ≠ 0 then (fe, S) else execE S t by rw [HD.out, if_neg (by decide), if_neg h56, if_neg (by decide)])
    clear HD HBA
    go_upto_region 9 with fail
    have hSS : (fun w' : World => w'.cell? ⟨W.heap.size, 0, none⟩ = some (.int .u8 k) ∧ w'.cell? ⟨W.heap.size, 1, none⟩ = some (.int .i64 n) ∧ w'.cell? ⟨W.heap.size, 2, none⟩ = some (.string s) ∧ w'.cell? ⟨W.heap.size, 3, none⟩ = some (.slice A m c)) w2.drew ∧ (fun _ : World => True) w2.drew := ⟨⟨y0, y1, y2, y3⟩, trivial⟩
    refine wp_region_noPanic ?_
    refine wp_region_G (fun w' : World => w'.cell? ⟨W.heap.size, 0, none⟩ = some (.int .u8 k) ∧ w'.cell? ⟨W.heap.size, 1, none⟩ = some (.int .i64 n) ∧ w'.cell? ⟨W.heap.size, 2, none⟩ = some (.string s) ∧ w'.cell? ⟨W.heap.size, 3, none⟩ = some (.slice A m c)) (fun _ : World => True) 3 (by kernel_rfl) ?_
    refine wpG_take1 (i := 0) (v := ?_) rfl (by kernel_rfl) (by kernel_rfl) (by kernel_rfl) (by decide) (fun _ _ _ h => h) (Or.inl ⟨by rfl, ?_⟩) hSS ?_
    rotate_left 1
    ·(intro w hSw; (try dsimp only at hSw); (try simp only [zA, zC]); go_simp; (try with_reducible rfl))
    (try simp only [Act.put, zA, zC, zD, zE, zF])
    refine wpG_take1 (i := 2) (v := ?_) rfl (by kernel_rfl) (by kernel_rfl) (by kernel_rfl) (by decide) (fun _ _ _ h => h) (Or.inl ⟨by rfl, ?_⟩) hSS ?_
    rotate_left 1
    ·(intro w hSw; (try dsimp only at hSw); (try simp only [zA, zB, zC]); go_simp; (try with_reducible rfl))
    (try simp only [Act.put, zA, zB, zC, zD, zE, zF])
    have had : Calls Tryz.prog 137 [.pointer (some ⟨P.sb, 0, none⟩)].toArray w2.drew fun e W' => ∃ u, e = .returned u ∧ u = .pointer (some cp) ∧ W' = w2.drew :=
     (HCU.out _ HB1.out.drew).mono fun e W' hh => ⟨_, hh.1, rfl, hh.2⟩
    refine wpG_one (i := 1) (by kernel_rfl) rfl (fun K hK => ?_)
    refine step_callL (by rfl) (.func 137) [.tmp 22] _ (by rfl) 137 _ fnCurrent (by rfl) _ (by rfl) _ had ?_
    rintro v4 w4 ⟨rfl, rfl⟩
    refine hK.out _ _ hSS ?_
    clear hK K had
    (try simp only [Act.put, zA, zB, zC, zD, zE, zF])
    have had : Calls Tryz.prog 143 [.pointer (some cp), nv k n s A m c].toArray w2.drew fun e W' => ∃ u, e = .returned u ∧ u = .int .i64 fe ∧ Below w2.drew.heap.size w2.drew W' :=
     (HFF.out _ _ HB1.out.drew ((HV.out.later HB1.out).later (Below.refl _ _).drew)).mono fun e W' hh => ⟨_, hh.1, rfl, hh.2⟩
    refine wpG_past (i := 3) (by kernel_rfl) rfl (by kernel_rfl) (fun K hK => ?_)
    refine step_callL (by rfl) (.func 143) [.tmp 23, .tmp 24] _ (by rfl) 143 _ fnFFault (by rfl) _ (by rfl) _ had ?_
    rintro v5 w5 ⟨rfl, hb5⟩
    have HB5 := Lib.hid (bl_tt HB1.out.drew hb5)
    have HK5 := Lib.hid (blk_bl (show w2.drew.heap[W.heap.size]? = _ from HK1.out) hb5)
    obtain ⟨u0, u1, u2, u3⟩ := box4 HK5.out
    refine hK.out _ _ ⟨u0, u1, u2, u3⟩ ?_
    clear hK K had hb5 hSS y0 y1 y2 y3
    (try simp only [Act.put, zA, zB, zC, zD, zE, zF])
    refine wpG_past (i := 4) (by kernel_rfl) rfl (by kernel_rfl) (fun K hK => ?_)
    (try simp only [zA, zB, zC])
    go_simp
    refine hK.out _ _ ⟨u0, u1, u2, u3⟩ ?_
    clear hK K
    (try simp only [Act.put, zA, zB, zC, zD, zE, zF])
    refine wpG_done (by kernel_rfl) ?_
    refine NoPanic.normal ?_
    by_cases hfe : fe = 0
    ·subst hfe
     have HXX := Lib.hid (HEX.out (nv k n s A m c) w5 (HV.out.later HB5.out) HB5.out HBE.out (by first | rfl | trivial) (by first | rfl | trivial) (by rw [HDE.out, HD2.out]; simp))
     clear HD2 HEX
     go_wp2_with fail
     refine HXX.out.mono ?_
     rintro e w6 ⟨rfl, hh⟩
     have HH := Lib.hid hh
     clear hh
     go_wp2_with fail
     go_ret
     exact ⟨rfl, HH.out⟩
    ·have HN := Lib.hid (show R = (fe, S) by rw [HD2.out, if_pos hfe])
     have e1 : (fe == 0) = false := by simpa using hfe
     have e2 : (fe != 0) = true := by simpa using hfe
     clear HD2
     go_wp2_with fail
     go_ret
     exact ⟨by rw [HN.out]; rfl, P, by rw [HN.out]; exact SStp.refl HS.out HB5.out, rfl⟩
set_option maxHeartbeats 4000000 in
set_option maxRecDepth 100000 in
theorem Undo_any {W : World} {n0 : Nat} {P : Ph} {S : ST} (h : SR W n0 P S) (t : T) (v : Value) (hv : NV W Any t v) :
  Calls Tryz.prog 109 #[.pointer (some ⟨P.sb, 0, none⟩), v] W (DoP n0 P S W (undoE S t)) := by
 obtain ⟨k, n, s, ks⟩ := t
 obtain ⟨A, c, rfl, hf, hlk, hlc, hrow⟩ := hv.open_
 simp only [T.k_nd, T.n_nd, T.s_nd, T.ks_nd] at *
 obtain ⟨k', hk'⟩ : ∃ k', invK1 k = k' := ⟨_, rfl⟩
 have hf' : Fld k' n s := by
  refine ⟨?_, hf.2⟩
  rw [← hk']
  unfold invK1
  have := hf.1
  split
  ·omega
  ·split
   ·omega
   ·split
    ·omega
    ·split
     ·omega
     ·split
      ·omega
      ·split
       ·omega
       ·split
        ·omega
        ·split
         ·omega
         ·exact this
 obtain ⟨R, hR⟩ : ∃ R, undoE S (.nd k n s ks) = R := ⟨_, rfl⟩
 rw [hR]
 have HDO := Lib.hid (show ∀ W', Below W.heap.size W W' → Calls Tryz.prog 110 #[.pointer (some ⟨P.sb, 0, none⟩), nv k' n s A ks.length c] W' (DoP n0 P S W R) from fun W' hb => by
  have e : doE S (.nd k' n s ks) = R := by rw [← hR, ← hk']; rfl
  have := Do_any (h.later hb) (.nd k' n s ks) (nv k' n s A ks.length c) (NV.shut hf' hlk hlc (hrow.later hb))
  rw [e] at this
  refine this.mono ?_
  rintro e W2 ⟨a1, P', a2, a3⟩
  exact ⟨a1, P', ⟨a2.st.after hb h.rws, a2.wf⟩, a3⟩)
 have HIN := Lib.hid (fun w => hk' ▸ inverse_any k w)
 obtain ⟨m, hm⟩ : ∃ m, ks.length = m := ⟨_, rfl⟩
 rw [hm] at HDO ⊢
 clear h hv hR hf hf' hrow hlk hlc hm hk'
 go_enter Tryz.func109, Tryz.ntmps109
 go_wp2_with fail
 refine (HIN.out _).mono ?_
 rintro e w1 ⟨rfl, rfl⟩
 go_wp2_with fail
 refine (HDO.out _ (bl_al (Below.refl _ _) _)).mono ?_
 rintro e w6 ⟨rfl, hh⟩
 have HH := Lib.hid hh
 clear hh
 go_wp2_with fail
 go_ret
 exact ⟨rfl, HH.out⟩
end Go.Proofs.YtgnfpcebmefhoaaGreat
namespace Go.Proofs.YtgnfpcebmefhoaaGreat
open Go Go.RowKit
def FrK (S S' : ST) : Prop := S'.base = S.base ∧ S'.calls = S.calls ∧ S'.nc = S.nc
theorem moveE_fr (S : ST) (k : Int) (id i sid : Nat) : FrK S (moveE S k id i sid).2 := by
 unfold moveE
 repeat' split
 all_goals exact ⟨rfl, rfl, rfl⟩
theorem transE_fr (S : ST) (k : Int) (id i : Nat) : FrK S (transE S k id i).2 := by
 unfold transE
 repeat' split
 all_goals exact ⟨rfl, rfl, rfl⟩
theorem exec3_fr (S : ST) (k : Int) (s qs : ByteArray) (r2 : Int) (id i : Nat) : FrK S (exec3 S k s qs r2 id i).2 := by
 unfold exec3
 repeat' split
 all_goals first | exact moveE_fr _ _ _ _ _ | exact transE_fr _ _ _ _ | exact ⟨rfl, rfl, rfl⟩
theorem exec2_fr (S : ST) (k : Int) (s ps qs : ByteArray) (r1 : Int) (r2 : Int × Int) : FrK S (exec2 S k s ps qs r1 r2).2 := by
 unfold exec2
 repeat' split
 all_goals first | exact exec3_fr _ _ _ _ _ _ _ | exact ⟨rfl, rfl, rfl⟩
theorem exec1_fr (S : ST) (k : Int) (s : ByteArray) (p q : T) (r1 r2 : Int × Int) : FrK S (exec1 S k s p q r1 r2).2 := by
 unfold exec1
 by_cases h : r1.2 ≠ 0
 ·rw [if_pos h]; exact ⟨rfl, rfl, rfl⟩
 ·rw [if_neg h]; exact exec2_fr _ _ _ _ _ _ _
theorem doE_fr (S : ST) (t : T) : FrK S (doE S t).2 := by
 unfold doE
 repeat' split
 all_goals first | exact ⟨rfl, rfl, rfl⟩ | skip
 obtain ⟨k, n, s, ks⟩ := t
 exact exec1_fr _ _ _ _ _ _ _
theorem undoE_fr (S : ST) (t : T) : FrK S (undoE S t).2 := by
 obtain ⟨k, n, s, ks⟩ := t
 exact doE_fr _ _
def MV : Nat := 4398046510976
def Bnd (m j : Nat) (S : ST) : Prop := S.base.vs.length ≤ m + j ∧ ∀ f ∈ S.calls, f.vs.length ≤ MV + j
theorem Bnd.mono {m j : Nat} {S : ST} (h : Bnd m j S) : Bnd m (j + 1) S := ⟨by have := h.1; omega, fun f hf => by have := h.2 f hf; omega⟩
theorem Bnd.fr {m j : Nat} {S S' : ST} (h : Bnd m j S) (hf : FrK S S') : Bnd m (j + 1) S' := by
 obtain ⟨h1, h2, _⟩ := hf
 unfold Bnd
 rw [h1, h2]
 exact h.mono
theorem Bnd.cur {m j : Nat} {S : ST} (h : Bnd m j S) (hm : m ≤ MV) : S.cur.vs.length ≤ MV + j := by
 rcases Nat.eq_zero_or_pos S.calls.length with h0 | h0
 ·rw [cur_0 h0]; have := h.1; omega
 ·rw [cur_1 h0]; exact h.2 _ (List.getElem_mem _)
theorem Bnd.setCur {m j : Nat} {S : ST} (h : Bnd m j S) (f : FR) (hf : f.vs.length ≤ S.cur.vs.length + 1) : Bnd m (j + 1) (S.setCur f) := by
 unfold ST.setCur
 by_cases h0 : S.calls.length = 0
 ·rw [if_pos h0]
  rw [cur_0 h0] at hf
  exact ⟨by have := h.1; show f.vs.length ≤ _; omega, h.mono.2⟩
 ·rw [if_neg h0]
  refine ⟨h.mono.1, fun g hg => ?_⟩
  rw [cur_1 (by omega)] at hf
  rcases List.mem_or_eq_of_mem_set hg with hg | rfl
  ·exact h.mono.2 g hg
  ·have := h.2 _ (List.getElem_mem (l := S.calls) (n := S.calls.length - 1) (by omega)); omega
theorem entL_len {f : FR} : ∀ (l : List (VD × ByteArray)) (acc g : FR), entL f acc l = .ok g → g.vs.length = acc.vs.length + l.length
 | [], acc, g, h => by rw [entL] at h; injection h with h; subst h; simp
 | (v, a) :: r, acc, g, h => by
  rw [entL] at h
  split at h
  ·cases h
  ·split at h
   ·have := entL_len r _ _ h
    simp at this ⊢
    omega
   ·cases h
theorem Bnd.open_ {m j : Nat} {S : ST} (h : Bnd m j S) (v : VD) (x : Int) : Bnd m (j + 1) (openE S v x).2 := by
 unfold openE
 repeat' split
 all_goals first | exact h.mono | exact Bnd.setCur (S := S.newCell _) h _ (by rw [newCell_cur]; simp [FR.push])
theorem Bnd.close_ {m j : Nat} {S : ST} (h : Bnd m j S) (s : ByteArray) (x : Int) : Bnd m (j + 1) (closeE S s x).2 := by
 unfold closeE
 repeat' split
 all_goals first | exact h.mono | skip
 all_goals exact h.setCur _ (by simp [FR.pop]; omega)
theorem Bnd.enter {m j : Nat} {S : ST} (h : Bnd m j S) (ps : List VD) (ss : List ByteArray) (hp : ps.length ≤ MV) : Bnd m (j + 1) (enterE S ps ss).2 := by
 unfold enterE
 split
 ·exact h.mono
 ·rcases he : entL S.cur ⟨[], [], 0⟩ (ps.zip ss) with e | f
  ·exact h.mono
  ·unfold entR
   dsimp only
   split
   ·exact h.mono
   ·refine ⟨h.mono.1, fun g hg => ?_⟩
    rcases List.mem_append.1 hg with hg | hg
    ·exact h.mono.2 g hg
    ·simp at hg
     subst hg
     have := entL_len _ _ _ he
     simp at this
     omega
theorem Bnd.leave {m j : Nat} {S : ST} (h : Bnd m j S) : Bnd m (j + 1) (leaveE S).2 := by
 unfold leaveE
 split
 ·exact h.mono
 ·exact ⟨h.mono.1, fun g hg => h.mono.2 g (List.mem_of_mem_take hg)⟩
structure STP where
 k : Int
 t : T
 v : VD
 x : Int
 ps : List VD
 ss : List ByteArray
def oneE (S : ST) (p : STP) : Int × ST :=
 if p.k % 6 = 0 then doE S p.t else if p.k % 6 = 1 then undoE S p.t else if p.k % 6 = 2 then openE S p.v p.x else if p.k % 6 = 3 then closeE S p.v.s p.x else if p.k % 6 = 4 then enterE S p.ps p.ss else leaveE S
theorem Bnd.one {m j : Nat} {S : ST} (h : Bnd m j S) (p : STP) (hp : p.ps.length ≤ MV) : Bnd m (j + 1) (oneE S p).2 := by
 unfold oneE
 repeat' split
 ·exact h.fr (doE_fr _ _)
 ·exact h.fr (undoE_fr _ _)
 ·exact h.open_ _ _
 ·exact h.close_ _ _
 ·exact h.enter _ _ hp
 ·exact h.leave
theorem NV_leaf (w : World) (S : Nat → Prop) {k n : Int} {s : ByteArray} (hf : Fld k n s) : NV w S (.nd k n s []) (nv k n s none 0 0) := NV.shut (ks := []) hf (by simp) (Nat.le_refl _) (fun i hi => by simp at hi)
theorem NV_one (W : World) (E : TypeId) {S : Nat → Prop} (hS : S W.heap.size) {t1 : T} {k n k1 n1 : Int} {s s1 : ByteArray} {A1 : Option Addr} {l1 c1 : Nat} (hf : Fld k n s) (h1 : NV W S t1 (nv k1 n1 s1 A1 l1 c1)) :
  NV (W.alloc (.cells #[.int .u8 k1, .int .i64 n1, .string s1, .slice A1 l1 c1] E)) S (.nd k n s [t1]) (nv k n s (some ⟨W.heap.size, 0, none⟩) 1 1) := by
 refine NV.shut (ks := [t1]) hf (by simp [LK]) (by simp) fun i hi => ?_
 have hi0 : i = 0 := by simp at hi; exact hi
 subst hi0
 have hb := bl_al (Below.refl W.heap.size W) (.cells #[.int .u8 k1, .int .i64 n1, .string s1, .slice A1 l1 c1] E)
 have hx := heap_alloc_new W (.cells #[.int .u8 k1, .int .i64 n1, .string s1, .slice A1 l1 c1] E)
 exact ⟨⟨W.heap.size, 0, none⟩, _, _, _, _, rfl, hS, ⟨cell_of_blk hx rfl, cell_of_blk hx rfl, cell_of_blk hx rfl, cell_of_blk hx rfl⟩, h1.later hb⟩
theorem NV_two (W : World) (E : TypeId) {S : Nat → Prop} (hS : S W.heap.size) {t1 t2 : T} {k n k1 n1 k2 n2 : Int} {s s1 s2 : ByteArray} {A1 A2 : Option Addr} {l1 c1 l2 c2 : Nat} (hf : Fld k n s) (h1 : NV W S t1 (nv k1 n1 s1 A1 l1 c1)) (h2 : NV W S t2 (nv k2 n2 s2 A2 l2 c2)) :
  NV (W.alloc (.cells #[.int .u8 k1, .int .i64 n1, .string s1, .slice A1 l1 c1, .int .u8 k2, .int .i64 n2, .string s2, .slice A2 l2 c2] E)) S (.nd k n s [t1, t2]) (nv k n s (some ⟨W.heap.size, 0, none⟩) 2 2) := by
 refine NV.shut (ks := [t1, t2]) hf (by simp [LK]) (by simp) fun i hi => ?_
 have hb := bl_al (Below.refl W.heap.size W) (.cells #[.int .u8 k1, .int .i64 n1, .string s1, .slice A1 l1 c1, .int .u8 k2, .int .i64 n2, .string s2, .slice A2 l2 c2] E)
 have hx := heap_alloc_new W (.cells #[.int .u8 k1, .int .i64 n1, .string s1, .slice A1 l1 c1, .int .u8 k2, .int .i64 n2, .string s2, .slice A2 l2 c2] E)
 match i, hi with
 | 0, _ => exact ⟨⟨W.heap.size, 0, none⟩, _, _, _, _, rfl, hS, ⟨cell_of_blk hx rfl, cell_of_blk hx rfl, cell_of_blk hx rfl, cell_of_blk hx rfl⟩, h1.later hb⟩
 | 1, _ => exact ⟨⟨W.heap.size, 0, none⟩, _, _, _, _, rfl, hS, ⟨cell_of_blk hx rfl, cell_of_blk hx rfl, cell_of_blk hx rfl, cell_of_blk hx rfl⟩, h2.later hb⟩
theorem rowI_blk {W : World} {b : Nat} {E : TypeId} {xs : List Int} (h : W.heap[b]? = some (.cells (flatI xs).toArray E (0, 0))) (hx : ∀ x ∈ xs, I64 x) : RowI W Any (some ⟨b, 0, none⟩) xs := fun i hi => by
 have ha : (⟨b, 0, none⟩ : Addr).add i = ⟨b, i, none⟩ := by rw [Addr.add_lit, Nat.zero_add]
 refine ⟨⟨b, 0, none⟩, rfl, trivial, ?_, hx _ (List.getElem_mem hi)⟩
 rw [ha]
 simp only [World.cell?, h]
 simp [flatI, hi]
theorem rowV_blk {W : World} {b : Nat} {E : TypeId} {vs : List VD} (h : W.heap[b]? = some (.cells (flatV vs).toArray E (0, 0))) (hx : ∀ v ∈ vs, FldV v) : RowV W Any (some ⟨b, 0, none⟩) vs := fun i hi => by
 have ha : (⟨b, 0, none⟩ : Addr).add (i * 3) = ⟨b, i * 3, none⟩ := by rw [Addr.add_lit, Nat.zero_add]
 obtain ⟨g1, g2, g3⟩ := flatV_get vs i hi
 refine ⟨⟨b, 0, none⟩, rfl, trivial, ?_, hx _ (List.getElem_mem hi)⟩
 rw [ha]
 have key : ∀ o u, (flatV vs)[o]? = some u → W.cell? ⟨b, o, none⟩ = some u := fun o u ho => by
  simp only [World.cell?, h]
  simpa using ho
 exact ⟨key _ _ g1, key _ _ g2, key _ _ g3⟩
theorem bV2 (s : ByteArray) (k : Int) (w : World) : (Instr.build 58 #[(0, .string s), (1, .int .u8 k)]).run Tryz.prog w = .ok (.agg #[.string s, .int .u8 k, .int .i64 0]) w := by kernel_rfl
theorem bS1 (A : Option Addr) (l c : Nat) (w : World) : (Instr.build 32 #[(0, .slice A l c)]).run Tryz.prog w = .ok (.agg #[.slice A l c, .slice none 0 0, .slice none 0 0]) w := by kernel_rfl
theorem bSN1 (a0 a1 a2 a3 : Value) (w : World) : (Instr.buildSlice 24 1 #[(0, .agg #[a0, a1, a2, a3])]).run Tryz.prog w = .ok (.slice (some ⟨w.heap.size, 0, none⟩) 1 1) (w.alloc (.cells #[a0, a1, a2, a3] 26)) := by kernel_rfl
theorem box3o {w : World} {b : Nat} {E : TypeId} {u0 u1 u2 : Value} (h : w.heap[b]? = some (.cells #[u0, u1, u2] E (0, 0))) : w.cell? ⟨b, 0, none⟩ = some u0 ∧ w.cell? ⟨b, 1, none⟩ = some u1 ∧ w.cell? ⟨b, 2, none⟩ = some u2 :=
 ⟨cell_of_blk h rfl, cell_of_blk h rfl, cell_of_blk h rfl⟩
theorem row_IR {W : World} {n0 : Nat} {E : TypeId} {v : Value} {l : List Int} (h : W.ownsRow n0 E 1 v l.length (flatI l)) (hf : ∀ x ∈ l, I64 x) : ∃ A c, v = .slice A l.length c ∧ l.length ≤ c ∧ RowI W (fun b => n0 ≤ b) A l := by
 obtain ⟨A, c, e, hc, hr⟩ := ownsRow_rowI (xs := l) h hf
 exact ⟨A, c, e, hc, hr.keep (fun b hb _ => (h.lt b hb).1) (fun _ _ _ => rfl)⟩
theorem SV.stp {W W' : World} {n0 lo : Nat} {P P' : Ph} {S S' : ST} {s : SS} {v : Value} (h : SV W (fun b => lo ≤ b) s v) (hlo : ∀ b, OwnB (rows P S) b → b < lo) (hst : SStp n0 P S W P' S' W') : SV W' (fun b => lo ≤ b) s v :=
 h.keep (fun _ h _ => h) fun b hb hlt => hst.st.chg.block b hlt fun ho => by have := hlo b ho; omega
theorem SV.any {W : World} {S : Nat → Prop} {s : SS} {v : Value} (h : SV W S s v) : SV W Any s v := h.keep (fun _ _ _ => trivial) fun _ _ _ => rfl
theorem SR.n0le {W : World} {n0 : Nat} {P : Ph} {S : ST} (h : SR W n0 P S) : n0 ≤ W.heap.size := by have := h.rws.lt .sb _ rfl; omega
theorem SR.own_lt {W : World} {n0 : Nat} {P : Ph} {S : ST} (h : SR W n0 P S) {b : Nat} (hb : OwnB (rows P S) b) : n0 ≤ b ∧ b < W.heap.size := by
 obtain ⟨q, hq⟩ := hb; exact h.rws.lt q b hq
theorem SStp.frame {w W W' : World} {n0 : Nat} {P P' : Ph} {S S' : ST} (hst : SStp n0 P S W P' S' W') (hs : SR W n0 P S) (hb : Below w.heap.size w W) (hn : w.heap.size ≤ n0) : Below w.heap.size w W' :=
 hb.trans (hst.st.chg.below (Nat.le_trans hn hs.n0le) fun _ ho => Nat.le_trans hn (hs.own_lt ho).1)
theorem SStp.blk {W W' : World} {n0 : Nat} {P P' : Ph} {S S' : ST} {b : Nat} {o : Obj} (hst : SStp n0 P S W P' S' W') (hk : W.heap[b]? = some o) (hno : ¬ OwnB (rows P S) b) : W'.heap[b]? = some o := hst.st.chg.keep hk hno
theorem SStp.no {W W' : World} {n0 : Nat} {P P' : Ph} {S S' : ST} {b : Nat} (hst : SStp n0 P S W P' S' W') (hlt : b < W.heap.size) (hno : ¬ OwnB (rows P S) b) : ¬ OwnB (rows P' S') b := fun ho => by
 rcases hst.st.own _ ho with h | h
 ·exact hno h
 ·omega
theorem step_callG {P : Program} {ops : Array Oper} {o : Oper} {a : Act} {w : World} {K : Act → World → Prop} {Q : Exit → Act → World → Prop} {F : Prop} (hw : Region.wanted o (yielded ops a.tmps) = true) (x : Operand) (xs : List Operand) (ats : Array TypeId)
  (ho : o.op = .call { callee := .value x, args := xs.toArray, argTypes := ats }) (f : FuncId) (fn : Func) (hf : IsFn P f fn) (hv : a.eval x = .func (.func f) #[] #[]) (l : List Value) (hargs : xs.map a.eval = l) (R : Value → World → Prop)
  (hc : Calls P f l.toArray w fun e w' => ∃ v, e = .returned v ∧ R v w') (h : ∀ v w', R v w' → K (a.put o.dst v) w') :
  if Region.wanted o (yielded ops a.tmps) = true then Oper.wp P o a w K Q else F := by
 rw [if_pos hw]
 subst hargs
 have e : (execOp a.eval o).run P w = .ok (.enter f (xs.map a.eval).toArray) w := by
  unfold execOp
  simp only [ho, resolve, hv, Deferred.ofValue, Sem.run_bind, Sem.run_pure, Result.andThen_ok, invoke, run_callFunc hf, Array.empty_append, List.map_toArray, Array.append_empty]
 unfold Oper.wp
 rw [e, Oper.upon_enter]
 refine hc.mono ?_
 rintro e w' ⟨v, rfl, hR⟩
 exact h v w' hR
theorem newS_state {vs : List VD} {s : SS} (h : fitB vs s = true) : (newS vs s).state = s := by
 have hl : s.cells.length = vs.length := (fitB_all h).2.1
 obtain ⟨c, i, o⟩ := s
 simp only [ST.state, newS, List.length_range, Nat.sub_zero]
 congr 1
 rw [List.take_of_length_le (by simp)]
 refine List.ext_getElem (by simpa using hl.symm) fun j h1 h2 => ?_
 simp at h1 h2
 simp [h2]
theorem Bnd.new (vs : List VD) (s : SS) (h : vs.length ≤ 12) : Bnd 12 0 (newS vs s) := ⟨h, fun f hf => by simp [newS] at hf⟩
structure KS (w : World) (n0 sb : Nat) (kb : Nat → Prop) (W : World) (S : ST) : Prop where
 bl : Below w.heap.size w W
 hn : w.heap.size ≤ n0
 sr : ∃ P, SR W n0 P S ∧ P.sb = sb ∧ ∀ b, kb b → b < W.heap.size ∧ ¬ OwnB (rows P S) b
structure Kpt (n0 : Nat) (kb : Nat → Prop) (W W' : World) : Prop where
 size : W.heap.size ≤ W'.heap.size
 kept : ∀ b, b < W.heap.size → (b < n0 ∨ kb b) → W'.heap[b]? = W.heap[b]?
section
variable {w W W' W'' : World} {n0 sb : Nat} {kb kb' : Nat → Prop} {S S' : ST}
theorem Kpt.refl (n0 : Nat) (kb : Nat → Prop) (W : World) : Kpt n0 kb W W := ⟨Nat.le_refl _, fun _ _ _ => rfl⟩
theorem Kpt.trans (h : Kpt n0 kb W W') (h' : Kpt n0 kb W' W'') : Kpt n0 kb W W'' := ⟨Nat.le_trans h.size h'.size, fun b hb hk => (h'.kept b (Nat.lt_of_lt_of_le hb h.size) hk).trans (h.kept b hb hk)⟩
theorem Kpt.of_below (h : Below W.heap.size W W') : Kpt n0 kb W W' := ⟨h.size, fun b hb _ => h.block b hb⟩
theorem Kpt.cell {b o : Nat} {u : Value} (h : Kpt n0 kb W W') (hk : b < n0 ∨ kb b) (hc : W.cell? ⟨b, o, none⟩ = some u) : W'.cell? ⟨b, o, none⟩ = some u :=
 cell_kp hc (h.kept b (World.block_lt_of_cell? W _ hc) hk)
theorem Kpt.blk {b : Nat} {o : Obj} (h : Kpt n0 kb W W') (hk : b < n0 ∨ kb b) (hc : W.heap[b]? = some o) : W'.heap[b]? = some o := (h.kept b (blk_lt hc) hk).trans hc
theorem KS.n0le (h : KS w n0 sb kb W S) : n0 ≤ W.heap.size := by obtain ⟨P, hs, _⟩ := h.sr; exact hs.n0le
theorem KS.wf (h : KS w n0 sb kb W S) : S.WF := by obtain ⟨P, hs, _⟩ := h.sr; exact hs.wf
theorem KS.later (h : KS w n0 sb kb W S) (hb : Below W.heap.size W W') : KS w n0 sb kb W' S := by
 obtain ⟨P, hs, e, hk⟩ := h.sr
 exact ⟨bl_tt h.bl hb, h.hn, P, hs.later hb, e, fun b hb' => ⟨Nat.lt_of_lt_of_le (hk b hb').1 hb.size, (hk b hb').2⟩⟩
theorem KS.also (h : KS w n0 sb kb W S) (hb : Below W.heap.size W W') (hkb : ∀ b, kb' b → kb b ∨ (W.heap.size ≤ b ∧ b < W'.heap.size)) : KS w n0 sb kb' W' S := by
 obtain ⟨P, hs, e, hk⟩ := h.sr
 refine ⟨bl_tt h.bl hb, h.hn, P, hs.later hb, e, fun b hb' => ?_⟩
 rcases hkb b hb' with h1 | ⟨h1, h2⟩
 ·exact ⟨Nat.lt_of_lt_of_le (hk b h1).1 hb.size, (hk b h1).2⟩
 ·exact ⟨h2, fun ho => by have := (hs.own_lt ho).2; omega⟩
theorem KS.less (h : KS w n0 sb kb W S) (hkb : ∀ b, kb' b → kb b) : KS w n0 sb kb' W S := h.also (Below.refl _ _) fun b hb => .inl (hkb b hb)
theorem KS.new {P : Ph} {vs : List VD} {s : SS} {W0 : World} (h0 : Below w.heap.size w W0) (hb : Below W0.heap.size W0 W) (hs : SR W W0.heap.size P (newS vs s)) : KS w W0.heap.size P.sb (fun _ => False) W (newS vs s) :=
 ⟨bl_tt h0 hb, h0.size, P, hs, rfl, fun _ h => h.elim⟩
def KP (w : World) (n0 sb : Nat) (kb : Nat → Prop) (W : World) (R : Int × ST) (e : Ending) (W' : World) : Prop := e = .returned (.int .i64 R.1) ∧ KS w n0 sb kb W' R.2 ∧ Kpt n0 kb W W'
theorem KS.stp {P P' : Ph} (hbl : Below w.heap.size w W) (hn0 : w.heap.size ≤ n0) (hs : SR W n0 P S) (hk : ∀ b, kb b → b < W.heap.size ∧ ¬ OwnB (rows P S) b) (hst : SStp n0 P S W P' S' W') (hsb : P'.sb = sb) : KS w n0 sb kb W' S' ∧ Kpt n0 kb W W' := by
 refine ⟨⟨hst.frame hs hbl hn0, hn0, P', hst.sr, hsb, fun b hb => ⟨Nat.lt_of_lt_of_le (hk b hb).1 hst.st.chg.size, hst.no (hk b hb).1 (hk b hb).2⟩⟩, hst.st.chg.size, fun b hlt hb => hst.st.chg.block b hlt fun ho => ?_⟩
 rcases hb with hb | hb
 ·have := (hs.own_lt ho).1; omega
 ·exact (hk b hb).2 ho
theorem KS.dop (h : KS w n0 sb kb W S) {f : FuncId} {args : Array Value} {R : Int × ST} (hc : ∀ P, SR W n0 P S → P.sb = sb → Calls Tryz.prog f args W (DoP n0 P S W R)) : Calls Tryz.prog f args W (KP w n0 sb kb W R) := by
 obtain ⟨P, hs, e, hk⟩ := h.sr
 refine (hc P hs e).mono ?_
 rintro e' W2 ⟨a1, P', a2, a3⟩
 exact ⟨a1, KS.stp h.bl h.hn hs hk a2 (a3.trans e)⟩
theorem KS.do_ (h : KS w n0 sb kb W S) (t : T) (v : Value) (hv : NV W Any t v) : Calls Tryz.prog 110 #[.pointer (some ⟨sb, 0, none⟩), v] W (KP w n0 sb kb W (doE S t)) :=
 h.dop fun _ hs e => e ▸ Do_any hs t v hv
theorem KS.undo (h : KS w n0 sb kb W S) (t : T) (v : Value) (hv : NV W Any t v) : Calls Tryz.prog 109 #[.pointer (some ⟨sb, 0, none⟩), v] W (KP w n0 sb kb W (undoE S t)) :=
 h.dop fun _ hs e => e ▸ Undo_any hs t v hv
theorem KS.open_ (h : KS w n0 sb kb W S) (v : VD) (hfv : FldV v) (x : Int) (hx : I64 x) (hlim : S.cur.vs.length + 1 ≤ 4398046511000) : Calls Tryz.prog 106 #[.pointer (some ⟨sb, 0, none⟩), .agg #[.string v.s, .int .u8 v.k, .int .i64 v.n], .int .i64 x] W (KP w n0 sb kb W (openE S v x)) :=
 h.dop fun _ hs e => e ▸ Open_any hs v hfv x hx hlim
theorem KS.close (h : KS w n0 sb kb W S) (s : ByteArray) (x : Int) : Calls Tryz.prog 107 #[.pointer (some ⟨sb, 0, none⟩), .string s, .int .i64 x] W (KP w n0 sb kb W (closeE S s x)) :=
 h.dop fun _ hs e => e ▸ Close_any hs s x
theorem KS.enter (h : KS w n0 sb kb W S) (ps : List VD) (ss : List ByteArray) (A D : Option Addr) (c d : Nat) (hp : RowV W Any A ps) (hs : RowS W D ss) (hlp : ps.length ≤ 4398046511000) (hls : ss.length ≤ 17592186044416) : Calls Tryz.prog 139 #[.pointer (some ⟨sb, 0, none⟩), .slice A ps.length c, .slice D ss.length d] W (KP w n0 sb kb W (enterE S ps ss)) :=
 h.dop fun _ hs' e => e ▸ Enter_any hs' ps ss A D c d hp hs hlp hls
theorem KS.leave (h : KS w n0 sb kb W S) : Calls Tryz.prog 140 #[.pointer (some ⟨sb, 0, none⟩)] W (KP w n0 sb kb W (leaveE S)) :=
 h.dop fun _ hs e => e ▸ Leave_any hs
theorem KS.cell (h : KS w n0 sb kb W S) (s : ByteArray) : Calls Tryz.prog 150 #[.pointer (some ⟨sb, 0, none⟩), .string s] W (CellP W S s) := by
 obtain ⟨P, hs, rfl, -⟩ := h.sr
 exact SCell_any hs s
theorem KS.state (h : KS w n0 sb kb W S) : Calls Tryz.prog 51 #[.pointer (some ⟨sb, 0, none⟩)] W fun e W' => ∃ v, e = .returned v ∧ OwnS W' W.heap.size S.state v ∧ Below W.heap.size W W' := by
 obtain ⟨P, hs, rfl, -⟩ := h.sr
 exact State_any hs
end
theorem KS.chg {w W W' : World} {n0 sb : Nat} {kb C : Nat → Prop} {S : ST} (h : KS w n0 sb kb W S) (hc : Chg C W W') (hC : ∀ b, b < W.heap.size → C b → w.heap.size ≤ b ∧ (b < n0 ∨ kb b)) : KS w n0 sb kb W' S := by
 obtain ⟨P, hs, e, hk⟩ := h.sr
 have hno : ∀ b, OwnB (rows P S) b → ¬ C b := fun b ho hcb => by
  obtain ⟨-, h2⟩ := hC b (hs.own_lt ho).2 hcb
  rcases h2 with h2 | h2
  ·have := (hs.own_lt ho).1; omega
  ·exact (hk b h2).2 ho
 refine ⟨?_, h.hn, P, ⟨hs.rws.chg hc fun i b hb => hno b ⟨i, hb⟩, hs.wf⟩, e, fun b hb => ⟨Nat.lt_of_lt_of_le (hk b hb).1 hc.size, (hk b hb).2⟩⟩
 exact ⟨hc.os.trans h.bl.os, hc.tape.trans h.bl.tape, hc.output.trans h.bl.output, Nat.le_trans h.bl.size hc.size, fun b hb => by
  rw [hc.block b (Nat.lt_of_lt_of_le hb h.bl.size) fun hcb => by have := (hC b (Nat.lt_of_lt_of_le hb h.bl.size) hcb).1; omega]
  exact h.bl.block b hb⟩
theorem SS.Sm.of {s : SS} (h1 : s.cells.length ≤ 12) (h2 : s.tin.length ≤ 60) (h3 : s.tout.length ≤ 60) (h4 : ∀ l ∈ s.cells, l.length ≤ 60) : s.Sm :=
 ⟨by omega, fun l hl => by have := h4 l hl; omega, by omega, by omega⟩
theorem SS.Sm.lim {s : SS} (h : s.Sm) : s.Lim := by
 obtain ⟨h1, h2, h3, h4⟩ := h
 unfold SS.Lim LI
 exact ⟨by omega, fun l hl => by have := h2 l hl; omega, by omega, by omega⟩
end Go.Proofs.YtgnfpcebmefhoaaGreat
namespace Go.Proofs.YtgnfpcebmefhoaaGreat
open Go Go.RowKit
structure RS where
 S : ST
 n : Nat
 ent : List Nat
inductive Out where
 | gas
 | err (e : Int)
 | ok (r : RS)
def Out.bind : Out → (RS → Out) → Out
 | .ok r, f => f r
 | .err e, _ => .err e
 | .gas, _ => .gas
def stepO (F : Int) (r : RS) : Out := if F ≤ r.n then .err 18 else .ok { r with n := r.n + 1 }
def storeO (r : RS) (R : Int × ST) : Out := if R.1 ≠ 0 then .err R.1 else .ok { r with S := R.2 }
def valO (t : T) (r : RS) (f : Int → RS → Out) : Out := if (exprE r.S.look t).2 ≠ 0 then .err (exprE r.S.look t).2 else f (exprE r.S.look t).1 r
def holdsO (F : Int) (t : T) (r : RS) (f : Bool → RS → Out) : Out := (stepO F r).bind fun r => valO t r fun x r => f (decide (x ≠ 0)) r
def assertO (F : Int) (t : T) (b : Bool) (r : RS) : Out := holdsO F t r fun b' r => if b' = b then .ok r else .err 15
def bodyO (f : T → RS → Out) : List T → RS → Out
 | [], r => .ok r
 | t :: ts, r => (f t r).bind (bodyO f ts)
def blkL (back : Bool) (b : T) : List T := if back = true then b.ks.reverse else b.ks
def loopO (F : Int) (f : T → RS → Out) (entry test : T) (l1 l2 : List T) : Nat → RS → Out
 | 0, _ => .gas
 | m + 1, r => (bodyO f l1 r).bind fun r => holdsO F test r fun b r => if b = true then .ok r else (bodyO f l2 r).bind fun r => (assertO F entry false r).bind (loopO F f entry test l1 l2 m)
def prcI : List PR → ByteArray → Option Nat
 | [], _ => none
 | q :: qs, s => if (q.s.toList == s.toList) = true then some 0 else (prcI qs s).map (· + 1)
def kid (t : T) (i : Nat) : T := t.ks.getD i nil0
def fstT (back : Bool) (t : T) : T := if back = true then kid t (t.ks.length - 1) else kid t 0
def lstT (back : Bool) (t : T) : T := if back = true then kid t 0 else kid t (t.ks.length - 1)
def execO (prs : List PR) (F : Int) : Nat → Bool → T → RS → Out
 | 0, _, _, _ => .gas
 | g + 1, back, t, r =>
  if t.k = 52 then
   holdsO F (fstT back t) r fun yes r => (bodyO (execO prs F g back) (blkL back (if yes = true then kid t 1 else kid t 2)) r).bind (assertO F (lstT back t) yes)
  else if t.k = 53 then
   (assertO F (fstT back t) true r).bind (loopO F (execO prs F g back) (fstT back t) (lstT back t) (blkL back (kid t 1)) (blkL back (kid t 2)) g)
  else if t.k = 54 then
   (stepO F r).bind fun r => valO (fstT back t) r fun x r => (storeO r (openE r.S ⟨t.s, 1, 0⟩ x)).bind fun r => (bodyO (execO prs F g back) (blkL back (kid t 1)) r).bind fun r =>
    (stepO F r).bind fun r => valO (lstT back t) r fun x r => storeO r (closeE r.S t.s x)
  else if t.k = 55 then
   (stepO F r).bind fun r => (storeO r (openE r.S ⟨t.s, 3, 0⟩ 0)).bind fun r => (bodyO (execO prs F g back) (blkL back (kid t 0)) r).bind fun r =>
    (stepO F r).bind fun r => storeO r (closeE r.S t.s 0)
  else if t.k = 50 ∨ t.k = 51 then
   match prcI prs t.s with
   | none => .err 0
   | some i => (stepO F r).bind fun r => (storeO r (enterE r.S (prs.getD i ⟨⟨#[]⟩, [], nil0⟩).ps (t.ks.map (·.s)))).bind fun r =>
     (bodyO (execO prs F g (back != decide (t.k = 51))) (blkL (back != decide (t.k = 51)) (prs.getD i ⟨⟨#[]⟩, [], nil0⟩).b) { r with ent := r.ent.set i (r.ent.getD i 0 + 1) }).bind fun r =>
      (stepO F r).bind fun r => storeO r (leaveE r.S)
  else (stepO F r).bind fun r => storeO r (if back = true then undoE r.S t else doE r.S t)
def runO (prs : List PR) (F : Int) (g : Nat) (back : Bool) (b : T) (r : RS) : Out := bodyO (execO prs F g back) (blkL back b) r
def Good (n : Nat) (o : Out) : Prop := o ≠ .gas ∧ ∀ r, o = .ok r → n ≤ r.n
theorem Good.err (n : Nat) (e : Int) : Good n (.err e) := ⟨by simp, by simp⟩
theorem Good.ok {n : Nat} {r : RS} (h : n ≤ r.n) : Good n (.ok r) := ⟨by simp, fun r' e => by injection e with e; subst e; exact h⟩
theorem Good.mono {m n : Nat} {o : Out} (h : Good n o) (hm : m ≤ n) : Good m o := ⟨h.1, fun r e => Nat.le_trans hm (h.2 r e)⟩
theorem Good.bind {m n : Nat} {o : Out} {f : RS → Out} (h : Good n o) (hmn : m ≤ n) (hf : ∀ r, n ≤ r.n → o = .ok r → Good m (f r)) : Good m (o.bind f) := by
 cases o with
 | gas => exact absurd rfl h.1
 | err e => exact Good.err _ _
 | ok r => exact hf r (h.2 r rfl) rfl
theorem stepO_ok {F : Int} {r r' : RS} (h : stepO F r = .ok r') : r' = { r with n := r.n + 1 } ∧ (r.n : Int) < F := by
 unfold stepO at h
 split at h
 ·cases h
 ·injection h with h; exact ⟨h.symm, by omega⟩
theorem stepO_good (F : Int) (r : RS) : Good (r.n + 1) (stepO F r) := by
 unfold stepO
 split
 ·exact Good.err _ _
 ·exact Good.ok (Nat.le_refl _)
theorem storeO_good (r : RS) (R : Int × ST) : Good r.n (storeO r R) := by
 unfold storeO
 split
 ·exact Good.err _ _
 ·exact Good.ok (Nat.le_refl _)
theorem valO_good {m : Nat} {t : T} {r : RS} {f : Int → RS → Out} (hf : ∀ x, Good m (f x r)) : Good m (valO t r f) := by
 unfold valO
 split
 ·exact Good.err _ _
 ·exact hf _
theorem holdsO_good {m : Nat} {F : Int} {t : T} {r : RS} {f : Bool → RS → Out} (hm : m ≤ r.n + 1) (hf : ∀ b, (r.n : Int) < F → Good m (f b { r with n := r.n + 1 })) : Good m (holdsO F t r f) := by
 unfold holdsO
 refine (stepO_good F r).bind hm fun r' _ e => ?_
 obtain ⟨rfl, h⟩ := stepO_ok e
 exact valO_good fun x => hf _ h
theorem assertO_good (F : Int) (t : T) (b : Bool) (r : RS) : Good (r.n + 1) (assertO F t b r) := by
 unfold assertO
 refine holdsO_good (Nat.le_refl _) fun b' _ => ?_
 split
 ·exact Good.ok (Nat.le_refl _)
 ·exact Good.err _ _
theorem assertO_ok {F : Int} {t : T} {b : Bool} {r r' : RS} (h : assertO F t b r = .ok r') : r' = { r with n := r.n + 1 } ∧ (r.n : Int) < F := by
 unfold assertO holdsO at h
 cases hs : stepO F r with
 | gas => rw [hs] at h; cases h
 | err e => rw [hs] at h; cases h
 | ok r1 =>
  rw [hs] at h
  obtain ⟨rfl, hl⟩ := stepO_ok hs
  simp only [Out.bind, valO] at h
  split at h
  ·cases h
  ·split at h
   ·injection h with h; exact ⟨h.symm, hl⟩
   ·cases h
theorem bodyO_good {f : T → RS → Out} : ∀ (l : List T) (r : RS), (∀ t ∈ l, ∀ r', r.n ≤ r'.n → Good r'.n (f t r')) → Good r.n (bodyO f l r)
 | [], r, _ => Good.ok (Nat.le_refl _)
 | t :: ts, r, h => by
  rw [bodyO]
  refine (h t (List.mem_cons_self ..) r (Nat.le_refl _)).bind (Nat.le_refl _) fun r1 h1 _ => ?_
  exact (bodyO_good ts r1 fun u hu r' hr' => h u (List.mem_cons_of_mem _ hu) r' (Nat.le_trans h1 hr')).mono h1
theorem loopO_good {F : Int} {f : T → RS → Out} {entry test : T} {l1 l2 : List T} : ∀ (m : Nat) (r : RS), F.toNat - r.n < m → (∀ t ∈ l1, ∀ r', r.n ≤ r'.n → Good r'.n (f t r')) → (∀ t ∈ l2, ∀ r', r.n ≤ r'.n → Good r'.n (f t r')) → Good r.n (loopO F f entry test l1 l2 m r)
 | 0, _, h, _, _ => by omega
 | m + 1, r, h, h1, h2 => by
  rw [loopO]
  refine (bodyO_good l1 r h1).bind (Nat.le_refl _) fun r1 hr1 _ => ?_
  refine holdsO_good (by omega) fun b hF => ?_
  split
  ·exact Good.ok (by simp only; omega)
  ·refine (bodyO_good l2 { r1 with n := r1.n + 1 } fun t ht r' hr' => h2 t ht r' (by simp only at hr'; omega)).bind (by simp only; omega) fun r2 hr2 _ => ?_
   refine (assertO_good F entry false r2).bind (by simp only at hr2; omega) fun r3 hr3 e => ?_
   obtain ⟨rfl, hF2⟩ := assertO_ok e
   refine (loopO_good m _ ?_ (fun t ht r' hr' => h1 t ht r' ?_) (fun t ht r' hr' => h2 t ht r' ?_)).mono ?_
   all_goals (simp only at *; omega)
theorem size_mem_le : ∀ {ts : List T} {u : T}, u ∈ ts → size u ≤ sizes ts
 | t :: ts, u, h => by
  rw [sizes]
  rcases List.mem_cons.1 h with rfl | h
  ·omega
  ·have := size_mem_le h; omega
theorem kid_size {t : T} {i : Nat} (h : i < t.ks.length) : size (kid t i) < size t := by
 obtain ⟨k, n, s, ks⟩ := t
 have h' : i < ks.length := h
 have : kid (.nd k n s ks) i = ks[i] := by simp [kid, h']
 rw [this, size]
 have := size_mem_le (List.getElem_mem h')
 omega
theorem mem_size {t u : T} (h : u ∈ t.ks) : size u < size t := by
 obtain ⟨k, n, s, ks⟩ := t
 rw [size]
 have := size_mem_le (ts := ks) h
 omega
theorem blkL_mem {back : Bool} {b u : T} (h : u ∈ blkL back b) : u ∈ b.ks := by
 unfold blkL at h
 split at h
 ·simpa using h
 ·exact h
theorem kid_le (t : T) (i : Nat) : ∀ u ∈ (kid t i).ks, size u + 1 < size t := by
 intro u hu
 by_cases h : i < t.ks.length
 ·have := kid_size h
  have := mem_size hu
  omega
 ·have : kid t i = nil0 := by
   unfold kid
   rw [List.getD_eq_getElem?_getD, List.getElem?_eq_none (by omega)]
   rfl
  rw [this] at hu
  simp [nil0] at hu
theorem execO_good {prs : List PR} {F : Int} {M : Nat} (hM : ∀ q ∈ prs, size q.b ≤ M) (hM1 : 1 ≤ M) : ∀ (g : Nat) (back : Bool) (t : T) (r : RS), (F.toNat - r.n) * M + size t ≤ g → Good r.n (execO prs F g back t r)
 | 0, _, t, r, h => by
  have : 0 < size t := by obtain ⟨k, n, s, ks⟩ := t; rw [size]; omega
  omega
 | g + 1, back, t, r, h => by
  have hmul : ∀ a b : Nat, a ≤ b → a * M ≤ b * M := fun a b h => Nat.mul_le_mul_right _ h
  have hone : F.toNat - r.n ≤ (F.toNat - r.n) * M := Nat.le_mul_of_pos_right _ hM1
  have hb : ∀ (back : Bool) i r1, r.n ≤ r1.n → Good r1.n (bodyO (execO prs F g back) (blkL back (kid t i)) r1) := fun back i r1 h1 =>
   bodyO_good _ _ fun u hu r2 h2 => execO_good hM hM1 g back u r2 (by
    have := kid_le t i u (blkL_mem hu)
    have := hmul (F.toNat - r2.n) (F.toNat - r.n) (by omega)
    omega)
  rw [execO]
  split
  ·refine holdsO_good (by omega) fun yes hF => ?_
   have : Good (r.n + 1) (bodyO (execO prs F g back) (blkL back (if yes = true then kid t 1 else kid t 2)) { r with n := r.n + 1 }) := by
    split
    ·exact hb back 1 _ (by simp only; omega)
    ·exact hb back 2 _ (by simp only; omega)
   exact this.bind (by omega) fun r1 h1 _ => (assertO_good _ _ _ _).mono (by omega)
  ·split
   ·refine (assertO_good _ _ _ _).bind (by omega) fun r1 h1 e => ?_
    obtain ⟨rfl, hF⟩ := assertO_ok e
    have hs : 0 < size t := by obtain ⟨k, n, s, ks⟩ := t; rw [size]; omega
    refine (loopO_good g _ (by simp only; omega) (fun u hu r' hr' => ?_) (fun u hu r' hr' => ?_)).mono (by simp only; omega)
    ·have := kid_le t 1 u (blkL_mem hu)
     have := hmul (F.toNat - r'.n) (F.toNat - r.n) (by simp only at hr'; omega)
     exact execO_good hM hM1 g back u r' (by omega)
    ·have := kid_le t 2 u (blkL_mem hu)
     have := hmul (F.toNat - r'.n) (F.toNat - r.n) (by simp only at hr'; omega)
     exact execO_good hM hM1 g back u r' (by omega)
   ·split
    ·refine (stepO_good F r).bind (by omega) fun r1 h1 _ => valO_good fun x => ?_
     refine (storeO_good r1 _).bind (by omega) fun r2 h2 _ => ?_
     refine (hb back 1 r2 (by omega)).bind (by omega) fun r3 h3 _ => ?_
     refine (stepO_good F r3).bind (by omega) fun r4 h4 _ => valO_good fun x => ?_
     exact (storeO_good r4 _).mono (by omega)
    ·split
     ·refine (stepO_good F r).bind (by omega) fun r1 h1 _ => ?_
      refine (storeO_good r1 _).bind (by omega) fun r2 h2 _ => ?_
      refine (hb back 0 r2 (by omega)).bind (by omega) fun r3 h3 _ => ?_
      refine (stepO_good F r3).bind (by omega) fun r4 h4 _ => ?_
      exact (storeO_good r4 _).mono (by omega)
     ·split
      ·split
       ·exact Good.err _ _
       ·rename_i i hi
        refine (stepO_good F r).bind (by omega) fun r1 h1 e1 => ?_
        obtain ⟨rfl, hF⟩ := stepO_ok e1
        refine (storeO_good _ _).bind (by simp only; omega) fun r2 h2 _ => ?_
        have hbody : Good r2.n (bodyO (execO prs F g (back != decide (t.k = 51))) (blkL (back != decide (t.k = 51)) (prs.getD i ⟨⟨#[]⟩, [], nil0⟩).b) { r2 with ent := r2.ent.set i (r2.ent.getD i 0 + 1) }) := by
         refine bodyO_good _ _ fun u hu r3 h3 => execO_good hM hM1 g _ u r3 ?_
         have hu' := blkL_mem hu
         by_cases hi : i < prs.length
         ·have hq : prs.getD i ⟨⟨#[]⟩, [], nil0⟩ = prs[i] := by simp [hi]
          rw [hq] at hu'
          have hl := mem_size hu'
          have hMq := hM _ (List.getElem_mem hi)
          have hsub : F.toNat - r3.n + 1 ≤ F.toNat - r.n := by simp only at h2 h3; omega
          have := hmul _ _ hsub
          rw [Nat.add_mul, Nat.one_mul] at this
          omega
         ·have hq : prs.getD i ⟨⟨#[]⟩, [], nil0⟩ = ⟨⟨#[]⟩, [], nil0⟩ := by
           rw [List.getD_eq_getElem?_getD, List.getElem?_eq_none (by omega)]; rfl
          rw [hq] at hu'
          simp [nil0] at hu'
        refine hbody.bind (by simp only at h2; omega) fun r3 h3 _ => ?_
        refine (stepO_good F r3).bind (by simp only at h2; omega) fun r4 h4 _ => ?_
        exact (storeO_good r4 _).mono (by simp only at h2; omega)
      ·refine (stepO_good F r).bind (by omega) fun r1 h1 _ => ?_
       exact (storeO_good r1 _).mono (by omega)
end Go.Proofs.YtgnfpcebmefhoaaGreat
namespace Go.Proofs.YtgnfpcebmefhoaaGreat
open Go Go.RowKit
abbrev failE (x : Int) : Ending := .panicked [{ v := .iface 132 (.agg #[.int .i64 x]), recovered := false }]
set_option maxHeartbeats 1000000 in
theorem Fail_any (x : Int) (hx : x ≠ 0) (w : World) : Calls Tryz.prog 136 #[.int .i64 x] w fun e w' => e = failE x ∧ w' = w := by
 have e1 : (x == 0) = false := by simpa using hx
 have hb : ∀ w, (Instr.build 132 #[(0, .int .i64 x)]).run Tryz.prog w = .ok (.agg #[.int .i64 x]) w := fun w => by kernel_rfl
 go_enter Tryz.func136, Tryz.ntmps136
 go_wp2_with fail
 exact ⟨rfl, rfl, rfl⟩
theorem own_chg {W W' : World} {base : Nat} {E : TypeId} {size : Nat} {v : Value} {n : Nat} {xs : List Value} (h : W.ownsRow base E size v n xs) (hk : ∀ b, v.ownBlock = some b → W'.heap[b]? = W.heap[b]?) : W'.ownsRow base E size v n xs := by
 obtain ⟨e1, h2⟩ := h
 refine ⟨e1, ?_⟩
 rcases h2 with h2 | ⟨g, cap, cur, rfl, hb, hg, rest⟩
 ·exact .inl h2
 ·exact .inr ⟨g, cap, cur, rfl, hb, (hk g rfl).trans hg, rest⟩
structure RC where
 w : World
 n0 : Nat
 sb : Nat
 rb : Nat
 p : PG
 A1 : Option Addr
 c1 : Nat
 A2 : Option Addr
 c2 : Nat
 A3 : Option Addr
 c3 : Nat
 F : Int
 ev : Value
 kb : Nat → Prop
structure RC.Ok (C : RC) : Prop where
 pg : PgR C.w Any C.p C.A1 C.c1 C.A2 C.c2 C.A3 C.c3
 F : I64 C.F
 F6 : C.F ≤ 1000000
 rb : C.n0 ≤ C.rb ∧ ¬ C.kb C.rb
 ev : C.ev.ownBlock ≠ some C.rb ∧ ∀ b, C.ev.ownBlock = some b → ¬ C.kb b
 ps : ∀ q ∈ C.p.prs, q.ps.length ≤ 1000
def RC.cells (C : RC) (n : Nat) : Array Value := #[.slice C.A1 C.p.vs.length C.c1, .slice C.A2 C.p.prs.length C.c2, .int .u8 C.p.m.k, .int .i64 C.p.m.n, .string C.p.m.s, .slice C.A3 C.p.m.ks.length C.c3, .pointer (some ⟨C.sb, 0, none⟩), .int .i64 n, .int .i64 C.F, C.ev]
def FB (j : Nat) (S : ST) : Prop := S.base.vs.length ≤ 1000 + j ∧ ∀ f ∈ S.calls, f.vs.length ≤ 1000 + j
structure RI (C : RC) (W : World) (r : RS) : Prop where
 ks : KS C.w C.n0 C.sb (fun b => C.kb b ∨ b = C.rb ∨ C.ev.ownBlock = some b) W r.S
 box : W.heap[C.rb]? = some (.cells (C.cells r.n) 86 (0, 0))
 ent : W.ownsRow C.n0 3 1 C.ev r.ent.length (flatI (r.ent.map Int.ofNat))
 el : r.ent.length = C.p.prs.length
 en : ∀ c ∈ r.ent, c ≤ r.n
 n : (r.n : Int) ≤ 1000000
 fb : FB r.n r.S
section
variable {C : RC} {W W' W'' : World} {r r' : RS}
theorem RI.below (h : RI C W r) : Below C.w.heap.size C.w W := h.ks.bl
theorem RI.later (h : RI C W r) (hb : Below W.heap.size W W') : RI C W' r := ⟨h.ks.later hb, blk_bl h.box hb, own_later h.ent hb, h.el, h.en, h.n, h.fb⟩
def RunP (C : RC) (W : World) (o : Out) (e : Ending) (W' : World) : Prop :=
 Kpt C.n0 C.kb W W' ∧ Below C.w.heap.size C.w W' ∧ match o with
 | .gas => True
 | .err x => e = failE x
 | .ok r => (∃ u, e = .returned u) ∧ RI C W' r
theorem RI.cells (h : RI C W r) : W.cell? ⟨C.rb, 6, none⟩ = some (.pointer (some ⟨C.sb, 0, none⟩)) ∧ W.cell? ⟨C.rb, 7, none⟩ = some (.int .i64 r.n) ∧ W.cell? ⟨C.rb, 8, none⟩ = some (.int .i64 C.F) ∧ W.cell? ⟨C.rb, 9, none⟩ = some C.ev ∧ ∀ o, W.frozen? ⟨C.rb, o, none⟩ = false :=
 ⟨cell_of_blk h.box rfl, cell_of_blk h.box rfl, cell_of_blk h.box rfl, cell_of_blk h.box rfl, fun _ => frozen_of_blk h.box⟩
theorem FB.mono {j k : Nat} {S : ST} (h : FB j S) (hk : j ≤ k) : FB k S := ⟨by have := h.1; omega, fun f hf => by have := h.2 f hf; omega⟩
theorem Kpt.chg {n0 : Nat} {kb Cc : Nat → Prop} (h : Chg Cc W W') (hC : ∀ b, Cc b → n0 ≤ b ∧ ¬ kb b) : Kpt n0 kb W W' :=
 ⟨h.size, fun b hb hk => h.block b hb fun hc => by rcases hk with hk | hk; have := (hC b hc).1; omega; exact (hC b hc).2 hk⟩
theorem RI.tick (hC : C.Ok) (h : RI C W r) (hF : (r.n : Int) < C.F) : RI C (W.setCell ⟨C.rb, 7, none⟩ (.int .i64 ((r.n : Int) + 1))) { r with n := r.n + 1 } ∧ Kpt C.n0 C.kb W (W.setCell ⟨C.rb, 7, none⟩ (.int .i64 ((r.n : Int) + 1))) := by
 have hch : Chg (fun b => b = C.rb) W (W.setCell ⟨C.rb, 7, none⟩ (.int .i64 ((r.n : Int) + 1))) := (Chg.refl (fun b => b = C.rb) W).setCell (p := ⟨C.rb, 7, none⟩) (.inl rfl) _
 have hn := h.ks.hn
 refine ⟨⟨h.ks.chg hch fun b _ e => ⟨by have := hC.rb.1; omega, .inr (.inr (.inl e))⟩, ?_, own_chg h.ent fun b hb => ?_, h.el, fun c hc => by have := h.en c hc; simp only; omega, by have := hC.F6; simp only; omega, h.fb.mono (Nat.le_succ _)⟩, Kpt.chg hch fun b e => ⟨by have := hC.rb.1; omega, by rw [e]; exact hC.rb.2⟩⟩
 ·have := heap_setCell_same W C.rb 7 _ _ (.int .i64 ((r.n : Int) + 1)) h.box
  rw [this]
  simp [RC.cells]
 ·have hne : b ≠ C.rb := fun e => hC.ev.1 (by rw [hb, e])
  have hlt := (h.ent.lt b hb).2
  exact hch.block b hlt hne
end
set_option maxHeartbeats 4000000 in
set_option maxRecDepth 100000 in
theorem step_any {C : RC} (hC : C.Ok) {W : World} {r : RS} (h : RI C W r) : Calls Tryz.prog 104 #[.pointer (some ⟨C.rb, 0, none⟩)] W (RunP C W (stepO C.F r)) := by
 obtain ⟨-, y7, y8, -, yf⟩ := h.cells
 have hn6 := h.n
 obtain ⟨rb, hrb⟩ : ∃ b, C.rb = b := ⟨_, rfl⟩
 obtain ⟨F, hF⟩ : ∃ b, C.F = b := ⟨_, rfl⟩
 obtain ⟨n, hn⟩ : ∃ b, r.n = b := ⟨_, rfl⟩
 have HS := Lib.hid (show (fun w' : World => w'.cell? ⟨rb, 7, none⟩ = some (.int .i64 n) ∧ w'.cell? ⟨rb, 8, none⟩ = some (.int .i64 F)) W.drew from ⟨by rw [← hrb, ← hn]; exact y7, by rw [← hrb, ← hF]; exact y8⟩)
 have hd : Below W.heap.size W W.drew := (Below.refl _ _).drew
 have HK := Lib.hid (show Kpt C.n0 C.kb W W.drew ∧ Below C.w.heap.size C.w W.drew from ⟨Kpt.of_below hd, bl_tt h.below hd⟩)
 have HT := Lib.hid (fun hlt => RI.tick hC h hlt)
 have HBB := Lib.hid h.below
 have yf' : ∀ o, W.drew.frozen? ⟨rb, o, none⟩ = false := by rw [← hrb]; exact yf
 rw [hrb] at HT
 rw [hn] at HT hn6
 rw [hF] at HT
 by_cases hlt : F ≤ (n : Int)
 ·have HO := Lib.hid (show stepO C.F r = .err 18 by unfold stepO; rw [if_pos (by rw [hF, hn]; exact hlt)])
  rw [hrb]
  clear h y7 y8 yf hrb hF hn HT
  go_enter Tryz.func104, Tryz.ntmps104
  go_upto_region 0 with fail
  go_region_held3 (fun w' : World => w'.cell? ⟨rb, 7, none⟩ = some (.int .i64 n) ∧ w'.cell? ⟨rb, 8, none⟩ = some (.int .i64 F))
   (with_reducible exact HS.out)
   (first | fail)
  go_wp2_with fail
  refine (Fail_any 18 (by decide) _).mono ?_
  rintro e w1 ⟨rfl, rfl⟩
  refine ⟨rfl, ?_⟩
  rw [HO.out]
  exact ⟨HK.out.1, HK.out.2, rfl⟩
 ·have hw1 : IntKind.i64.wrap ((n : Int) + 1) = (n : Int) + 1 := IntWalk.i64_in _ (by omega)
  have HO := Lib.hid (show stepO C.F r = .ok { r with n := n + 1 } by unfold stepO; rw [if_neg (by rw [hF, hn]; exact hlt), hn])
  have HT2 := Lib.hid (HT.out (by omega))
  rw [hrb]
  have hlt' : ¬ F ≤ (n : Int) := hlt
  clear h y7 y8 yf hrb hF hn HT
  go_enter Tryz.func104, Tryz.ntmps104
  go_upto_region 0 with fail
  go_region_held3 (fun w' : World => w'.cell? ⟨rb, 7, none⟩ = some (.int .i64 n) ∧ w'.cell? ⟨rb, 8, none⟩ = some (.int .i64 F))
   (with_reducible exact HS.out)
   (first | fail)
  obtain ⟨z7, z8⟩ := HS.out
  go_wp2_with fail
  go_end0
  rw [HO.out]
  have hd2 : ∀ W : World, Below W.heap.size W W.drew := fun W => (Below.refl _ _).drew
  exact ⟨HT2.out.2.trans (Kpt.of_below (hd2 _)), (HT2.out.1.later (hd2 _)).below, ⟨_, rfl⟩, HT2.out.1.later (hd2 _)⟩
set_option maxHeartbeats 1000000 in
theorem check_any (p : Addr) (x : Int) (w : World) : Calls Tryz.prog 105 #[.pointer (some p), .int .i64 x] w fun e w' => w' = w ∧ ((x = 0 ∧ ∃ u, e = .returned u) ∨ (x ≠ 0 ∧ e = failE x)) := by
 by_cases hx : x = 0
 ·subst hx
  go_enter Tryz.func105, Tryz.ntmps105
  go_wp2_with fail
  go_end0
  exact ⟨rfl, .inl ⟨trivial, _, rfl⟩⟩
 ·have e1 : (x != 0) = true := by simpa using hx
  go_enter Tryz.func105, Tryz.ntmps105
  go_wp2_with fail
  refine (Fail_any x hx _).mono ?_
  rintro e w1 ⟨rfl, rfl⟩
  exact ⟨rfl, rfl, .inr ⟨hx, rfl⟩⟩
theorem fnSCellM : IsFn Tryz.prog 150 Tryz.f150 := ⟨Tryz.func150, by kernel_rfl, by kernel_rfl⟩
theorem cellC (w : World) (n0 sb : Nat) (kb : Nat → Prop) (S : ST) (hw : S.WF) : LookC 150 Tryz.f150 (.pointer (some ⟨sb, 0, none⟩)) (fun W => KS w n0 sb kb W S) S.look where
 isFn := fnSCellM
 later := fun _ _ h hb => h.later hb
 fits := (lookC 0 ⟨0, 0, undef, undef, undef, undef, undef, fun _ => undef, fun _ => undef, fun _ => 0, fun _ => undef⟩ S hw).fits
 call := fun s W h => by
  refine (h.cell s).mono ?_
  rintro e W' ⟨v, l, b, rfl, hlk, hl0, ho, hf, hb⟩
  refine ⟨hb, ?_⟩
  cases b
  ·obtain rfl := hl0 rfl
   obtain ⟨A, c, rfl, -⟩ := row_slice ho
   exact .inl ⟨by simpa using hlk, A, c, rfl⟩
  ·obtain ⟨A, c, rfl, -, hr⟩ := row_I ho hf
   exact .inr ⟨l, A, c, by simpa using hlk, rfl, hr⟩
set_option maxHeartbeats 2000000 in
set_option maxRecDepth 100000 in
theorem Test_any {f : FuncId} {fn : Func} {rv : Value} {Rd : World → Prop} {look : ByteArray → Option (List Int)} (hL : LookC f fn rv Rd look) (t : T) (v : Value) (w : World) (hv : NV w Any t v) (hR : Rd w) :
  Calls Tryz.prog 149 #[v, .func (.func f) #[rv] #[]] w fun e w' => e = .returned (.tuple #[.bool (decide ((exprE look t).1 ≠ 0)), .int .i64 (exprE look t).2]) ∧ Below w.heap.size w w' := by
 have HV := Lib.hid hv
 obtain ⟨A, c, rfl, -⟩ := hv.open_
 have HEX := Lib.hid (fun w' (hb : Below w.heap.size w w') => Expr_any hL t _ w' (hv.later hb) (hL.later _ _ hR hb))
 obtain ⟨⟨x, y⟩, hx⟩ : ∃ x, exprE look t = x := ⟨_, rfl⟩
 rw [hx] at HEX ⊢
 dsimp only [NumE] at HEX ⊢
 clear hv hR hx
 go_enter Tryz.func149, Tryz.ntmps149
 have hb0 := bl_al (Below.refl w.heap.size w) (.cells #[.int .u8 t.k, .int .i64 t.n, .string t.s, .slice A t.ks.length c] 26)
 have HB0 := Lib.hid hb0
 obtain ⟨x0, x1, x2, x3⟩ := box4 (heap_alloc_new w (.cells #[.int .u8 t.k, .int .i64 t.n, .string t.s, .slice A t.ks.length c] 26))
 clear hb0
 go_wp2_with fail
 refine (HEX.out _ HB0.out).mono ?_
 rintro e w1 ⟨rfl, bw1⟩
 have HB1 := Lib.hid (bl_tt HB0.out bw1)
 clear bw1 x0 x1 x2 x3
 by_cases h0 : x = 0
 ·subst h0
  go_wp2_with fail
  go_ret2
  exact ⟨by simp, HB1.out⟩
 ·have e1 : (x != 0) = true := by simpa using h0
  go_wp2_with fail
  go_ret2
  exact ⟨by simp [h0], HB1.out⟩
def RC.plus (C : RC) (lo hi : Nat) : RC := { C with kb := fun b => C.kb b ∨ (lo ≤ b ∧ b < hi) }
section
variable {C : RC} {W W' W'' : World} {r r' : RS} {lo hi : Nat}
theorem RI.rlt (h : RI C W r) : C.rb < W.heap.size := blk_lt h.box
theorem RI.plus (hC : C.Ok) (h : RI C W r) (hb : Below W.heap.size W W') : (C.plus W.heap.size W'.heap.size).Ok ∧ RI (C.plus W.heap.size W'.heap.size) W' r := by
 have h1 := h.rlt
 refine ⟨⟨hC.pg, hC.F, hC.F6, ⟨hC.rb.1, fun hk => ?_⟩, ⟨hC.ev.1, fun b hb' hk => ?_⟩, hC.ps⟩, ⟨h.ks.also hb fun b hk => ?_, blk_bl h.box hb, own_later h.ent hb, h.el, h.en, h.n, h.fb⟩⟩
 ·rcases hk with hk | hk
  ·exact hC.rb.2 hk
  ·have : W.heap.size ≤ C.rb := hk.1; omega
 ·rcases hk with hk | hk
  ·exact hC.ev.2 b hb' hk
  ·have := (h.ent.lt b hb').2; have := hk.1; omega
 ·rcases hk with (hk | hk) | hk | hk
  ·exact .inl (.inl hk)
  ·exact .inr hk
  ·exact .inl (.inr (.inl hk))
  ·exact .inl (.inr (.inr hk))
theorem RI.less (h : RI (C.plus lo hi) W r) : RI C W r :=
 ⟨h.ks.less fun b hk => hk.elim (fun hk => .inl (.inl hk)) .inr, h.box, h.ent, h.el, h.en, h.n, h.fb⟩
theorem Kpt.less (h : Kpt C.n0 (C.plus lo hi).kb W W') : Kpt C.n0 C.kb W W' := ⟨h.size, fun b hb hk => h.kept b hb (hk.imp id .inl)⟩
theorem Kpt.plus {b o : Nat} {u : Value} (h : Kpt C.n0 (C.plus lo hi).kb W W') (hb : lo ≤ b ∧ b < hi) (hc : W.cell? ⟨b, o, none⟩ = some u) : W'.cell? ⟨b, o, none⟩ = some u := h.cell (.inr (.inr hb)) hc
end
def HoldP (C : RC) (W : World) (t : T) (r : RS) (e : Ending) (W' : World) : Prop :=
 Kpt C.n0 C.kb W W' ∧ Below C.w.heap.size C.w W' ∧ ((∃ x, e = failE x ∧ ∀ f, holdsO C.F t r f = .err x) ∨ ∃ b r', e = .returned (.bool b) ∧ RI C W' r' ∧ ∀ f, holdsO C.F t r f = f b r')
set_option maxHeartbeats 4000000 in
set_option maxRecDepth 100000 in
theorem holds_any {C : RC} (hC : C.Ok) {W : World} {r : RS} (h : RI C W r) (t : T) (v : Value) (hv : NV C.w Any t v) : Calls Tryz.prog 133 #[.pointer (some ⟨C.rb, 0, none⟩), v] W (HoldP C W t r) := by
 have HV := Lib.hid hv
 obtain ⟨A, c, rfl, -⟩ := hv.open_
 have hmf : ∀ (fn : Fn) (first cap : Array Value) (w : World), (Instr.makeFunc fn first cap).run Tryz.prog w = .ok (.func fn first cap) w := fun _ _ _ _ => rfl
 have hb0 := bl_al (Below.refl W.heap.size W) (.cells #[.int .u8 t.k, .int .i64 t.n, .string t.s, .slice A t.ks.length c] 26)
 obtain ⟨hC1, h1⟩ := h.plus hC hb0
 have hz1 : (W.alloc (.cells #[.int .u8 t.k, .int .i64 t.n, .string t.s, .slice A t.ks.length c] 26)).heap.size = W.heap.size + 1 := by simp
 have hbx := box4 (heap_alloc_new W (.cells #[.int .u8 t.k, .int .i64 t.n, .string t.s, .slice A t.ks.length c] 26))
 have HK0 := Lib.hid (Kpt.of_below (n0 := C.n0) (kb := C.kb) hb0)
 obtain ⟨W1, hW1⟩ : ∃ x, W.alloc (.cells #[.int .u8 t.k, .int .i64 t.n, .string t.s, .slice A t.ks.length c] 26) = x := ⟨_, rfl⟩
 rw [hW1] at hC1 h1 hz1 hbx HK0
 have HC1 := Lib.hid hC1
 have H1 := Lib.hid h1
 have HST := Lib.hid (step_any hC1 h1)
 obtain ⟨hi, hhi⟩ : ∃ x, W1.heap.size = x := ⟨_, rfl⟩
 rw [hhi] at HC1 H1 HST hz1
 have HBX := Lib.hid hbx
 have HZ1 := Lib.hid (show W.heap.size < hi by omega)
 clear hv hC1 h1 hbx hb0 h hhi hz1
 go_enter Tryz.func133, Tryz.ntmps133
 go_wp2_with fail
 refine HST.out.mono ?_
 rintro e w1 ⟨hk1, hbl1, ho1⟩
 have HK1 := Lib.hid (HK0.out.trans (Kpt.less (C := C) hk1))
 have HB1 := Lib.hid hbl1
 cases hs : stepO C.F r with
 | gas => exact absurd hs (stepO_good _ _).1
 | err x =>
  rw [show stepO (C.plus W.heap.size hi).F r = stepO C.F r from rfl, hs] at ho1
  subst ho1
  exact ⟨rfl, HK1.out, HB1.out, .inl ⟨x, rfl, fun f => by unfold holdsO; rw [hs]; rfl⟩⟩
 | ok r1 =>
  rw [show stepO (C.plus W.heap.size hi).F r = stepO C.F r from rfl, hs] at ho1
  obtain ⟨⟨u, rfl⟩, hr1⟩ := ho1
  have x0 := Kpt.plus (C := C) hk1 (b := W.heap.size) ⟨Nat.le_refl _, HZ1.out⟩ HBX.out.1
  have x1 := Kpt.plus (C := C) hk1 (b := W.heap.size) ⟨Nat.le_refl _, HZ1.out⟩ HBX.out.2.1
  have x2 := Kpt.plus (C := C) hk1 (b := W.heap.size) ⟨Nat.le_refl _, HZ1.out⟩ HBX.out.2.2.1
  have x3 := Kpt.plus (C := C) hk1 (b := W.heap.size) ⟨Nat.le_refl _, HZ1.out⟩ HBX.out.2.2.2
  have HS := Lib.hid hs
  have HR1 := Lib.hid hr1.less
  obtain ⟨y6, -⟩ := hr1.cells
  have y6' : w1.cell? ⟨C.rb, 6, none⟩ = some (.pointer (some ⟨C.sb, 0, none⟩)) := y6
  have HTE := Lib.hid (fun w' (hb : Below w1.heap.size w1 w') => Test_any (cellC C.w C.n0 C.sb _ r1.S HR1.out.ks.wf) t _ w' (HV.out.later (bl_tt HR1.out.below hb)) (HR1.out.ks.later hb))
  obtain ⟨⟨x, y⟩, hx⟩ : ∃ x, exprE r1.S.look t = x := ⟨_, rfl⟩
  rw [hx] at HTE
  dsimp only at HTE
  obtain ⟨bb, hbb⟩ : ∃ b, decide (x ≠ 0) = b := ⟨_, rfl⟩
  rw [hbb] at HTE
  have HXX := Lib.hid hx
  have HBBB := Lib.hid hbb
  clear hbb hk1 hbl1 hs hr1 y6 hx HST HBX
  have HSS := Lib.hid (show ∀ w', Below w1.heap.size w1 w' → (fun w' : World => w'.cell? ⟨W.heap.size, 0, none⟩ = some (.int .u8 t.k) ∧ w'.cell? ⟨W.heap.size, 1, none⟩ = some (.int .i64 t.n) ∧ w'.cell? ⟨W.heap.size, 2, none⟩ = some (.string t.s) ∧ w'.cell? ⟨W.heap.size, 3, none⟩ = some (.slice A t.ks.length c) ∧ w'.cell? ⟨C.rb, 6, none⟩ = some (.pointer (some ⟨C.sb, 0, none⟩))) w' from fun w' hb => ⟨cell_bl hb x0, cell_bl hb x1, cell_bl hb x2, cell_bl hb x3, cell_bl hb y6'⟩)
  have HQ0 := Lib.hid (HSS.out _ (Below.refl _ _).drew)
  clear x0 x1 x2 x3 y6'
  go_upto_region 2 with fail
  go_region_held3 (fun w' : World => w'.cell? ⟨W.heap.size, 0, none⟩ = some (.int .u8 t.k) ∧ w'.cell? ⟨W.heap.size, 1, none⟩ = some (.int .i64 t.n) ∧ w'.cell? ⟨W.heap.size, 2, none⟩ = some (.string t.s) ∧ w'.cell? ⟨W.heap.size, 3, none⟩ = some (.slice A t.ks.length c) ∧ w'.cell? ⟨C.rb, 6, none⟩ = some (.pointer (some ⟨C.sb, 0, none⟩)))
   (first | with_reducible exact HQ1.out | with_reducible exact HQ0.out)
   (first
    | (go_at_call 149; refine (HTE.out _ (Below.refl _ _).drew).mono ?_; rintro e y1 ⟨rfl, by1⟩; have b1 := bl_tt (Below.refl w1.heap.size w1).drew by1; have HQ1 := Lib.hid (HSS.out _ b1))
    | fail)
  have HB2 := Lib.hid b1
  clear b1 by1 HQ1
  go_wp2_with fail
  refine (check_any _ y _).mono ?_
  rintro e w3 ⟨rfl, hcs⟩
  rcases hcs with ⟨rfl, u2, rfl⟩ | ⟨hy, rfl⟩
  ·go_wp2_with fail
   go_ret
   refine ⟨HK1.out.trans (Kpt.of_below HB2.out), bl_tt HB1.out HB2.out, .inr ⟨bb, r1, rfl, HR1.out.later HB2.out, fun f => ?_⟩⟩
   unfold holdsO
   rw [HS.out]
   simp only [Out.bind, valO, HXX.out]
   simp [← HBBB.out]
  ·refine ⟨rfl, HK1.out.trans (Kpt.of_below HB2.out), bl_tt HB1.out HB2.out, .inl ⟨y, rfl, fun f => ?_⟩⟩
   unfold holdsO
   rw [HS.out]
   simp only [Out.bind, valO, HXX.out]
   rw [if_pos hy]
theorem wrap64_I64 (x : Int) : I64 (wrap64 x) := by
 unfold wrap64 I64
 constructor <;> omega
theorem numI_I64 (b : Bool) : I64 (numI b) := by
 cases b
 ·exact ⟨by decide, by decide⟩
 ·exact ⟨by decide, by decide⟩
theorem zero_I64 : I64 0 := ⟨by decide, by decide⟩
theorem tmod_I64 {x y : Int} (h : I64 x) : I64 (x.tmod y) := by
 obtain ⟨h1, h2⟩ := h
 rcases Int.le_total 0 x with h0 | h0
 ·have a1 := Int.tmod_nonneg y h0
  have a2 : (x.tmod y).natAbs ≤ x.natAbs := by rw [Int.natAbs_tmod]; exact Nat.mod_le _ _
  exact ⟨by omega, by omega⟩
 ·have a1 := Int.tmod_nonneg y (show 0 ≤ -x by omega)
  rw [Int.neg_tmod] at a1
  have a2 : (x.tmod y).natAbs ≤ x.natAbs := by rw [Int.natAbs_tmod]; exact Nat.mod_le _ _
  exact ⟨by omega, by omega⟩
theorem divE_I64 {k x y : Int} (hx : I64 x) : I64 (divE k x y).1 := by
 unfold divE
 repeat' split
 all_goals first | exact zero_I64 | exact wrap64_I64 _ | exact tmod_I64 hx
theorem unE_I64 (k x : Int) : I64 (unE k x).1 := by
 unfold unE
 split
 ·exact wrap64_I64 _
 ·exact numI_I64 _
theorem ite_I64 {c : Prop} [Decidable c] {a b : Int × Int} (ha : I64 a.1) (hb : I64 b.1) : I64 (if c then a else b).1 := by
 split
 ·exact ha
 ·exact hb
theorem apE_I64 {k x y : Int} (hx : I64 x) : I64 (apE k x y).1 := by
 unfold apE
 repeat' apply ite_I64
 all_goals first | exact wrap64_I64 _ | exact divE_I64 hx | exact tmod_I64 hx | exact wrapI64 _ | exact numI_I64 _ | exact zero_I64
theorem getD_I64 {l : List Int} (h : ∀ x ∈ l, I64 x) (i : Nat) : I64 (l.getD i 0) := by
 rw [List.getD_eq_getElem?_getD]
 rcases hx : l[i]? with _ | x
 ·exact zero_I64
 ·exact h x (List.mem_of_getElem? hx)
theorem evK_I64 {look : ByteArray → Option (List Int)} (hl : ∀ s l, look s = some l → l.length ≤ 100000 ∧ ∀ x ∈ l, I64 x) {k n : Int} {s : ByteArray} {rs : List (Int × Int)} (hn : I64 n) (h0 : I64 (rs.getD 0 (0, 0)).1) : I64 (evK look k n s rs).1 := by
 unfold evK
 split
 ·exact hn
 ·split
  ·unfold varE
   split
   ·exact zero_I64
   ·rename_i l hlk
    obtain ⟨h1, h2⟩ := hl s l hlk
    repeat' split
    all_goals first | exact getD_I64 h2 _ | exact zero_I64 | exact ⟨by simp only; omega, by simp only; omega⟩
  ·repeat' split
   all_goals first | exact unE_I64 _ _ | exact apE_I64 h0 | exact zero_I64
theorem evE_I64 {look : ByteArray → Option (List Int)} (hl : ∀ s l, look s = some l → l.length ≤ 100000 ∧ ∀ x ∈ l, I64 x) {w : World} : ∀ (m : Nat) (t : T) (v : Value), size t ≤ m → NV w Any t v → I64 (evE look t).1
 | 0, t, _, h, _ => by obtain ⟨k, n, s, ks⟩ := t; rw [size] at h; omega
 | m + 1, .nd k n s ks, v, h, hv => by
  obtain ⟨A, c, -, hf, -, -, hrow⟩ := hv.open_
  rw [evE]
  refine evK_I64 hl hf.2.1 ?_
  rw [evEs_map, List.getD_eq_getElem?_getD, List.getElem?_map]
  rcases hk : ks[0]? with _ | u
  ·exact zero_I64
  ·obtain ⟨h1, h2⟩ := List.getElem?_eq_some_iff.1 hk
   obtain ⟨a, u0, u1, u2, u3, -, -, -, hn⟩ := hrow 0 h1
   have hs := size_mem_le (List.getElem_mem h1)
   rw [size] at h
   have := evE_I64 hl m ks[0] _ (by omega) hn
   rw [h2] at this
   exact this
theorem look_I64 {S : ST} (h : S.WF) : ∀ s l, S.look s = some l → l.length ≤ 100000 ∧ ∀ x ∈ l, I64 x := fun s l hl => by
 obtain ⟨i, id, h1, h2, rfl⟩ := ST.look_num hl
 obtain ⟨kd, hc⟩ := h.cur
 have := h.cells id (hc.num id (List.mem_of_getElem? h2))
 exact ⟨by omega, this.2⟩
theorem expr_I64 {S : ST} (h : S.WF) {w : World} {t : T} {v : Value} (hv : NV w Any t v) : I64 (exprE S.look t).1 := by
 unfold exprE
 split
 ·exact evE_I64 (look_I64 h) _ _ _ (Nat.le_refl _) hv
 ·exact zero_I64
def ValP (C : RC) (W : World) (t : T) (r : RS) (e : Ending) (W' : World) : Prop :=
 Below W.heap.size W W' ∧ ((∃ x, e = failE x ∧ ∀ f, valO t r f = .err x) ∨ ∃ x, e = .returned (.int .i64 x) ∧ I64 x ∧ ∀ f, valO t r f = f x r)
set_option maxHeartbeats 4000000 in
set_option maxRecDepth 100000 in
theorem value_any {C : RC} {W : World} {r : RS} (h : RI C W r) (t : T) (v : Value) (hv : NV C.w Any t v) : Calls Tryz.prog 135 #[.pointer (some ⟨C.rb, 0, none⟩), v] W (ValP C W t r) := by
 have HV := Lib.hid hv
 obtain ⟨A, c, rfl, -⟩ := hv.open_
 have hmf : ∀ (fn : Fn) (first cap : Array Value) (w : World), (Instr.makeFunc fn first cap).run Tryz.prog w = .ok (.func fn first cap) w := fun _ _ _ _ => rfl
 have hb0 := bl_al (Below.refl W.heap.size W) (.cells #[.int .u8 t.k, .int .i64 t.n, .string t.s, .slice A t.ks.length c] 26)
 have hbx := box4 (heap_alloc_new W (.cells #[.int .u8 t.k, .int .i64 t.n, .string t.s, .slice A t.ks.length c] 26))
 obtain ⟨y6, -⟩ := (h.later hb0).cells
 have HR := Lib.hid (h.later hb0)
 have HB0 := Lib.hid hb0
 obtain ⟨w1, hW1⟩ : ∃ x, W.alloc (.cells #[.int .u8 t.k, .int .i64 t.n, .string t.s, .slice A t.ks.length c] 26) = x := ⟨_, rfl⟩
 rw [hW1] at hbx HR HB0 y6
 obtain ⟨x0, x1, x2, x3⟩ := hbx
 have HTE := Lib.hid (fun w' (hb : Below w1.heap.size w1 w') => Expr_any (cellC C.w C.n0 C.sb _ r.S HR.out.ks.wf) t _ w' (HV.out.later (bl_tt HR.out.below hb)) (HR.out.ks.later hb))
 obtain ⟨⟨x, y⟩, hx⟩ : ∃ x, exprE r.S.look t = x := ⟨_, rfl⟩
 rw [hx] at HTE
 have HXX := Lib.hid hx
 have HSS := Lib.hid (show ∀ w', Below w1.heap.size w1 w' → (fun w' : World => w'.cell? ⟨W.heap.size, 0, none⟩ = some (.int .u8 t.k) ∧ w'.cell? ⟨W.heap.size, 1, none⟩ = some (.int .i64 t.n) ∧ w'.cell? ⟨W.heap.size, 2, none⟩ = some (.string t.s) ∧ w'.cell? ⟨W.heap.size, 3, none⟩ = some (.slice A t.ks.length c) ∧ w'.cell? ⟨C.rb, 6, none⟩ = some (.pointer (some ⟨C.sb, 0, none⟩))) w' from fun w' hb => ⟨cell_bl hb x0, cell_bl hb x1, cell_bl hb x2, cell_bl hb x3, cell_bl hb y6⟩)
 have HQ0 := Lib.hid (HSS.out _ (Below.refl _ _).drew)
 clear hv hb0 hx x0 x1 x2 x3 y6 h
 go_enter Tryz.func135, Tryz.ntmps135
 go_upto_region 1 with fail
 clear hW1
 go_region_held3 (fun w' : World => w'.cell? ⟨W.heap.size, 0, none⟩ = some (.int .u8 t.k) ∧ w'.cell? ⟨W.heap.size, 1, none⟩ = some (.int .i64 t.n) ∧ w'.cell? ⟨W.heap.size, 2, none⟩ = some (.string t.s) ∧ w'.cell? ⟨W.heap.size, 3, none⟩ = some (.slice A t.ks.length c) ∧ w'.cell? ⟨C.rb, 6, none⟩ = some (.pointer (some ⟨C.sb, 0, none⟩)))
  (first | with_reducible exact HQ1.out | with_reducible exact HQ0.out)
  (first
   | (go_at_call 151; refine (HTE.out _ (Below.refl _ _).drew).mono ?_; rintro e y1 ⟨rfl, by1⟩; have b1 := bl_tt (Below.refl w1.heap.size w1).drew by1; have HQ1 := Lib.hid (HSS.out _ b1))
   | fail)
 have HB2 := Lib.hid (bl_tt HB0.out b1)
 clear b1 by1 HQ1
 go_wp2_with fail
 refine (check_any _ y _).mono ?_
 rintro e w3 ⟨rfl, hcs⟩
 rcases hcs with ⟨rfl, u2, rfl⟩ | ⟨hy, rfl⟩
 ·go_wp2_with fail
  go_ret
  refine ⟨HB2.out, .inr ⟨x, rfl, ?_, fun f => ?_⟩⟩
  ·have := expr_I64 HR.out.ks.wf HV.out
   rw [HXX.out] at this
   exact this
  ·unfold valO
   rw [HXX.out]
   simp
 ·refine ⟨rfl, HB2.out, .inl ⟨y, rfl, fun f => ?_⟩⟩
  unfold valO
  rw [HXX.out, if_pos hy]
set_option maxHeartbeats 4000000 in
set_option maxRecDepth 100000 in
theorem assert_any {C : RC} (hC : C.Ok) {W : World} {r : RS} (h : RI C W r) (t : T) (v : Value) (hv : NV C.w Any t v) (b : Bool) : Calls Tryz.prog 134 #[.pointer (some ⟨C.rb, 0, none⟩), v, .bool b] W (RunP C W (assertO C.F t b r)) := by
 have HV := Lib.hid hv
 obtain ⟨A, c, rfl, -⟩ := hv.open_
 have hb0 := bl_al (Below.refl W.heap.size W) (.cells #[.int .u8 t.k, .int .i64 t.n, .string t.s, .slice A t.ks.length c] 26)
 obtain ⟨x0, x1, x2, x3⟩ := box4 (heap_alloc_new W (.cells #[.int .u8 t.k, .int .i64 t.n, .string t.s, .slice A t.ks.length c] 26))
 have HK0 := Lib.hid (Kpt.of_below (n0 := C.n0) (kb := C.kb) hb0)
 have HHO := Lib.hid (holds_any hC (h.later hb0) t _ hv)
 clear hv hb0 h
 go_enter Tryz.func134, Tryz.ntmps134
 go_wp2_with fail
 refine HHO.out.mono ?_
 rintro e w1 ⟨hk1, hb1, ho⟩
 have HK1 := Lib.hid (HK0.out.trans hk1)
 have HB1 := Lib.hid hb1
 clear hk1 hb1 HHO x0 x1 x2 x3 HK0
 rcases ho with ⟨x, rfl, hx⟩ | ⟨b1, r1, rfl, hr1, hx⟩
 ·refine ⟨rfl, HK1.out, HB1.out, ?_⟩
  rw [show assertO C.F t b r = .err x from hx _]
 ·have HX := Lib.hid (show assertO C.F t b r = if b1 = b then .ok r1 else .err 15 from hx _)
  have HR := Lib.hid hr1
  clear hr1 hx
  by_cases hbb : b1 = b
  ·subst hbb
   have HX2 := Lib.hid (show assertO C.F t b1 r = .ok r1 by rw [HX.out, if_pos rfl])
   clear HX
   go_wp2_with fail
   go_end0
   refine ⟨HK1.out, HB1.out, ?_⟩
   rw [HX2.out]
   exact ⟨⟨_, rfl⟩, HR.out⟩
  ·have e1 : (b1 != b) = true := by simpa using hbb
   have e2 : (b1 == b) = false := by simpa using hbb
   go_wp2_with fail
   refine (Fail_any 15 (by decide) _).mono ?_
   rintro e w2 ⟨rfl, rfl⟩
   refine ⟨rfl, HK1.out, HB1.out, ?_⟩
   rw [HX.out, if_neg hbb]
end Go.Proofs.YtgnfpcebmefhoaaGreat
