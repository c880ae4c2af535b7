/-
  Contracts of package ast: IsStmt, IsBlock.
-/
import Derived.Test.YtekjfbnggfbfhaaAst2
namespace Go.Proofs.Ytekjfbnggfbfhaa
open Go.RowKit

/-- What ast.IsStmt and ast.IsBlock do on one tree. -/
def StmtC (t : T) : Prop := ∀ (v : Value) (w : World), NV w Any t v → Calls Try.prog 34 #[v] w fun e w' => e = .returned (.bool (isS t)) ∧ Below w.heap.size w w'
def BlockC (t : T) : Prop := ∀ (v : Value) (w : World), NV w Any t v → Calls Try.prog 55 #[v] w fun e w' => e = .returned (.bool (isB t)) ∧ Below w.heap.size w w'

set_option maxHeartbeats 1000000 in
theorem IsStmt_40 (n : Int) (s : ByteArray) (ks : List T) (ihB : ∀ t ∈ ks, BlockC t) : StmtC (.nd 40 n s ks) := by
  intro v w hv
  have HX := Lib.hid (show isS (.nd 40 n s ks) = (plainB n s && kidsB 2 (fun i => if i = 0 then isP else isE) ks) by simp [isS])
  have IH := Lib.hid ihB
  have HV := Lib.hid hv
  obtain ⟨Ad, c, rfl, hf, hlk, hlc, hrow⟩ := hv.open_
  simp only [T.k_nd, T.n_nd, T.s_nd, T.ks_nd] at *
  have hlk' := LK_int hlk
  clear hf hv hlk hrow hlc ihB
  by_cases hnb : plainB n s = true
  · go_enter Try.func34, Try.ntmps34
    go_wp2_with fail
    refine (plain_any _ _ _ _ _ _ _).mono ?_
    rintro e w1 ⟨rfl, hb1⟩
    obtain ⟨hc1, hf1⟩ := bcell hb1
    have hbb : Below w.heap.size w w1 := ((Below.refl _ _).alloc (Nat.le_refl _) _).trans (hb1.mono (by simp))
    go_wp2_with fail
    refine (kids_any (.nd 40 n s ks) _ _ (HV.out.later (hbb.alloc hbb.size _)) _ 2 (fun i => if i = 0 then 50 else 51) (fun i => if i = 0 then Try.f50 else Try.f51) (fun i => if i = 0 then isP else isE) (by decide) (by simp) (fun i hi => fcell (by rcases i with _ | _ | _ | _ | i <;> first | omega | rfl)) (fun i hi => by rcases i with _ | i; exact fnIsPlace; exact fnIsExpr) (fun hl i hi => by rcases i with _ | i; exact IsPlace_any _; exact IsExpr_any _)).mono ?_
    rintro e w2 ⟨rfl, hb2⟩
    have hbc : Below w.heap.size w w2 := (hbb.alloc hbb.size _).trans (hb2.mono (by have := hbb.size; simp; omega))
    go_wp2_with fail
    go_ret
    exact ⟨by rw [HX.out]; simp [*], hbc⟩
  · have hnb' : plainB n s = false := by simpa using hnb
    clear hnb
    go_enter Try.func34, Try.ntmps34
    go_wp2_with fail
    refine (plain_any _ _ _ _ _ _ _).mono ?_
    rintro e w1 ⟨rfl, hb1⟩
    have hbb : Below w.heap.size w w1 := ((Below.refl _ _).alloc (Nat.le_refl _) _).trans (hb1.mono (by simp))
    go_wp2_with fail
    go_ret
    exact ⟨by rw [HX.out]; simp [*], hbb⟩

set_option maxHeartbeats 1000000 in
theorem IsStmt_41 (n : Int) (s : ByteArray) (ks : List T) (ihB : ∀ t ∈ ks, BlockC t) : StmtC (.nd 41 n s ks) := by
  intro v w hv
  have HX := Lib.hid (show isS (.nd 41 n s ks) = (plainB n s && kidsB 2 (fun i => if i = 0 then isP else isE) ks) by simp [isS])
  have IH := Lib.hid ihB
  have HV := Lib.hid hv
  obtain ⟨Ad, c, rfl, hf, hlk, hlc, hrow⟩ := hv.open_
  simp only [T.k_nd, T.n_nd, T.s_nd, T.ks_nd] at *
  have hlk' := LK_int hlk
  clear hf hv hlk hrow hlc ihB
  by_cases hnb : plainB n s = true
  · go_enter Try.func34, Try.ntmps34
    go_wp2_with fail
    refine (plain_any _ _ _ _ _ _ _).mono ?_
    rintro e w1 ⟨rfl, hb1⟩
    obtain ⟨hc1, hf1⟩ := bcell hb1
    have hbb : Below w.heap.size w w1 := ((Below.refl _ _).alloc (Nat.le_refl _) _).trans (hb1.mono (by simp))
    go_wp2_with fail
    refine (kids_any (.nd 41 n s ks) _ _ (HV.out.later (hbb.alloc hbb.size _)) _ 2 (fun i => if i = 0 then 50 else 51) (fun i => if i = 0 then Try.f50 else Try.f51) (fun i => if i = 0 then isP else isE) (by decide) (by simp) (fun i hi => fcell (by rcases i with _ | _ | _ | _ | i <;> first | omega | rfl)) (fun i hi => by rcases i with _ | i; exact fnIsPlace; exact fnIsExpr) (fun hl i hi => by rcases i with _ | i; exact IsPlace_any _; exact IsExpr_any _)).mono ?_
    rintro e w2 ⟨rfl, hb2⟩
    have hbc : Below w.heap.size w w2 := (hbb.alloc hbb.size _).trans (hb2.mono (by have := hbb.size; simp; omega))
    go_wp2_with fail
    go_ret
    exact ⟨by rw [HX.out]; simp [*], hbc⟩
  · have hnb' : plainB n s = false := by simpa using hnb
    clear hnb
    go_enter Try.func34, Try.ntmps34
    go_wp2_with fail
    refine (plain_any _ _ _ _ _ _ _).mono ?_
    rintro e w1 ⟨rfl, hb1⟩
    have hbb : Below w.heap.size w w1 := ((Below.refl _ _).alloc (Nat.le_refl _) _).trans (hb1.mono (by simp))
    go_wp2_with fail
    go_ret
    exact ⟨by rw [HX.out]; simp [*], hbb⟩

set_option maxHeartbeats 1000000 in
theorem IsStmt_42 (n : Int) (s : ByteArray) (ks : List T) (ihB : ∀ t ∈ ks, BlockC t) : StmtC (.nd 42 n s ks) := by
  intro v w hv
  have HX := Lib.hid (show isS (.nd 42 n s ks) = (plainB n s && kidsB 2 (fun i => if i = 0 then isP else isE) ks) by simp [isS])
  have IH := Lib.hid ihB
  have HV := Lib.hid hv
  obtain ⟨Ad, c, rfl, hf, hlk, hlc, hrow⟩ := hv.open_
  simp only [T.k_nd, T.n_nd, T.s_nd, T.ks_nd] at *
  have hlk' := LK_int hlk
  clear hf hv hlk hrow hlc ihB
  by_cases hnb : plainB n s = true
  · go_enter Try.func34, Try.ntmps34
    go_wp2_with fail
    refine (plain_any _ _ _ _ _ _ _).mono ?_
    rintro e w1 ⟨rfl, hb1⟩
    obtain ⟨hc1, hf1⟩ := bcell hb1
    have hbb : Below w.heap.size w w1 := ((Below.refl _ _).alloc (Nat.le_refl _) _).trans (hb1.mono (by simp))
    go_wp2_with fail
    refine (kids_any (.nd 42 n s ks) _ _ (HV.out.later (hbb.alloc hbb.size _)) _ 2 (fun i => if i = 0 then 50 else 51) (fun i => if i = 0 then Try.f50 else Try.f51) (fun i => if i = 0 then isP else isE) (by decide) (by simp) (fun i hi => fcell (by rcases i with _ | _ | _ | _ | i <;> first | omega | rfl)) (fun i hi => by rcases i with _ | i; exact fnIsPlace; exact fnIsExpr) (fun hl i hi => by rcases i with _ | i; exact IsPlace_any _; exact IsExpr_any _)).mono ?_
    rintro e w2 ⟨rfl, hb2⟩
    have hbc : Below w.heap.size w w2 := (hbb.alloc hbb.size _).trans (hb2.mono (by have := hbb.size; simp; omega))
    go_wp2_with fail
    go_ret
    exact ⟨by rw [HX.out]; simp [*], hbc⟩
  · have hnb' : plainB n s = false := by simpa using hnb
    clear hnb
    go_enter Try.func34, Try.ntmps34
    go_wp2_with fail
    refine (plain_any _ _ _ _ _ _ _).mono ?_
    rintro e w1 ⟨rfl, hb1⟩
    have hbb : Below w.heap.size w w1 := ((Below.refl _ _).alloc (Nat.le_refl _) _).trans (hb1.mono (by simp))
    go_wp2_with fail
    go_ret
    exact ⟨by rw [HX.out]; simp [*], hbb⟩

set_option maxHeartbeats 1000000 in
theorem IsStmt_56 (n : Int) (s : ByteArray) (ks : List T) (ihB : ∀ t ∈ ks, BlockC t) : StmtC (.nd 56 n s ks) := by
  intro v w hv
  have HX := Lib.hid (show isS (.nd 56 n s ks) = (plainB n s && kidsB 2 (fun i => if i = 0 then isP else isE) ks) by simp [isS])
  have IH := Lib.hid ihB
  have HV := Lib.hid hv
  obtain ⟨Ad, c, rfl, hf, hlk, hlc, hrow⟩ := hv.open_
  simp only [T.k_nd, T.n_nd, T.s_nd, T.ks_nd] at *
  have hlk' := LK_int hlk
  clear hf hv hlk hrow hlc ihB
  by_cases hnb : plainB n s = true
  · go_enter Try.func34, Try.ntmps34
    go_wp2_with fail
    refine (plain_any _ _ _ _ _ _ _).mono ?_
    rintro e w1 ⟨rfl, hb1⟩
    obtain ⟨hc1, hf1⟩ := bcell hb1
    have hbb : Below w.heap.size w w1 := ((Below.refl _ _).alloc (Nat.le_refl _) _).trans (hb1.mono (by simp))
    go_wp2_with fail
    refine (kids_any (.nd 56 n s ks) _ _ (HV.out.later (hbb.alloc hbb.size _)) _ 2 (fun i => if i = 0 then 50 else 51) (fun i => if i = 0 then Try.f50 else Try.f51) (fun i => if i = 0 then isP else isE) (by decide) (by simp) (fun i hi => fcell (by rcases i with _ | _ | _ | _ | i <;> first | omega | rfl)) (fun i hi => by rcases i with _ | i; exact fnIsPlace; exact fnIsExpr) (fun hl i hi => by rcases i with _ | i; exact IsPlace_any _; exact IsExpr_any _)).mono ?_
    rintro e w2 ⟨rfl, hb2⟩
    have hbc : Below w.heap.size w w2 := (hbb.alloc hbb.size _).trans (hb2.mono (by have := hbb.size; simp; omega))
    go_wp2_with fail
    go_ret
    exact ⟨by rw [HX.out]; simp [*], hbc⟩
  · have hnb' : plainB n s = false := by simpa using hnb
    clear hnb
    go_enter Try.func34, Try.ntmps34
    go_wp2_with fail
    refine (plain_any _ _ _ _ _ _ _).mono ?_
    rintro e w1 ⟨rfl, hb1⟩
    have hbb : Below w.heap.size w w1 := ((Below.refl _ _).alloc (Nat.le_refl _) _).trans (hb1.mono (by simp))
    go_wp2_with fail
    go_ret
    exact ⟨by rw [HX.out]; simp [*], hbb⟩

set_option maxHeartbeats 1000000 in
theorem IsStmt_43 (n : Int) (s : ByteArray) (ks : List T) (ihB : ∀ t ∈ ks, BlockC t) : StmtC (.nd 43 n s ks) := by
  intro v w hv
  have HX := Lib.hid (show isS (.nd 43 n s ks) = (plainB n s && kidsB 2 (fun _ => isP) ks) by simp [isS])
  have IH := Lib.hid ihB
  have HV := Lib.hid hv
  obtain ⟨Ad, c, rfl, hf, hlk, hlc, hrow⟩ := hv.open_
  simp only [T.k_nd, T.n_nd, T.s_nd, T.ks_nd] at *
  have hlk' := LK_int hlk
  clear hf hv hlk hrow hlc ihB
  by_cases hnb : plainB n s = true
  · go_enter Try.func34, Try.ntmps34
    go_wp2_with fail
    refine (plain_any _ _ _ _ _ _ _).mono ?_
    rintro e w1 ⟨rfl, hb1⟩
    obtain ⟨hc1, hf1⟩ := bcell hb1
    have hbb : Below w.heap.size w w1 := ((Below.refl _ _).alloc (Nat.le_refl _) _).trans (hb1.mono (by simp))
    go_wp2_with fail
    refine (kids_any (.nd 43 n s ks) _ _ (HV.out.later (hbb.alloc hbb.size _)) _ 2 (fun _ => 50) (fun _ => Try.f50) (fun _ => isP) (by decide) (by simp) (fun i hi => fcell (by rcases i with _ | _ | _ | _ | i <;> first | omega | rfl)) (fun _ _ => fnIsPlace) (fun hl i hi => IsPlace_any _)).mono ?_
    rintro e w2 ⟨rfl, hb2⟩
    have hbc : Below w.heap.size w w2 := (hbb.alloc hbb.size _).trans (hb2.mono (by have := hbb.size; simp; omega))
    go_wp2_with fail
    go_ret
    exact ⟨by rw [HX.out]; simp [*], hbc⟩
  · have hnb' : plainB n s = false := by simpa using hnb
    clear hnb
    go_enter Try.func34, Try.ntmps34
    go_wp2_with fail
    refine (plain_any _ _ _ _ _ _ _).mono ?_
    rintro e w1 ⟨rfl, hb1⟩
    have hbb : Below w.heap.size w w1 := ((Below.refl _ _).alloc (Nat.le_refl _) _).trans (hb1.mono (by simp))
    go_wp2_with fail
    go_ret
    exact ⟨by rw [HX.out]; simp [*], hbb⟩

set_option maxHeartbeats 1000000 in
theorem IsStmt_44 (n : Int) (s : ByteArray) (ks : List T) (ihB : ∀ t ∈ ks, BlockC t) : StmtC (.nd 44 n s ks) := by
  intro v w hv
  have HX := Lib.hid (show isS (.nd 44 n s ks) = (namedB n s && kidsB 1 (fun _ => isP) ks) by simp [isS])
  have IH := Lib.hid ihB
  have HV := Lib.hid hv
  obtain ⟨Ad, c, rfl, hf, hlk, hlc, hrow⟩ := hv.open_
  simp only [T.k_nd, T.n_nd, T.s_nd, T.ks_nd] at *
  have hlk' := LK_int hlk
  clear hf hv hlk hrow hlc ihB
  by_cases hnb : namedB n s = true
  · go_enter Try.func34, Try.ntmps34
    go_wp2_with fail
    refine (named_any _ _ _ _ _ _ _).mono ?_
    rintro e w1 ⟨rfl, hb1⟩
    obtain ⟨hc1, hf1⟩ := bcell hb1
    have hbb : Below w.heap.size w w1 := ((Below.refl _ _).alloc (Nat.le_refl _) _).trans (hb1.mono (by simp))
    go_wp2_with fail
    refine (kids_any (.nd 44 n s ks) _ _ (HV.out.later (hbb.alloc hbb.size _)) _ 1 (fun _ => 50) (fun _ => Try.f50) (fun _ => isP) (by decide) (by simp) (fun i hi => fcell (by rcases i with _ | _ | _ | _ | i <;> first | omega | rfl)) (fun _ _ => fnIsPlace) (fun hl i hi => IsPlace_any _)).mono ?_
    rintro e w2 ⟨rfl, hb2⟩
    have hbc : Below w.heap.size w w2 := (hbb.alloc hbb.size _).trans (hb2.mono (by have := hbb.size; simp; omega))
    go_wp2_with fail
    go_ret
    exact ⟨by rw [HX.out]; simp [*], hbc⟩
  · have hnb' : namedB n s = false := by simpa using hnb
    clear hnb
    go_enter Try.func34, Try.ntmps34
    go_wp2_with fail
    refine (named_any _ _ _ _ _ _ _).mono ?_
    rintro e w1 ⟨rfl, hb1⟩
    have hbb : Below w.heap.size w w1 := ((Below.refl _ _).alloc (Nat.le_refl _) _).trans (hb1.mono (by simp))
    go_wp2_with fail
    go_ret
    exact ⟨by rw [HX.out]; simp [*], hbb⟩

set_option maxHeartbeats 1000000 in
theorem IsStmt_45 (n : Int) (s : ByteArray) (ks : List T) (ihB : ∀ t ∈ ks, BlockC t) : StmtC (.nd 45 n s ks) := by
  intro v w hv
  have HX := Lib.hid (show isS (.nd 45 n s ks) = (namedB n s && kidsB 1 (fun _ => isP) ks) by simp [isS])
  have IH := Lib.hid ihB
  have HV := Lib.hid hv
  obtain ⟨Ad, c, rfl, hf, hlk, hlc, hrow⟩ := hv.open_
  simp only [T.k_nd, T.n_nd, T.s_nd, T.ks_nd] at *
  have hlk' := LK_int hlk
  clear hf hv hlk hrow hlc ihB
  by_cases hnb : namedB n s = true
  · go_enter Try.func34, Try.ntmps34
    go_wp2_with fail
    refine (named_any _ _ _ _ _ _ _).mono ?_
    rintro e w1 ⟨rfl, hb1⟩
    obtain ⟨hc1, hf1⟩ := bcell hb1
    have hbb : Below w.heap.size w w1 := ((Below.refl _ _).alloc (Nat.le_refl _) _).trans (hb1.mono (by simp))
    go_wp2_with fail
    refine (kids_any (.nd 45 n s ks) _ _ (HV.out.later (hbb.alloc hbb.size _)) _ 1 (fun _ => 50) (fun _ => Try.f50) (fun _ => isP) (by decide) (by simp) (fun i hi => fcell (by rcases i with _ | _ | _ | _ | i <;> first | omega | rfl)) (fun _ _ => fnIsPlace) (fun hl i hi => IsPlace_any _)).mono ?_
    rintro e w2 ⟨rfl, hb2⟩
    have hbc : Below w.heap.size w w2 := (hbb.alloc hbb.size _).trans (hb2.mono (by have := hbb.size; simp; omega))
    go_wp2_with fail
    go_ret
    exact ⟨by rw [HX.out]; simp [*], hbc⟩
  · have hnb' : namedB n s = false := by simpa using hnb
    clear hnb
    go_enter Try.func34, Try.ntmps34
    go_wp2_with fail
    refine (named_any _ _ _ _ _ _ _).mono ?_
    rintro e w1 ⟨rfl, hb1⟩
    have hbb : Below w.heap.size w w1 := ((Below.refl _ _).alloc (Nat.le_refl _) _).trans (hb1.mono (by simp))
    go_wp2_with fail
    go_ret
    exact ⟨by rw [HX.out]; simp [*], hbb⟩

set_option maxHeartbeats 1000000 in
theorem IsStmt_46 (n : Int) (s : ByteArray) (ks : List T) (ihB : ∀ t ∈ ks, BlockC t) : StmtC (.nd 46 n s ks) := by
  intro v w hv
  have HX := Lib.hid (show isS (.nd 46 n s ks) = (plainB n s && kidsB 1 (fun _ => isP) ks) by simp [isS])
  have IH := Lib.hid ihB
  have HV := Lib.hid hv
  obtain ⟨Ad, c, rfl, hf, hlk, hlc, hrow⟩ := hv.open_
  simp only [T.k_nd, T.n_nd, T.s_nd, T.ks_nd] at *
  have hlk' := LK_int hlk
  clear hf hv hlk hrow hlc ihB
  by_cases hnb : plainB n s = true
  · go_enter Try.func34, Try.ntmps34
    go_wp2_with fail
    refine (plain_any _ _ _ _ _ _ _).mono ?_
    rintro e w1 ⟨rfl, hb1⟩
    obtain ⟨hc1, hf1⟩ := bcell hb1
    have hbb : Below w.heap.size w w1 := ((Below.refl _ _).alloc (Nat.le_refl _) _).trans (hb1.mono (by simp))
    go_wp2_with fail
    refine (kids_any (.nd 46 n s ks) _ _ (HV.out.later (hbb.alloc hbb.size _)) _ 1 (fun _ => 50) (fun _ => Try.f50) (fun _ => isP) (by decide) (by simp) (fun i hi => fcell (by rcases i with _ | _ | _ | _ | i <;> first | omega | rfl)) (fun _ _ => fnIsPlace) (fun hl i hi => IsPlace_any _)).mono ?_
    rintro e w2 ⟨rfl, hb2⟩
    have hbc : Below w.heap.size w w2 := (hbb.alloc hbb.size _).trans (hb2.mono (by have := hbb.size; simp; omega))
    go_wp2_with fail
    go_ret
    exact ⟨by rw [HX.out]; simp [*], hbc⟩
  · have hnb' : plainB n s = false := by simpa using hnb
    clear hnb
    go_enter Try.func34, Try.ntmps34
    go_wp2_with fail
    refine (plain_any _ _ _ _ _ _ _).mono ?_
    rintro e w1 ⟨rfl, hb1⟩
    have hbb : Below w.heap.size w w1 := ((Below.refl _ _).alloc (Nat.le_refl _) _).trans (hb1.mono (by simp))
    go_wp2_with fail
    go_ret
    exact ⟨by rw [HX.out]; simp [*], hbb⟩

set_option maxHeartbeats 1000000 in
theorem IsStmt_47 (n : Int) (s : ByteArray) (ks : List T) (ihB : ∀ t ∈ ks, BlockC t) : StmtC (.nd 47 n s ks) := by
  intro v w hv
  have HX := Lib.hid (show isS (.nd 47 n s ks) = (plainB n s && kidsB 1 (fun _ => isP) ks) by simp [isS])
  have IH := Lib.hid ihB
  have HV := Lib.hid hv
  obtain ⟨Ad, c, rfl, hf, hlk, hlc, hrow⟩ := hv.open_
  simp only [T.k_nd, T.n_nd, T.s_nd, T.ks_nd] at *
  have hlk' := LK_int hlk
  clear hf hv hlk hrow hlc ihB
  by_cases hnb : plainB n s = true
  · go_enter Try.func34, Try.ntmps34
    go_wp2_with fail
    refine (plain_any _ _ _ _ _ _ _).mono ?_
    rintro e w1 ⟨rfl, hb1⟩
    obtain ⟨hc1, hf1⟩ := bcell hb1
    have hbb : Below w.heap.size w w1 := ((Below.refl _ _).alloc (Nat.le_refl _) _).trans (hb1.mono (by simp))
    go_wp2_with fail
    refine (kids_any (.nd 47 n s ks) _ _ (HV.out.later (hbb.alloc hbb.size _)) _ 1 (fun _ => 50) (fun _ => Try.f50) (fun _ => isP) (by decide) (by simp) (fun i hi => fcell (by rcases i with _ | _ | _ | _ | i <;> first | omega | rfl)) (fun _ _ => fnIsPlace) (fun hl i hi => IsPlace_any _)).mono ?_
    rintro e w2 ⟨rfl, hb2⟩
    have hbc : Below w.heap.size w w2 := (hbb.alloc hbb.size _).trans (hb2.mono (by have := hbb.size; simp; omega))
    go_wp2_with fail
    go_ret
    exact ⟨by rw [HX.out]; simp [*], hbc⟩
  · have hnb' : plainB n s = false := by simpa using hnb
    clear hnb
    go_enter Try.func34, Try.ntmps34
    go_wp2_with fail
    refine (plain_any _ _ _ _ _ _ _).mono ?_
    rintro e w1 ⟨rfl, hb1⟩
    have hbb : Below w.heap.size w w1 := ((Below.refl _ _).alloc (Nat.le_refl _) _).trans (hb1.mono (by simp))
    go_wp2_with fail
    go_ret
    exact ⟨by rw [HX.out]; simp [*], hbb⟩

set_option maxHeartbeats 1000000 in
theorem IsStmt_48 (n : Int) (s : ByteArray) (ks : List T) (ihB : ∀ t ∈ ks, BlockC t) : StmtC (.nd 48 n s ks) := by
  intro v w hv
  have HX := Lib.hid (show isS (.nd 48 n s ks) = (plainB n s && kidsB 1 (fun _ => isP) ks) by simp [isS])
  have IH := Lib.hid ihB
  have HV := Lib.hid hv
  obtain ⟨Ad, c, rfl, hf, hlk, hlc, hrow⟩ := hv.open_
  simp only [T.k_nd, T.n_nd, T.s_nd, T.ks_nd] at *
  have hlk' := LK_int hlk
  clear hf hv hlk hrow hlc ihB
  by_cases hnb : plainB n s = true
  · go_enter Try.func34, Try.ntmps34
    go_wp2_with fail
    refine (plain_any _ _ _ _ _ _ _).mono ?_
    rintro e w1 ⟨rfl, hb1⟩
    obtain ⟨hc1, hf1⟩ := bcell hb1
    have hbb : Below w.heap.size w w1 := ((Below.refl _ _).alloc (Nat.le_refl _) _).trans (hb1.mono (by simp))
    go_wp2_with fail
    refine (kids_any (.nd 48 n s ks) _ _ (HV.out.later (hbb.alloc hbb.size _)) _ 1 (fun _ => 50) (fun _ => Try.f50) (fun _ => isP) (by decide) (by simp) (fun i hi => fcell (by rcases i with _ | _ | _ | _ | i <;> first | omega | rfl)) (fun _ _ => fnIsPlace) (fun hl i hi => IsPlace_any _)).mono ?_
    rintro e w2 ⟨rfl, hb2⟩
    have hbc : Below w.heap.size w w2 := (hbb.alloc hbb.size _).trans (hb2.mono (by have := hbb.size; simp; omega))
    go_wp2_with fail
    go_ret
    exact ⟨by rw [HX.out]; simp [*], hbc⟩
  · have hnb' : plainB n s = false := by simpa using hnb
    clear hnb
    go_enter Try.func34, Try.ntmps34
    go_wp2_with fail
    refine (plain_any _ _ _ _ _ _ _).mono ?_
    rintro e w1 ⟨rfl, hb1⟩
    have hbb : Below w.heap.size w w1 := ((Below.refl _ _).alloc (Nat.le_refl _) _).trans (hb1.mono (by simp))
    go_wp2_with fail
    go_ret
    exact ⟨by rw [HX.out]; simp [*], hbb⟩

set_option maxHeartbeats 1000000 in
theorem IsStmt_49 (n : Int) (s : ByteArray) (ks : List T) (ihB : ∀ t ∈ ks, BlockC t) : StmtC (.nd 49 n s ks) := by
  intro v w hv
  have HX := Lib.hid (show isS (.nd 49 n s ks) = (plainB n s && kidsB 1 (fun _ => isP) ks) by simp [isS])
  have IH := Lib.hid ihB
  have HV := Lib.hid hv
  obtain ⟨Ad, c, rfl, hf, hlk, hlc, hrow⟩ := hv.open_
  simp only [T.k_nd, T.n_nd, T.s_nd, T.ks_nd] at *
  have hlk' := LK_int hlk
  clear hf hv hlk hrow hlc ihB
  by_cases hnb : plainB n s = true
  · go_enter Try.func34, Try.ntmps34
    go_wp2_with fail
    refine (plain_any _ _ _ _ _ _ _).mono ?_
    rintro e w1 ⟨rfl, hb1⟩
    obtain ⟨hc1, hf1⟩ := bcell hb1
    have hbb : Below w.heap.size w w1 := ((Below.refl _ _).alloc (Nat.le_refl _) _).trans (hb1.mono (by simp))
    go_wp2_with fail
    refine (kids_any (.nd 49 n s ks) _ _ (HV.out.later (hbb.alloc hbb.size _)) _ 1 (fun _ => 50) (fun _ => Try.f50) (fun _ => isP) (by decide) (by simp) (fun i hi => fcell (by rcases i with _ | _ | _ | _ | i <;> first | omega | rfl)) (fun _ _ => fnIsPlace) (fun hl i hi => IsPlace_any _)).mono ?_
    rintro e w2 ⟨rfl, hb2⟩
    have hbc : Below w.heap.size w w2 := (hbb.alloc hbb.size _).trans (hb2.mono (by have := hbb.size; simp; omega))
    go_wp2_with fail
    go_ret
    exact ⟨by rw [HX.out]; simp [*], hbc⟩
  · have hnb' : plainB n s = false := by simpa using hnb
    clear hnb
    go_enter Try.func34, Try.ntmps34
    go_wp2_with fail
    refine (plain_any _ _ _ _ _ _ _).mono ?_
    rintro e w1 ⟨rfl, hb1⟩
    have hbb : Below w.heap.size w w1 := ((Below.refl _ _).alloc (Nat.le_refl _) _).trans (hb1.mono (by simp))
    go_wp2_with fail
    go_ret
    exact ⟨by rw [HX.out]; simp [*], hbb⟩

set_option maxHeartbeats 1000000 in
theorem IsStmt_52 (n : Int) (s : ByteArray) (ks : List T) (ihB : ∀ t ∈ ks, BlockC t) : StmtC (.nd 52 n s ks) := by
  intro v w hv
  have HX := Lib.hid (show isS (.nd 52 n s ks) = (plainB n s && kidsB 4 (pEB 0) ks) by simp [isS, kidsB, ← isEB_eq])
  have IH := Lib.hid ihB
  have HV := Lib.hid hv
  obtain ⟨Ad, c, rfl, hf, hlk, hlc, hrow⟩ := hv.open_
  simp only [T.k_nd, T.n_nd, T.s_nd, T.ks_nd] at *
  have hlk' := LK_int hlk
  clear hf hv hlk hrow hlc ihB
  by_cases hnb : plainB n s = true
  · go_enter Try.func34, Try.ntmps34
    go_wp2_with fail
    refine (plain_any _ _ _ _ _ _ _).mono ?_
    rintro e w1 ⟨rfl, hb1⟩
    obtain ⟨hc1, hf1⟩ := bcell hb1
    have hbb : Below w.heap.size w w1 := ((Below.refl _ _).alloc (Nat.le_refl _) _).trans (hb1.mono (by simp))
    go_wp2_with fail
    refine (kids_any (.nd 52 n s ks) _ _ (HV.out.later (hbb.alloc hbb.size _)) _ 4 (fun i => if i = 0 ∨ i = 3 then 51 else 55) (fun i => if i = 0 ∨ i = 3 then Try.f51 else Try.f55) (pEB 0) (by decide) (by simp) (fun i hi => fcell (by rcases i with _ | _ | _ | _ | i <;> first | omega | rfl)) (fun i hi => by rcases i with _ | _ | _ | _ | i; exact fnIsExpr; exact fnIsBlock; exact fnIsBlock; exact fnIsExpr; omega) (fun hl i hi => by rcases i with _ | _ | _ | _ | i; exact IsExpr_any _; exact IH.out _ (List.getElem_mem hi); exact IH.out _ (List.getElem_mem hi); exact IsExpr_any _; exact absurd hi (by simp only [T.ks_nd] at hl ⊢; omega))).mono ?_
    rintro e w2 ⟨rfl, hb2⟩
    have hbc : Below w.heap.size w w2 := (hbb.alloc hbb.size _).trans (hb2.mono (by have := hbb.size; simp; omega))
    go_wp2_with fail
    go_ret
    exact ⟨by rw [HX.out]; simp [*], hbc⟩
  · have hnb' : plainB n s = false := by simpa using hnb
    clear hnb
    go_enter Try.func34, Try.ntmps34
    go_wp2_with fail
    refine (plain_any _ _ _ _ _ _ _).mono ?_
    rintro e w1 ⟨rfl, hb1⟩
    have hbb : Below w.heap.size w w1 := ((Below.refl _ _).alloc (Nat.le_refl _) _).trans (hb1.mono (by simp))
    go_wp2_with fail
    go_ret
    exact ⟨by rw [HX.out]; simp [*], hbb⟩

set_option maxHeartbeats 1000000 in
theorem IsStmt_53 (n : Int) (s : ByteArray) (ks : List T) (ihB : ∀ t ∈ ks, BlockC t) : StmtC (.nd 53 n s ks) := by
  intro v w hv
  have HX := Lib.hid (show isS (.nd 53 n s ks) = (plainB n s && kidsB 4 (pEB 0) ks) by simp [isS, kidsB, ← isEB_eq])
  have IH := Lib.hid ihB
  have HV := Lib.hid hv
  obtain ⟨Ad, c, rfl, hf, hlk, hlc, hrow⟩ := hv.open_
  simp only [T.k_nd, T.n_nd, T.s_nd, T.ks_nd] at *
  have hlk' := LK_int hlk
  clear hf hv hlk hrow hlc ihB
  by_cases hnb : plainB n s = true
  · go_enter Try.func34, Try.ntmps34
    go_wp2_with fail
    refine (plain_any _ _ _ _ _ _ _).mono ?_
    rintro e w1 ⟨rfl, hb1⟩
    obtain ⟨hc1, hf1⟩ := bcell hb1
    have hbb : Below w.heap.size w w1 := ((Below.refl _ _).alloc (Nat.le_refl _) _).trans (hb1.mono (by simp))
    go_wp2_with fail
    refine (kids_any (.nd 53 n s ks) _ _ (HV.out.later (hbb.alloc hbb.size _)) _ 4 (fun i => if i = 0 ∨ i = 3 then 51 else 55) (fun i => if i = 0 ∨ i = 3 then Try.f51 else Try.f55) (pEB 0) (by decide) (by simp) (fun i hi => fcell (by rcases i with _ | _ | _ | _ | i <;> first | omega | rfl)) (fun i hi => by rcases i with _ | _ | _ | _ | i; exact fnIsExpr; exact fnIsBlock; exact fnIsBlock; exact fnIsExpr; omega) (fun hl i hi => by rcases i with _ | _ | _ | _ | i; exact IsExpr_any _; exact IH.out _ (List.getElem_mem hi); exact IH.out _ (List.getElem_mem hi); exact IsExpr_any _; exact absurd hi (by simp only [T.ks_nd] at hl ⊢; omega))).mono ?_
    rintro e w2 ⟨rfl, hb2⟩
    have hbc : Below w.heap.size w w2 := (hbb.alloc hbb.size _).trans (hb2.mono (by have := hbb.size; simp; omega))
    go_wp2_with fail
    go_ret
    exact ⟨by rw [HX.out]; simp [*], hbc⟩
  · have hnb' : plainB n s = false := by simpa using hnb
    clear hnb
    go_enter Try.func34, Try.ntmps34
    go_wp2_with fail
    refine (plain_any _ _ _ _ _ _ _).mono ?_
    rintro e w1 ⟨rfl, hb1⟩
    have hbb : Below w.heap.size w w1 := ((Below.refl _ _).alloc (Nat.le_refl _) _).trans (hb1.mono (by simp))
    go_wp2_with fail
    go_ret
    exact ⟨by rw [HX.out]; simp [*], hbb⟩

set_option maxHeartbeats 1000000 in
theorem IsStmt_54 (n : Int) (s : ByteArray) (ks : List T) (ihB : ∀ t ∈ ks, BlockC t) : StmtC (.nd 54 n s ks) := by
  intro v w hv
  have HX := Lib.hid (show isS (.nd 54 n s ks) = (namedB n s && kidsB 3 (pEB 4) ks) by simp [isS, kidsB, ← isEB_eq])
  have IH := Lib.hid ihB
  have HV := Lib.hid hv
  obtain ⟨Ad, c, rfl, hf, hlk, hlc, hrow⟩ := hv.open_
  simp only [T.k_nd, T.n_nd, T.s_nd, T.ks_nd] at *
  have hlk' := LK_int hlk
  clear hf hv hlk hrow hlc ihB
  by_cases hnb : namedB n s = true
  · go_enter Try.func34, Try.ntmps34
    go_wp2_with fail
    refine (named_any _ _ _ _ _ _ _).mono ?_
    rintro e w1 ⟨rfl, hb1⟩
    obtain ⟨hc1, hf1⟩ := bcell hb1
    have hbb : Below w.heap.size w w1 := ((Below.refl _ _).alloc (Nat.le_refl _) _).trans (hb1.mono (by simp))
    go_wp2_with fail
    refine (kids_any (.nd 54 n s ks) _ _ (HV.out.later (hbb.alloc hbb.size _)) _ 3 (fun i => if i = 1 then 55 else 51) (fun i => if i = 1 then Try.f55 else Try.f51) (pEB 4) (by decide) (by simp) (fun i hi => fcell (by rcases i with _ | _ | _ | _ | i <;> first | omega | rfl)) (fun i hi => by rcases i with _ | _ | _ | i; exact fnIsExpr; exact fnIsBlock; exact fnIsExpr; omega) (fun hl i hi => by rcases i with _ | _ | _ | i; exact IsExpr_any _; exact IH.out _ (List.getElem_mem hi); exact IsExpr_any _; exact absurd hi (by simp only [T.ks_nd] at hl ⊢; omega))).mono ?_
    rintro e w2 ⟨rfl, hb2⟩
    have hbc : Below w.heap.size w w2 := (hbb.alloc hbb.size _).trans (hb2.mono (by have := hbb.size; simp; omega))
    go_wp2_with fail
    go_ret
    exact ⟨by rw [HX.out]; simp [*], hbc⟩
  · have hnb' : namedB n s = false := by simpa using hnb
    clear hnb
    go_enter Try.func34, Try.ntmps34
    go_wp2_with fail
    refine (named_any _ _ _ _ _ _ _).mono ?_
    rintro e w1 ⟨rfl, hb1⟩
    have hbb : Below w.heap.size w w1 := ((Below.refl _ _).alloc (Nat.le_refl _) _).trans (hb1.mono (by simp))
    go_wp2_with fail
    go_ret
    exact ⟨by rw [HX.out]; simp [*], hbb⟩

set_option maxHeartbeats 1000000 in
theorem IsStmt_55 (n : Int) (s : ByteArray) (ks : List T) (ihB : ∀ t ∈ ks, BlockC t) : StmtC (.nd 55 n s ks) := by
  intro v w hv
  have HX := Lib.hid (show isS (.nd 55 n s ks) = (namedB n s && kidsB 1 (pEB 7) ks) by simp [isS, kidsB, ← isEB_eq])
  have IH := Lib.hid ihB
  have HV := Lib.hid hv
  obtain ⟨Ad, c, rfl, hf, hlk, hlc, hrow⟩ := hv.open_
  simp only [T.k_nd, T.n_nd, T.s_nd, T.ks_nd] at *
  have hlk' := LK_int hlk
  clear hf hv hlk hrow hlc ihB
  by_cases hnb : namedB n s = true
  · go_enter Try.func34, Try.ntmps34
    go_wp2_with fail
    refine (named_any _ _ _ _ _ _ _).mono ?_
    rintro e w1 ⟨rfl, hb1⟩
    obtain ⟨hc1, hf1⟩ := bcell hb1
    have hbb : Below w.heap.size w w1 := ((Below.refl _ _).alloc (Nat.le_refl _) _).trans (hb1.mono (by simp))
    go_wp2_with fail
    refine (kids_any (.nd 55 n s ks) _ _ (HV.out.later (hbb.alloc hbb.size _)) _ 1 (fun _ => 55) (fun _ => Try.f55) (pEB 7) (by decide) (by simp) (fun i hi => fcell (by rcases i with _ | _ | _ | _ | i <;> first | omega | rfl)) (fun _ _ => fnIsBlock) (fun hl i hi => by rcases i with _ | i; exact IH.out _ (List.getElem_mem hi); exact absurd hi (by simp only [T.ks_nd] at hl ⊢; omega))).mono ?_
    rintro e w2 ⟨rfl, hb2⟩
    have hbc : Below w.heap.size w w2 := (hbb.alloc hbb.size _).trans (hb2.mono (by have := hbb.size; simp; omega))
    go_wp2_with fail
    go_ret
    exact ⟨by rw [HX.out]; simp [*], hbc⟩
  · have hnb' : namedB n s = false := by simpa using hnb
    clear hnb
    go_enter Try.func34, Try.ntmps34
    go_wp2_with fail
    refine (named_any _ _ _ _ _ _ _).mono ?_
    rintro e w1 ⟨rfl, hb1⟩
    have hbb : Below w.heap.size w w1 := ((Below.refl _ _).alloc (Nat.le_refl _) _).trans (hb1.mono (by simp))
    go_wp2_with fail
    go_ret
    exact ⟨by rw [HX.out]; simp [*], hbb⟩

set_option maxHeartbeats 1000000 in
theorem IsStmt_50 (n : Int) (s : ByteArray) (ks : List T) : StmtC (.nd 50 n s ks) := by
  intro v w hv
  have HX := Lib.hid (show isS (.nd 50 n s ks) = (namedB n s && decide (ks.length ≤ 8) && kidsFrom (fun _ => isV) 0 ks) by simp [isS])
  have HV := Lib.hid hv
  obtain ⟨Ad, c, rfl, hf, hlk, hlc, hrow⟩ := hv.open_
  simp only [T.k_nd, T.n_nd, T.s_nd, T.ks_nd] at *
  have hlk' := LK_int hlk
  clear hf hv hlc
  by_cases hnb : namedB n s = true
  · by_cases hl8 : ks.length ≤ 8
    · go_enter Try.func34, Try.ntmps34
      go_wp2_with fail
      refine (named_any _ _ _ _ _ _ _).mono ?_
      rintro e w1 ⟨rfl, hb1⟩
      obtain ⟨hc1, hf1⟩ := bcell hb1
      have hbb : Below w.heap.size w w1 := ((Below.refl _ _).alloc (Nat.le_refl _) _).trans (hb1.mono (by simp))
      go_wp2_with fail
      refine (every_any ks _ _ _ (hrow.later hbb) hlk _ _ fnIsVar isV (fun i hi => isVar_any _)).mono ?_
      rintro e w2 ⟨rfl, hb2⟩
      have hbc : Below w.heap.size w w2 := hbb.trans (hb2.mono hbb.size)
      go_wp2_with fail
      go_ret
      exact ⟨by rw [HX.out]; simp [*], hbc⟩
    · have hl9 : 8 < ks.length := by omega
      clear hl8
      go_enter Try.func34, Try.ntmps34
      go_wp2_with fail
      refine (named_any _ _ _ _ _ _ _).mono ?_
      rintro e w1 ⟨rfl, hb1⟩
      obtain ⟨hc1, hf1⟩ := bcell hb1
      have hbb : Below w.heap.size w w1 := ((Below.refl _ _).alloc (Nat.le_refl _) _).trans (hb1.mono (by simp))
      go_wp2_with fail
      go_ret
      exact ⟨by rw [HX.out]; simp [show ¬ ks.length ≤ 8 by omega], hbb⟩
  · have hnb' : namedB n s = false := by simpa using hnb
    clear hnb
    go_enter Try.func34, Try.ntmps34
    go_wp2_with fail
    refine (named_any _ _ _ _ _ _ _).mono ?_
    rintro e w1 ⟨rfl, hb1⟩
    have hbb : Below w.heap.size w w1 := ((Below.refl _ _).alloc (Nat.le_refl _) _).trans (hb1.mono (by simp))
    go_wp2_with fail
    go_ret
    exact ⟨by rw [HX.out]; simp [*], hbb⟩

set_option maxHeartbeats 1000000 in
theorem IsStmt_51 (n : Int) (s : ByteArray) (ks : List T) : StmtC (.nd 51 n s ks) := by
  intro v w hv
  have HX := Lib.hid (show isS (.nd 51 n s ks) = (namedB n s && decide (ks.length ≤ 8) && kidsFrom (fun _ => isV) 0 ks) by simp [isS])
  have HV := Lib.hid hv
  obtain ⟨Ad, c, rfl, hf, hlk, hlc, hrow⟩ := hv.open_
  simp only [T.k_nd, T.n_nd, T.s_nd, T.ks_nd] at *
  have hlk' := LK_int hlk
  clear hf hv hlc
  by_cases hnb : namedB n s = true
  · by_cases hl8 : ks.length ≤ 8
    · go_enter Try.func34, Try.ntmps34
      go_wp2_with fail
      refine (named_any _ _ _ _ _ _ _).mono ?_
      rintro e w1 ⟨rfl, hb1⟩
      obtain ⟨hc1, hf1⟩ := bcell hb1
      have hbb : Below w.heap.size w w1 := ((Below.refl _ _).alloc (Nat.le_refl _) _).trans (hb1.mono (by simp))
      go_wp2_with fail
      refine (every_any ks _ _ _ (hrow.later hbb) hlk _ _ fnIsVar isV (fun i hi => isVar_any _)).mono ?_
      rintro e w2 ⟨rfl, hb2⟩
      have hbc : Below w.heap.size w w2 := hbb.trans (hb2.mono hbb.size)
      go_wp2_with fail
      go_ret
      exact ⟨by rw [HX.out]; simp [*], hbc⟩
    · have hl9 : 8 < ks.length := by omega
      clear hl8
      go_enter Try.func34, Try.ntmps34
      go_wp2_with fail
      refine (named_any _ _ _ _ _ _ _).mono ?_
      rintro e w1 ⟨rfl, hb1⟩
      obtain ⟨hc1, hf1⟩ := bcell hb1
      have hbb : Below w.heap.size w w1 := ((Below.refl _ _).alloc (Nat.le_refl _) _).trans (hb1.mono (by simp))
      go_wp2_with fail
      go_ret
      exact ⟨by rw [HX.out]; simp [show ¬ ks.length ≤ 8 by omega], hbb⟩
  · have hnb' : namedB n s = false := by simpa using hnb
    clear hnb
    go_enter Try.func34, Try.ntmps34
    go_wp2_with fail
    refine (named_any _ _ _ _ _ _ _).mono ?_
    rintro e w1 ⟨rfl, hb1⟩
    have hbb : Below w.heap.size w w1 := ((Below.refl _ _).alloc (Nat.le_refl _) _).trans (hb1.mono (by simp))
    go_wp2_with fail
    go_ret
    exact ⟨by rw [HX.out]; simp [*], hbb⟩

set_option maxHeartbeats 1000000 in
theorem IsStmt_not (k n : Int) (s : ByteArray) (ks : List T) (n40 : (k == 40) = false) (n41 : (k == 41) = false) (n42 : (k == 42) = false) (n43 : (k == 43) = false) (n44 : (k == 44) = false) (n45 : (k == 45) = false) (n46 : (k == 46) = false) (n47 : (k == 47) = false) (n48 : (k == 48) = false) (n49 : (k == 49) = false) (n50 : (k == 50) = false) (n51 : (k == 51) = false) (n52 : (k == 52) = false) (n53 : (k == 53) = false) (n54 : (k == 54) = false) (n55 : (k == 55) = false) (n56 : (k == 56) = false) : StmtC (.nd k n s ks) := by
  intro v w hv
  obtain ⟨Ad, c, rfl, hf, hlk, hlc, hrow⟩ := hv.open_
  simp only [T.k_nd, T.n_nd, T.s_nd, T.ks_nd] at *
  have hlk' := LK_int hlk
  have HX := Lib.hid (show isS (.nd k n s ks) = false by
    simp only [beq_eq_false_iff_ne, ne_eq] at n40 n41 n42 n43 n44 n45 n46 n47 n48 n49 n50 n51 n52 n53 n54 n55 n56
    rw [isS, if_neg (by omega), if_neg (by omega), if_neg (by omega), if_neg (by omega), if_neg (by omega), if_neg (by omega), if_neg (by omega), if_neg (by omega)])
  clear hf hv hlk hrow hlc
  go_enter Try.func34, Try.ntmps34
  go_wp2
  go_ret
  exact ⟨by rw [HX.out]; rfl, (Below.refl _ _).alloc (Nat.le_refl _) _⟩

set_option maxHeartbeats 1000000 in
theorem IsBlock_of (k n : Int) (s : ByteArray) (ks : List T) (ih : ∀ t ∈ ks, StmtC t) : BlockC (.nd k n s ks) := by
  intro v w hv
  have HX := Lib.hid (show isB (.nd k n s ks) = ((k == 57) && plainB n s && kidsFrom (fun _ => isS) 0 ks) by rw [isB, isSs_eq 0]; rfl)
  have IH := Lib.hid ih
  obtain ⟨Ad, c, rfl, hf, hlk, hlc, hrow⟩ := hv.open_
  simp only [T.k_nd, T.n_nd, T.s_nd, T.ks_nd] at *
  have hlk' := LK_int hlk
  clear hf hv hlc ih
  by_cases hk : (k == 57) = true
  · by_cases hnb : plainB n s = true
    · go_enter Try.func55, Try.ntmps55
      go_wp2_with fail
      refine (plain_any _ _ _ _ _ _ _).mono ?_
      rintro e w1 ⟨rfl, hb1⟩
      obtain ⟨hc1, hf1⟩ := bcell hb1
      have hbb : Below w.heap.size w w1 := ((Below.refl _ _).alloc (Nat.le_refl _) _).trans (hb1.mono (by simp))
      go_wp2_with fail
      refine (every_any ks _ _ _ (hrow.later hbb) hlk _ _ fnIsStmt isS (fun i hi => IH.out _ (List.getElem_mem hi))).mono ?_
      rintro e w2 ⟨rfl, hb2⟩
      have hbc : Below w.heap.size w w2 := hbb.trans (hb2.mono hbb.size)
      go_wp2_with fail
      go_ret
      exact ⟨by rw [HX.out]; simp [*], hbc⟩
    · have hnb' : plainB n s = false := by simpa using hnb
      clear hnb
      go_enter Try.func55, Try.ntmps55
      go_wp2_with fail
      refine (plain_any _ _ _ _ _ _ _).mono ?_
      rintro e w1 ⟨rfl, hb1⟩
      have hbb : Below w.heap.size w w1 := ((Below.refl _ _).alloc (Nat.le_refl _) _).trans (hb1.mono (by simp))
      go_wp2_with fail
      go_ret
      exact ⟨by rw [HX.out]; simp [*], hbb⟩
  · have hk' : (k == 57) = false := by simpa using hk
    clear hk
    go_enter Try.func55, Try.ntmps55
    go_wp2_with fail
    go_ret
    exact ⟨by rw [HX.out]; simp [*], (Below.refl _ _).alloc (Nat.le_refl _) _⟩

theorem both_any (t : T) : StmtC t ∧ BlockC t := by
  induction t using T.ind with
  | _ k n s ks ih =>
  have ihS : ∀ t ∈ ks, StmtC t := fun t ht => (ih t ht).1
  have ihB : ∀ t ∈ ks, BlockC t := fun t ht => (ih t ht).2
  refine ⟨?_, IsBlock_of k n s ks ihS⟩

  by_cases h40 : k = 40
  · subst h40; exact IsStmt_40 n s ks ihB
  by_cases h41 : k = 41
  · subst h41; exact IsStmt_41 n s ks ihB
  by_cases h42 : k = 42
  · subst h42; exact IsStmt_42 n s ks ihB
  by_cases h43 : k = 43
  · subst h43; exact IsStmt_43 n s ks ihB
  by_cases h44 : k = 44
  · subst h44; exact IsStmt_44 n s ks ihB
  by_cases h45 : k = 45
  · subst h45; exact IsStmt_45 n s ks ihB
  by_cases h46 : k = 46
  · subst h46; exact IsStmt_46 n s ks ihB
  by_cases h47 : k = 47
  · subst h47; exact IsStmt_47 n s ks ihB
  by_cases h48 : k = 48
  · subst h48; exact IsStmt_48 n s ks ihB
  by_cases h49 : k = 49
  · subst h49; exact IsStmt_49 n s ks ihB
  by_cases h50 : k = 50
  · subst h50; exact IsStmt_50 n s ks
  by_cases h51 : k = 51
  · subst h51; exact IsStmt_51 n s ks
  by_cases h52 : k = 52
  · subst h52; exact IsStmt_52 n s ks ihB
  by_cases h53 : k = 53
  · subst h53; exact IsStmt_53 n s ks ihB
  by_cases h54 : k = 54
  · subst h54; exact IsStmt_54 n s ks ihB
  by_cases h55 : k = 55
  · subst h55; exact IsStmt_55 n s ks ihB
  by_cases h56 : k = 56
  · subst h56; exact IsStmt_56 n s ks ihB
  exact IsStmt_not k n s ks (by simpa using h40) (by simpa using h41) (by simpa using h42) (by simpa using h43) (by simpa using h44) (by simpa using h45) (by simpa using h46) (by simpa using h47) (by simpa using h48) (by simpa using h49) (by simpa using h50) (by simpa using h51) (by simpa using h52) (by simpa using h53) (by simpa using h54) (by simpa using h55) (by simpa using h56)

theorem IsStmt_any (t : T) : StmtC t := (both_any t).1
theorem IsBlock_any (t : T) : BlockC t := (both_any t).2

end Go.Proofs.Ytekjfbnggfbfhaa
