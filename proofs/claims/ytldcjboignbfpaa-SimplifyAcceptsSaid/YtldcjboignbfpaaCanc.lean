/-
  Contracts of inverter.Stmt and simplify.Cancels.
-/
import Derived.Test.YtldcjboignbfpaaInv
import Derived.Test.YtldcjboignbfpaaAst3
import Derived.Test.YtldcjboignbfpaaEqual
namespace Go.Proofs.Ytldcjboignbfpaa
open Go.RowKit

/-- The inverse and OK. -/
def InvOK (w : World) (t : T) (e : Ending) (w' : World) : Prop := ∃ k n s A l c, e = .returned (.tuple #[nv k n s A l c, .int .i64 0]) ∧ NV w' (From w.heap.size) (inv false t) (nv k n s A l c) ∧ Below w.heap.size w w'

theorem build0 (w : World) : (Instr.build 24 #[]).run Try.prog w = .ok (nv 0 0 ⟨#[]⟩ none 0 0) w := by kernel_rfl

set_option maxHeartbeats 1000000 in
theorem Stmt_ok (t : T) (v : Value) (w : World) (hv : NV w Any t v) (hok : okT t) : Calls Try.prog 16 #[v] w (InvOK w t) := by
  have HV := Lib.hid hv
  have HOK := Lib.hid hok
  have hor : isS t = true ∨ (isS t = false ∧ isB t = true) := by
    rcases hok with h | h
    · exact .inl h
    · cases hs : isS t
      · exact .inr ⟨rfl, h⟩
      · exact .inl rfl
  obtain ⟨A, c, rfl, hf, hlk, hlc, hrow⟩ := hv.open_
  clear hf hlk hrow hv hlc hok
  generalize t.k = k, t.n = n, t.s = s, t.ks.length = l at *
  have hb2 : ∀ o o', Below w.heap.size w ((w.alloc o).alloc o') := fun o o' => ((Below.refl _ _).alloc (Nat.le_refl _) _).alloc (by simp) _
  have HB2 := Lib.hid hb2
  clear hb2
  rcases hor with hs | ⟨hs, hB⟩
  · have hns : (!isS t) = false := by simp [hs]
    go_enter Try.func16, Try.ntmps16
    go_wp2_with fail
    refine (IsStmt_any t _ _ (HV.out.later (HB2.out _ _))).mono ?_
    rintro e w1 ⟨rfl, hb1⟩
    obtain ⟨hc1, hf1⟩ := bcell hb1
    have hbb : Below w.heap.size w w1 := (HB2.out _ _).trans (hb1.mono (by simp; omega))
    go_wp2_with fail
    refine (invert_any false t _ _ (HV.out.later hbb) HOK.out).mono ?_
    rintro e w2 ⟨k1, n1, s1, A1, l1, c1, rfl, hn2, hb2⟩
    have hsz : w.heap.size + 2 ≤ w1.heap.size := by have := hb1.size; simpa using this
    have hc2 : ∀ i u, w1.cell? ⟨w.heap.size + 1, i, none⟩ = some u → w2.cell? ⟨w.heap.size + 1, i, none⟩ = some u := fun i u h => cell_bl hb2 h
    have r0 : w2.cell? ⟨w.heap.size + 1, 0, none⟩ = some (.int .u8 0) := cell_bl hb2 (cell_bl hb1 (by simp))
    have r1 : w2.cell? ⟨w.heap.size + 1, 1, none⟩ = some (.int .i64 0) := cell_bl hb2 (cell_bl hb1 (by simp))
    have r2 : w2.cell? ⟨w.heap.size + 1, 2, none⟩ = some (.string ⟨#[]⟩) := cell_bl hb2 (cell_bl hb1 (by simp))
    have r3 : w2.cell? ⟨w.heap.size + 1, 3, none⟩ = some (.slice none 0 0) := cell_bl hb2 (cell_bl hb1 (by simp))
    have rz : ∀ i, w2.frozen? ⟨w.heap.size + 1, i, none⟩ = false := fun i => by
      rw [hb2.frozen (p := ⟨w.heap.size + 1, i, none⟩) (by simp; omega), hb1.frozen (p := ⟨w.heap.size + 1, i, none⟩) (by simp)]; simp
    clear hc1 hf1 hc2
    go_wp2_with fail
    refine bodyPost_ret (v := .tuple #[nv k1 n1 s1 A1 l1 c1, .int .i64 0]) (by simp [results, Try.results16, go_sem, r0, r1, r2, r3]) rfl ⟨k1, n1, s1, A1, l1, c1, rfl, ?_, ?_⟩
    · refine hn2.keep (fun b hb _ => Nat.le_trans hbb.size hb) fun b hb _ => ?_
      have hb' : w1.heap.size ≤ b := hb
      rw [Below.heap_setCell _ _ _ _ (by simp; omega), Below.heap_setCell _ _ _ _ (by simp; omega), Below.heap_setCell _ _ _ _ (by simp; omega), Below.heap_setCell _ _ _ _ (by simp; omega)]
    · have hx : Below w.heap.size w w2 := hbb.trans (hb2.mono hbb.size)
      exact (((hx.setCell (by simp) _).setCell (by simp) _).setCell (by simp) _).setCell (by simp) _
  · have hns : (!isS t) = true := by simp [hs]
    have hnb : (!isB t) = false := by simp [hB]
    go_enter Try.func16, Try.ntmps16
    go_wp2_with fail
    refine (IsStmt_any t _ _ (HV.out.later (HB2.out _ _))).mono ?_
    rintro e w1 ⟨rfl, hb1⟩
    obtain ⟨hc1, hf1⟩ := bcell hb1
    have hbb : Below w.heap.size w w1 := (HB2.out _ _).trans (hb1.mono (by simp; omega))
    have hsz1 : w.heap.size + 2 ≤ w1.heap.size := by have := hb1.size; simpa using this
    go_wp2_with fail
    refine (IsBlock_any t _ _ (HV.out.later hbb)).mono ?_
    rintro e w3 ⟨rfl, hb3⟩
    have hb13 : Below ((w.alloc (.cells #[.int .u8 k, .int .i64 n, .string s, .slice A l c] 24)).alloc (.cells #[.int .u8 0, .int .i64 0, .string ⟨#[]⟩, .slice none 0 0] 24)).heap.size ((w.alloc (.cells #[.int .u8 k, .int .i64 n, .string s, .slice A l c] 24)).alloc (.cells #[.int .u8 0, .int .i64 0, .string ⟨#[]⟩, .slice none 0 0] 24)) w3 := hb1.trans (hb3.mono (by simpa using hsz1))
    have hbb3 : Below w.heap.size w w3 := hbb.trans (hb3.mono hbb.size)
    clear hc1 hf1
    obtain ⟨hc1, hf1⟩ := bcell hb13
    go_wp2_with fail
    refine (invert_any false t _ _ (HV.out.later hbb3) HOK.out).mono ?_
    rintro e w2 ⟨k1, n1, s1, A1, l1, c1, rfl, hn2, hb2⟩
    have hsz : w.heap.size + 2 ≤ w3.heap.size := by have := hb13.size; simpa using this
    have r0 : w2.cell? ⟨w.heap.size + 1, 0, none⟩ = some (.int .u8 0) := cell_bl hb2 (cell_bl hb13 (by simp))
    have r1 : w2.cell? ⟨w.heap.size + 1, 1, none⟩ = some (.int .i64 0) := cell_bl hb2 (cell_bl hb13 (by simp))
    have r2 : w2.cell? ⟨w.heap.size + 1, 2, none⟩ = some (.string ⟨#[]⟩) := cell_bl hb2 (cell_bl hb13 (by simp))
    have r3 : w2.cell? ⟨w.heap.size + 1, 3, none⟩ = some (.slice none 0 0) := cell_bl hb2 (cell_bl hb13 (by simp))
    have rz : ∀ i, w2.frozen? ⟨w.heap.size + 1, i, none⟩ = false := fun i => by
      rw [hb2.frozen (p := ⟨w.heap.size + 1, i, none⟩) (by simp; omega), hb13.frozen (p := ⟨w.heap.size + 1, i, none⟩) (by simp)]; simp
    clear hc1 hf1
    go_wp2_with fail
    refine bodyPost_ret (v := .tuple #[nv k1 n1 s1 A1 l1 c1, .int .i64 0]) (by simp [results, Try.results16, go_sem, r0, r1, r2, r3]) rfl ⟨k1, n1, s1, A1, l1, c1, rfl, ?_, ?_⟩
    · refine hn2.keep (fun b hb _ => Nat.le_trans hbb3.size hb) fun b hb _ => ?_
      have hb' : w3.heap.size ≤ b := hb
      rw [Below.heap_setCell _ _ _ _ (by simp; omega), Below.heap_setCell _ _ _ _ (by simp; omega), Below.heap_setCell _ _ _ _ (by simp; omega), Below.heap_setCell _ _ _ _ (by simp; omega)]
    · have hx : Below w.heap.size w w2 := hbb3.trans (hb2.mono hbb3.size)
      exact (((hx.setCell (by simp) _).setCell (by simp) _).setCell (by simp) _).setCell (by simp) _

/-- simplify.Cancels. -/
def canc (a b : T) : Bool := isS a && isS b && !(a.k == 56) && teq b (inv false a)

set_option maxHeartbeats 1000000 in
theorem Cancels_any (a b : T) (v1 v2 : Value) (w : World) (hv1 : NV w Any a v1) (hv2 : NV w Any b v2) : Calls Try.prog 14 #[v1, v2] w fun e w' => e = .returned (.bool (canc a b)) ∧ Below w.heap.size w w' := by
  have HV1 := Lib.hid hv1
  have HV2 := Lib.hid hv2
  obtain ⟨A, c, rfl, hf, hlk, hlc, hrow⟩ := hv1.open_
  obtain ⟨A', c', rfl, hf', hlk', hlc', hrow'⟩ := hv2.open_
  clear hf hlk hrow hv1 hlc hf' hlk' hrow' hv2 hlc'
  have HX := Lib.hid (show canc a b = (isS a && isS b && !(a.k == 56) && teq b (inv false a)) from rfl)
  generalize a.k = k, a.n = n, a.s = s, a.ks.length = l at *
  generalize b.k = k', b.n = n', b.s = s', b.ks.length = l' at *
  have hb2 : ∀ o o', Below w.heap.size w ((w.alloc o).alloc o') := fun o o' => ((Below.refl _ _).alloc (Nat.le_refl _) _).alloc (by simp) _
  have HB2 := Lib.hid hb2
  clear hb2
  cases ha : isS a
  · go_enter Try.func14, Try.ntmps14
    go_wp2_with fail
    refine (IsStmt_any a _ _ (HV1.out.later (HB2.out _ _))).mono ?_
    rintro e w1 ⟨rfl, hb1⟩
    have hbb : Below w.heap.size w w1 := (HB2.out _ _).trans (hb1.mono (by simp; omega))
    go_wp2_with fail
    go_ret
    exact ⟨by rw [HX.out]; simp [ha], hbb⟩
  · cases hb : isS b
    · go_enter Try.func14, Try.ntmps14
      go_wp2_with fail
      refine (IsStmt_any a _ _ (HV1.out.later (HB2.out _ _))).mono ?_
      rintro e w1 ⟨rfl, hb1⟩
      have hbb : Below w.heap.size w w1 := (HB2.out _ _).trans (hb1.mono (by simp; omega))
      obtain ⟨hc1, hf1⟩ := bcell hb1
      go_wp2_with fail
      refine (IsStmt_any b _ _ (HV2.out.later hbb)).mono ?_
      rintro e w3 ⟨rfl, hb3⟩
      go_wp2_with fail
      go_ret
      exact ⟨by rw [HX.out]; simp [hb], hbb.trans (hb3.mono hbb.size)⟩
    · cases hk : (k == 56)
      · have HA := Lib.hid ha
        go_enter Try.func14, Try.ntmps14
        go_wp2_with fail
        refine (IsStmt_any a _ _ (HV1.out.later (HB2.out _ _))).mono ?_
        rintro e w1 ⟨rfl, hb1⟩
        have hbb : Below w.heap.size w w1 := (HB2.out _ _).trans (hb1.mono (by simp; omega))
        obtain ⟨hc1, hf1⟩ := bcell hb1
        go_wp2_with fail
        refine (IsStmt_any b _ _ (HV2.out.later hbb)).mono ?_
        rintro e w3 ⟨rfl, hb3⟩
        have hsz1 : w.heap.size + 2 ≤ w1.heap.size := by have := hb1.size; simpa using this
        have hb13 := hb1.trans (hb3.mono (by simpa using hsz1))
        have hbb3 : Below w.heap.size w w3 := hbb.trans (hb3.mono hbb.size)
        clear hc1 hf1
        obtain ⟨hc1, hf1⟩ := bcell hb13
        go_wp2_with fail
        refine (Stmt_ok a _ _ (HV1.out.later hbb3) (.inl HA.out)).mono ?_
        rintro e w4 ⟨k1, n1, s1, A1, l1, c1, rfl, hn4, hb4⟩
        have hsz3 : w.heap.size + 2 ≤ w3.heap.size := by have := hb13.size; simpa using this
        have hb14 := hb13.trans (hb4.mono (by simpa using hsz3))
        have hbb4 : Below w.heap.size w w4 := hbb3.trans (hb4.mono hbb3.size)
        have hsz4 : w.heap.size + 2 ≤ w4.heap.size := by have := hb14.size; simpa using this
        clear hc1 hf1
        obtain ⟨hc1, hf1⟩ := bcell hb14
        have b0 := cell_al (cell_bl hb14 (p := ⟨w.heap.size + 1, 0, none⟩) (u := .int .u8 k') (by simp))
        have b1 := cell_al (cell_bl hb14 (p := ⟨w.heap.size + 1, 1, none⟩) (u := .int .i64 n') (by simp))
        have b2 := cell_al (cell_bl hb14 (p := ⟨w.heap.size + 1, 2, none⟩) (u := .string s') (by simp))
        have b3 := cell_al (cell_bl hb14 (p := ⟨w.heap.size + 1, 3, none⟩) (u := .slice A' l' c') (by simp))
        go_wp2_with fail
        refine (Equal_any b (inv false a) _ _ _ (HV2.out.later (hbb4.alloc hbb4.size _)) (hn4.any.later ((Below.refl _ _).alloc (Nat.le_refl _) _))).mono ?_
        rintro e w5 ⟨rfl, hb5⟩
        go_wp2_with fail
        go_ret
        exact ⟨by rw [HX.out]; simp [ha, hb, hk], (hbb4.alloc hbb4.size _).trans (hb5.mono (by have := hbb4.size; simp; omega))⟩
      · go_enter Try.func14, Try.ntmps14
        go_wp2_with fail
        refine (IsStmt_any a _ _ (HV1.out.later (HB2.out _ _))).mono ?_
        rintro e w1 ⟨rfl, hb1⟩
        have hbb : Below w.heap.size w w1 := (HB2.out _ _).trans (hb1.mono (by simp; omega))
        obtain ⟨hc1, hf1⟩ := bcell hb1
        go_wp2_with fail
        refine (IsStmt_any b _ _ (HV2.out.later hbb)).mono ?_
        rintro e w3 ⟨rfl, hb3⟩
        have hsz1 : w.heap.size + 2 ≤ w1.heap.size := by have := hb1.size; simpa using this
        have hb13 := hb1.trans (hb3.mono (by simpa using hsz1))
        have hbb3 : Below w.heap.size w w3 := hbb.trans (hb3.mono hbb.size)
        clear hc1 hf1
        obtain ⟨hc1, hf1⟩ := bcell hb13
        go_wp2_with fail
        go_ret
        exact ⟨by rw [HX.out]; simp [hk], hbb3⟩

end Go.Proofs.Ytldcjboignbfpaa
