/-
  The contract of the reference's Equal.
-/
import Derived.Test.YtldcjboignbfpaaEqual
namespace Go.Proofs.Ytldcjboignbfpaa
open Go.RowKit

set_option maxHeartbeats 2000000 in
theorem refEqual_any (a : T) : ∀ b, EqC 18 a b := by
  induction a using T.ind with
  | _ k n s ks ih =>
  rintro ⟨k', n', s', ks'⟩ v1 v2 w hv1 hv2
  obtain ⟨A, c, rfl, hf, hlk, hlc, hrow⟩ := hv1.open_
  obtain ⟨A', c', rfl, hf', hlk2, hlc', hrow'⟩ := hv2.open_
  simp only [T.k_nd, T.n_nd, T.s_nd, T.ks_nd] at *
  have IH := Lib.hid ih
  have hlk' := LK_int hlk
  have hlk2' := LK_int hlk2
  clear ih hf hf' hlc hlc' hv1 hv2 hlk hlk2
  have hb0 : ∀ o o', Below w.heap.size w ((w.alloc o).alloc o') := fun o o' => ((Below.refl _ _).alloc (Nat.le_refl _) _).alloc (by simp) _
  have HB := Lib.hid hb0
  clear hb0
  have HX := Lib.hid (show teq (.nd k n s ks) (.nd k' n' s' ks') = (k == k' && n == n' && s.toList == s'.toList && teqs ks ks') by rw [teq])
  by_cases h1 : (k == k') = true
  · have h1' : (k != k') = false := by simpa [bne] using h1
    by_cases h2 : (n == n') = true
    · have h2' : (n != n') = false := by simpa [bne] using h2
      by_cases h3 : (s.toList == s'.toList) = true
      · have h3' : (s.toList != s'.toList) = false := by simpa [bne] using h3
        by_cases hl : ks.length = ks'.length
        · have HL := Lib.hid hl
          have h5 : ((ks.length : Int) != (ks'.length : Int)) = false := by simp [hl]
          have h6 : (ks.length != ks'.length) = false := by simp [hl]
          have h7 : ks.length ≤ ks'.length := by omega
          have HX2 := Lib.hid (show teq (.nd k n s ks) (.nd k' n' s' ks') = teqs ks ks' by rw [HX.out]; simp [h1, h2, h3])
          clear hl HX
          go_enter Try.func18, Try.ntmps18
          go_wp2
          go_loopw [4, 5] (fun r i wr => ∃ j : Nat, j ≤ ks.length ∧ i = .int .i64 j ∧ r = .bool false ∧ Hid (∀ q (h : q < ks.length) (h' : q < ks'.length), q < j → teq ks[q] ks'[q] = true) ∧
            Below (w.heap.size + 2) ((w.alloc (.cells #[.int .u8 k, .int .i64 n, .string s, .slice A ks.length c] 24)).alloc (.cells #[.int .u8 k', .int .i64 n', .string s', .slice A' ks'.length c'] 24)) wr) (fun _ i _ => ks.length - (intOf i).toNat)
          case atStart => exact ⟨0, Nat.zero_le _, rfl, rfl, fun q hq _ h => by omega, Below.refl _ _⟩
          case round =>
            obtain ⟨j, hj, rfl, rfl, HP, hb⟩ := hrel
            have hbl : Below w.heap.size w wr := (HB.out _ _).trans (hb.mono (by omega))
            have g3 : wr.cell? ⟨w.heap.size, 3, none⟩ = some (.slice A ks.length c) := (hb.cell (p := ⟨w.heap.size, 3, none⟩) (by simp)).trans (by simp)
            have f3 : wr.cell? ⟨w.heap.size + 1, 3, none⟩ = some (.slice A' ks'.length c') := (hb.cell (p := ⟨w.heap.size + 1, 3, none⟩) (by simp)).trans (by simp)
            have hsz : w.heap.size + 2 ≤ wr.heap.size := by have := hb.size; simpa using this
            by_cases hlt : j < ks.length
            · have hlt2 : j < ks'.length := by omega
              obtain ⟨a, t, A1, c1, rfl, _, Ht, hc, hn⟩ := (hrow.later hbl).nd hlt
              obtain ⟨a2, t2, A2, c2, rfl, _, Ht2, hd, hn2⟩ := (hrow'.later hbl).nd hlt2
              have h0 := IH.out _ (List.getElem_mem hlt) ks'[j]
              rw [Ht.out, Ht2.out] at h0
              have H0 := Lib.hid h0
              clear h0 hrow hrow'
              have i1 : (0 : Int) ≤ (j : Int) := by omega
              have i2 : (j : Int) < (ks.length : Int) := by omega
              have i3 : (j : Int) < (ks'.length : Int) := by omega
              have HS : ∀ w', Below wr.heap.size wr w' → (w'.cell? ⟨w.heap.size, 3, none⟩ = some (.slice (some a) ks.length c) ∧ w'.cell? ⟨w.heap.size + 1, 3, none⟩ = some (.slice (some a2) ks'.length c') ∧ Nd4 w' (a.add (j * 4)) t A1 c1 ∧ Nd4 w' (a2.add (j * 4)) t2 A2 c2) :=
                fun w' h => ⟨cell_bl h g3, cell_bl h f3, Nd4_bl h hc, Nd4_bl h hd⟩
              have HS1 := Lib.hid HS
              clear HS
              go_wp2_with fail
              go_region_held3 (fun w' => (w'.cell? ⟨w.heap.size, 3, none⟩ = some (.slice (some a) ks.length c) ∧ w'.cell? ⟨w.heap.size + 1, 3, none⟩ = some (.slice (some a2) ks'.length c') ∧ Nd4 w' (a.add (j * 4)) t A1 c1 ∧ Nd4 w' (a2.add (j * 4)) t2 A2 c2))
                (first | exact HS1.out _ (Below.refl _ _).drew | exact HS1.out _ ((Below.refl _ _).drew.trans hb1))
                (first | (go_at_call 18; refine (H0.out _ _ _ (hn.later (Below.refl _ _).drew) (hn2.later (Below.refl _ _).drew)).mono ?_; rintro e w1 ⟨rfl, hb1⟩))
              rename_i hheld
              clear hheld
              have hb2 : Below wr.heap.size wr w1 := (Below.refl _ _).drew.trans hb1
              cases hp : teq t t2
              · go_wp2_with fail
                go_ret
                exact ⟨by rw [HX2.out, teqs_at hlt hlt2 (by rw [Ht.out, Ht2.out]; exact hp)]; rfl, hbl.trans (hb2.mono hbl.size)⟩
              · have HP2 := Lib.hid hp
                clear hp
                go_wp2_with fail
                go_roundw
                case rel =>
                  refine ⟨j + 1, by omega, by go_num, rfl, ?_, hb.trans (hb2.mono hsz)⟩
                  intro q hq hq' hqj
                  by_cases e : q = j
                  · subst e; rw [Ht.out, Ht2.out]; exact HP2.out
                  · exact HP.out q hq hq' (by omega)
                case measure => simp [intOf]; omega
            · have hlt' : ks.length ≤ j := by omega
              go_wp2_with fail
              go_ret
              exact ⟨by rw [HX2.out, teqs_true HL.out (fun q hq hq' => HP.out q hq hq' (by omega))]; rfl, hbl⟩
        · have h5 : ((ks.length : Int) != (ks'.length : Int)) = true := by simp; omega
          have h6 : (ks.length != ks'.length) = true := by simpa using hl
          have HX2 := Lib.hid (show teq (.nd k n s ks) (.nd k' n' s' ks') = false by rw [HX.out, teqs_len hl]; simp)
          clear hl
          go_enter Try.func18, Try.ntmps18
          go_wp2
          go_ret
          exact ⟨by rw [HX2.out]; rfl, HB.out _ _⟩
      · have h3' : (s.toList == s'.toList) = false := by simpa using h3
        clear h3
        go_enter Try.func18, Try.ntmps18
        go_wp2_with fail
        go_ret
        exact ⟨by rw [HX.out]; simp [*], HB.out _ _⟩
    · have h2' : (n == n') = false := by simpa using h2
      have h2'' : (n != n') = true := by simpa [bne] using h2
      clear h2
      go_enter Try.func18, Try.ntmps18
      go_wp2_with fail
      go_ret
      exact ⟨by rw [HX.out]; simp [h2'], HB.out _ _⟩
  · have h1' : (k == k') = false := by simpa using h1
    have h1'' : (k != k') = true := by simpa [bne] using h1
    clear h1
    go_enter Try.func18, Try.ntmps18
    go_wp2_with fail
    go_ret
    exact ⟨by rw [HX.out]; simp [h1'], HB.out _ _⟩

end Go.Proofs.Ytldcjboignbfpaa
