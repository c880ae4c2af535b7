/-
  Contracts of lexer.first and lexer.Name.
-/
import Derived.Test.YtekjfbnggfbfhaaLex
namespace Go.Proofs.Ytekjfbnggfbfhaa
open Go.RowKit

def SomeTok (w : World) (e : Ending) (w' : World) : Prop := (∃ k m, k ≠ 1 ∧ e = .returned (.tuple #[.int .u8 k, .int .i64 m])) ∧ w = w'

set_option maxHeartbeats 1000000 in
theorem first_word (s : ByteArray) (w : World) (hs : s.size ≤ 65536) (h0 : 0 < s.size) (hl : letB s[0].toNat = true) :
    Calls Try.prog 70 #[.string s] w fun e w' => e = .returned (.tuple #[.int .u8 1, .int .i64 (spanL aluB s.toList)]) ∧ w = w' := by
  go_enter Try.func70, Try.ntmps70
  go_wp2_with fail
  refine (letter_any _ _).mono ?_
  rintro e w' ⟨rfl, rfl⟩
  go_wp2_with fail
  refine (span_any _ _ fnFirst1 aluB first1_any s _ hs).mono ?_
  rintro e w' ⟨rfl, rfl⟩
  go_wp2_with fail
  go_ret2
  exact ⟨rfl, rfl⟩

set_option maxHeartbeats 1000000 in
theorem first_other (s : ByteArray) (w : World) (hs : s.size ≤ 65536) (h0 : 0 < s.size) (hl : letB s[0].toNat = false) :
    Calls Try.prog 70 #[.string s] w (SomeTok w) := by
  go_enter Try.func70, Try.ntmps70
  go_wp2_with fail
  refine (letter_any _ _).mono ?_
  rintro e w' ⟨rfl, rfl⟩
  go_wp2_with fail
  refine (digit_any _ _).mono ?_
  rintro e w' ⟨rfl, rfl⟩
  cases hd : digB s[0].toNat
  · go_wp2_with fail
    refine (blank_any _ _).mono ?_
    rintro e w' ⟨rfl, rfl⟩
    cases hb : blkB s[0].toNat
    · cases hc : ((s[0].toNat : Int) == 35)
      · go_wp2_with fail
        refine (sign_any s _ hs h0).mono ?_
        rintro e w' ⟨⟨m, rfl⟩, rfl⟩
        go_wp2_with fail
        go_ret2
        exact ⟨⟨3, m, by decide, rfl⟩, rfl⟩
      · go_wp2_with fail
        refine (span_any _ _ fnFirst2 _ first2_any s _ hs).mono ?_
        rintro e w' ⟨rfl, rfl⟩
        go_wp2_with fail
        go_ret2
        exact ⟨⟨5, _, by decide, rfl⟩, rfl⟩
    · go_wp2_with fail
      refine (span_any _ _ fnBlank _ blank_any s _ hs).mono ?_
      rintro e w' ⟨rfl, rfl⟩
      go_wp2_with fail
      go_ret2
      exact ⟨⟨4, _, by decide, rfl⟩, rfl⟩
  · go_wp2_with fail
    refine (span_any _ _ fnDigit _ digit_any s _ hs).mono ?_
    rintro e w' ⟨rfl, rfl⟩
    go_wp2_with fail
    go_ret2
    exact ⟨⟨2, _, by decide, rfl⟩, rfl⟩

/-- lexer.Name, plainly. -/
def nameB (s : ByteArray) : Bool := decide (0 < s.size) && decide (s.size ≤ 16) && (if h : 0 < s.size then letB s[0].toNat else false) && decide (spanL aluB s.toList = s.size) && !(decide (2 ≤ s.size) && decide (s.size ≤ 7) && kwB s)

set_option maxHeartbeats 1000000 in
theorem Name_any (s : ByteArray) (w : World) : Calls Try.prog 64 #[.string s] w fun e w' => e = .returned (.bool (nameB s)) ∧ Below w.heap.size w w' := by
  by_cases hz : s.size = 0
  · have h1 : s.toList = [] := List.eq_nil_of_length_eq_zero (by rw [ba_length]; exact hz)
    have hfin := Lib.hid (show nameB s = false by simp [nameB, hz])
    clear hz
    go_enter Try.func64, Try.ntmps64
    go_wp2_with fail
    go_ret
    exact ⟨by rw [hfin.out]; rfl, Below.refl _ _⟩
  · have h0 : 0 < s.size := by omega
    have h1 : s.toList.isEmpty = false := by
      cases hl : s.toList with
      | nil => have := ba_length s; rw [hl] at this; simp at this; omega
      | cons _ _ => rfl
    have h1' : ¬ s.toList = [] := by intro h; rw [h] at h1; cases h1
    clear hz
    by_cases h16 : s.size ≤ 16
    · cases hl : letB s[0].toNat
      · have hfin := Lib.hid (show nameB s = false by simp [nameB, h0, hl])
        have HL := Lib.hid hl
        clear hl
        go_enter Try.func64, Try.ntmps64
        go_wp2_with fail
        refine (first_other s _ (by omega) h0 HL.out).mono ?_
        rintro e w' ⟨⟨k, m, hk, rfl⟩, rfl⟩
        have hk' : (k == 1) = false := by simpa using hk
        clear hk
        go_wp2_with fail
        go_ret
        exact ⟨by rw [hfin.out]; rfl, Below.refl _ _⟩
      · have HL := Lib.hid hl
        by_cases hsp : spanL aluB s.toList = s.size
        · have hfin := Lib.hid (show nameB s = !(decide (2 ≤ s.size) && decide (s.size ≤ 7) && kwB s) by simp [nameB, h0, hl, h16, hsp])
          have HS := Lib.hid hsp
          clear hl hsp
          go_enter Try.func64, Try.ntmps64
          go_wp2_with fail
          refine (first_word s _ (by omega) h0 HL.out).mono ?_
          rintro e w' ⟨rfl, rfl⟩
          rw [HS.out]
          go_wp2_with fail
          refine (Keyword_any s _ (by omega)).mono ?_
          rintro e w' ⟨rfl, hb⟩
          go_wp2_with fail
          go_ret
          exact ⟨by rw [hfin.out]; simp, hb⟩
        · have hfin := Lib.hid (show nameB s = false by simp [nameB, h0, hl, h16, hsp])
          clear hl
          generalize hm : spanL aluB s.toList = m at *
          have HM := Lib.hid hm
          have hm' : (((m : Nat) : Int) == (s.size : Int)) = false := by simp; omega
          have hm'' : (m == s.size) = false := by simpa using hsp
          clear hm hsp
          go_enter Try.func64, Try.ntmps64
          go_wp2_with fail
          refine (first_word s _ (by omega) h0 HL.out).mono ?_
          rintro e w' ⟨rfl, rfl⟩
          rw [HM.out]
          go_wp2_with fail
          go_ret
          exact ⟨by rw [hfin.out]; rfl, Below.refl _ _⟩
    · have hfin := Lib.hid (show nameB s = false by simp [nameB, h16])
      have h17 : 16 < s.size := by omega
      clear h16
      go_enter Try.func64, Try.ntmps64
      go_wp2_with fail
      go_ret
      exact ⟨by rw [hfin.out]; rfl, Below.refl _ _⟩

end Go.Proofs.Ytekjfbnggfbfhaa
