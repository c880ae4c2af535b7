/-
  The contracts of package arith, as far as the checker calls it.
-/
import Derived.Test.YtekjfbnggfbfhaaPi
import Derived.Test.YtekjfbnggfbfhaaLaws
import Derived.Laws.EntriesVeiled
namespace Go.Proofs.Ytekjfbnggfbfhaa
open Go Go.RowKit

/-- 1 for true, 0 for false. -/
def numI (b : Bool) : Int := if b then 1 else 0
set_option maxHeartbeats 2000000 in
theorem number_any (b : Bool) (w : World) : Calls Try.prog 84 #[.bool b] w fun e w' => e = .returned (.int .i64 (numI b)) ∧ w' = w := by
  cases b
  · go_enter Try.func84, Try.ntmps84
    go_wp2_with fail
    go_ret
    exact ⟨rfl, rfl⟩
  · go_enter Try.func84, Try.ntmps84
    go_wp2_with fail
    go_ret
    exact ⟨rfl, rfl⟩

/-- arith.divide: value and error. -/
def divE (k x y : Int) : Int × Int := if y = 0 then (0, 11) else if k = 11 then (wrap64 (x.tdiv y), 0) else (x.tmod y, 0)
set_option maxHeartbeats 2000000 in
theorem divide_any (k x y : Int) (w : World) : Calls Try.prog 85 #[.int .u8 k, .int .i64 x, .int .i64 y] w fun e w' => e = .returned (.tuple #[.int .i64 (divE k x y).1, .int .i64 (divE k x y).2]) ∧ w' = w := by
  by_cases h0 : y = 0
  · subst h0
    rw [show divE k x 0 = (0, 11) by simp [divE]]
    go_enter Try.func85, Try.ntmps85
    go_wp2_with fail
    go_ret2
    exact ⟨rfl, rfl⟩
  · by_cases hk : k = 11
    · subst hk
      rw [show divE 11 x y = (wrap64 (x.tdiv y), 0) by simp [divE, h0]]
      go_enter Try.func85, Try.ntmps85
      go_wp2_with fail
      go_ret2
      exact ⟨rfl, rfl⟩
    · rw [show divE k x y = (x.tmod y, 0) by simp [divE, h0, hk]]
      have hy : (y == 0) = false := by simpa using h0
      have hk' : (k == 11) = false := by simpa using hk
      go_enter Try.func85, Try.ntmps85
      go_wp2_with fail
      go_ret2
      exact ⟨rfl, rfl⟩

/-- arith.Unary: value and error. -/
def unE (k x : Int) : Int × Int := if k = 6 then (wrap64 (-x), 0) else (numI (x == 0), 0)
set_option maxHeartbeats 2000000 in
theorem Unary_any (k x : Int) (hk : k = 6 ∨ k = 7) (w : World) : Calls Try.prog 73 #[.int .u8 k, .int .i64 x] w fun e w' => e = .returned (.tuple #[.int .i64 (unE k x).1, .int .i64 (unE k x).2]) ∧ w' = w := by
  rcases hk with rfl | rfl
  · rw [show unE 6 x = (wrap64 (-x), 0) by simp [unE]]
    go_enter Try.func73, Try.ntmps73
    go_wp2_with fail
    go_ret2
    exact ⟨rfl, rfl⟩
  · rw [show unE 7 x = (numI (x == 0), 0) by simp [unE]]
    go_enter Try.func73, Try.ntmps73
    go_wp2_with fail
    refine (number_any _ w).mono ?_
    rintro e w' ⟨rfl, rfl⟩
    go_wp2_with fail
    go_ret2
    exact ⟨rfl, rfl⟩

/-- arith.Apply: value and error. -/
def apE (k x y : Int) : Int × Int :=
  if k = 8 then (wrap64 (x + y), 0) else
  if k = 9 then (wrap64 (x - y), 0) else
  if k = 10 then (wrap64 (x * y), 0) else
  if k = 11 then divE 11 x y else
  if k = 12 then divE 12 x y else
  if k = 13 then (bits BinOp.and IntKind.i64 x y, 0) else
  if k = 14 then (bits BinOp.or IntKind.i64 x y, 0) else
  if k = 15 then (bits BinOp.xor IntKind.i64 x y, 0) else
  if k = 16 then (numI (x == y), 0) else
  if k = 17 then (numI (x != y), 0) else
  if k = 18 then (numI (decide (x < y)), 0) else
  if k = 19 then (numI (decide (x ≤ y)), 0) else
  if k = 20 then (numI (decide (y < x)), 0) else
  if k = 21 then (numI (decide (y ≤ x)), 0) else
  if k = 22 then (numI (x != 0 && y != 0), 0) else
  if k = 23 then (numI (x != 0 || y != 0), 0) else
  (0, 0)
set_option maxHeartbeats 8000000 in
theorem Apply_any (k x y : Int) (hk : 8 ≤ k ∧ k ≤ 23) (w : World) : Calls Try.prog 74 #[.int .u8 k, .int .i64 x, .int .i64 y] w fun e w' => e = .returned (.tuple #[.int .i64 (apE k x y).1, .int .i64 (apE k x y).2]) ∧ w' = w := by
  have hc : k = 8 ∨ k = 9 ∨ k = 10 ∨ k = 11 ∨ k = 12 ∨ k = 13 ∨ k = 14 ∨ k = 15 ∨ k = 16 ∨ k = 17 ∨ k = 18 ∨ k = 19 ∨ k = 20 ∨ k = 21 ∨ k = 22 ∨ k = 23 := by omega
  clear hk
  rcases hc with rfl | rfl | rfl | rfl | rfl | rfl | rfl | rfl | rfl | rfl | rfl | rfl | rfl | rfl | rfl | rfl
  · rw [show apE 8 x y = (wrap64 (x + y), 0) by simp [apE]]
    go_enter Try.func74, Try.ntmps74
    go_wp2_with fail
    go_ret2
    exact ⟨rfl, rfl⟩
  · rw [show apE 9 x y = (wrap64 (x - y), 0) by simp [apE]]
    go_enter Try.func74, Try.ntmps74
    go_wp2_with fail
    go_ret2
    exact ⟨rfl, rfl⟩
  · rw [show apE 10 x y = (wrap64 (x * y), 0) by simp [apE]]
    go_enter Try.func74, Try.ntmps74
    go_wp2_with fail
    go_ret2
    exact ⟨rfl, rfl⟩
  · rw [show apE 11 x y = divE 11 x y by simp [apE]]
    go_enter Try.func74, Try.ntmps74
    go_wp2_with fail
    refine (divide_any 11 x y w).mono ?_
    rintro e w' ⟨rfl, rfl⟩
    go_wp2_with fail
    go_ret2
    exact ⟨rfl, rfl⟩
  · rw [show apE 12 x y = divE 12 x y by simp [apE]]
    go_enter Try.func74, Try.ntmps74
    go_wp2_with fail
    refine (divide_any 12 x y w).mono ?_
    rintro e w' ⟨rfl, rfl⟩
    go_wp2_with fail
    go_ret2
    exact ⟨rfl, rfl⟩
  · rw [show apE 13 x y = (bits BinOp.and IntKind.i64 x y, 0) by simp [apE]]
    go_enter Try.func74, Try.ntmps74
    go_wp2_with fail
    go_ret2
    exact ⟨rfl, rfl⟩
  · rw [show apE 14 x y = (bits BinOp.or IntKind.i64 x y, 0) by simp [apE]]
    go_enter Try.func74, Try.ntmps74
    go_wp2_with fail
    go_ret2
    exact ⟨rfl, rfl⟩
  · rw [show apE 15 x y = (bits BinOp.xor IntKind.i64 x y, 0) by simp [apE]]
    go_enter Try.func74, Try.ntmps74
    go_wp2_with fail
    go_ret2
    exact ⟨rfl, rfl⟩
  · rw [show apE 16 x y = (numI (x == y), 0) by simp [apE]]
    go_enter Try.func74, Try.ntmps74
    go_wp2_with fail
    refine (number_any _ w).mono ?_
    rintro e w' ⟨rfl, rfl⟩
    go_wp2_with fail
    go_ret2
    exact ⟨rfl, rfl⟩
  · rw [show apE 17 x y = (numI (x != y), 0) by simp [apE]]
    go_enter Try.func74, Try.ntmps74
    go_wp2_with fail
    refine (number_any _ w).mono ?_
    rintro e w' ⟨rfl, rfl⟩
    go_wp2_with fail
    go_ret2
    exact ⟨rfl, rfl⟩
  · rw [show apE 18 x y = (numI (decide (x < y)), 0) by simp [apE]]
    go_enter Try.func74, Try.ntmps74
    go_wp2_with fail
    refine (number_any _ w).mono ?_
    rintro e w' ⟨rfl, rfl⟩
    go_wp2_with fail
    go_ret2
    exact ⟨rfl, rfl⟩
  · rw [show apE 19 x y = (numI (decide (x ≤ y)), 0) by simp [apE]]
    go_enter Try.func74, Try.ntmps74
    go_wp2_with fail
    refine (number_any _ w).mono ?_
    rintro e w' ⟨rfl, rfl⟩
    go_wp2_with fail
    go_ret2
    exact ⟨rfl, rfl⟩
  · rw [show apE 20 x y = (numI (decide (y < x)), 0) by simp [apE]]
    go_enter Try.func74, Try.ntmps74
    go_wp2_with fail
    refine (number_any _ w).mono ?_
    rintro e w' ⟨rfl, rfl⟩
    go_wp2_with fail
    go_ret2
    exact ⟨rfl, rfl⟩
  · rw [show apE 21 x y = (numI (decide (y ≤ x)), 0) by simp [apE]]
    go_enter Try.func74, Try.ntmps74
    go_wp2_with fail
    refine (number_any _ w).mono ?_
    rintro e w' ⟨rfl, rfl⟩
    go_wp2_with fail
    go_ret2
    exact ⟨rfl, rfl⟩
  · rw [show apE 22 x y = (numI (x != 0 && y != 0), 0) by simp [apE]]
    cases hx : (x != 0) <;> cases hy : (y != 0)
    · rw [show (false && false) = false from rfl]
      go_enter Try.func74, Try.ntmps74
      go_wp2_with fail
      refine (number_any false w).mono ?_
      rintro e w' ⟨rfl, rfl⟩
      go_wp2_with fail
      go_ret2
      exact ⟨rfl, rfl⟩
    · rw [show (false && true) = false from rfl]
      go_enter Try.func74, Try.ntmps74
      go_wp2_with fail
      refine (number_any false w).mono ?_
      rintro e w' ⟨rfl, rfl⟩
      go_wp2_with fail
      go_ret2
      exact ⟨rfl, rfl⟩
    · rw [show (true && false) = false from rfl]
      go_enter Try.func74, Try.ntmps74
      go_wp2_with fail
      refine (number_any false w).mono ?_
      rintro e w' ⟨rfl, rfl⟩
      go_wp2_with fail
      go_ret2
      exact ⟨rfl, rfl⟩
    · rw [show (true && true) = true from rfl]
      go_enter Try.func74, Try.ntmps74
      go_wp2_with fail
      refine (number_any true w).mono ?_
      rintro e w' ⟨rfl, rfl⟩
      go_wp2_with fail
      go_ret2
      exact ⟨rfl, rfl⟩
  · rw [show apE 23 x y = (numI (x != 0 || y != 0), 0) by simp [apE]]
    cases hx : (x != 0) <;> cases hy : (y != 0)
    · rw [show (false || false) = false from rfl]
      go_enter Try.func74, Try.ntmps74
      go_wp2_with fail
      refine (number_any false w).mono ?_
      rintro e w' ⟨rfl, rfl⟩
      go_wp2_with fail
      go_ret2
      exact ⟨rfl, rfl⟩
    · rw [show (false || true) = true from rfl]
      go_enter Try.func74, Try.ntmps74
      go_wp2_with fail
      refine (number_any true w).mono ?_
      rintro e w' ⟨rfl, rfl⟩
      go_wp2_with fail
      go_ret2
      exact ⟨rfl, rfl⟩
    · rw [show (true || false) = true from rfl]
      go_enter Try.func74, Try.ntmps74
      go_wp2_with fail
      refine (number_any true w).mono ?_
      rintro e w' ⟨rfl, rfl⟩
      go_wp2_with fail
      go_ret2
      exact ⟨rfl, rfl⟩
    · rw [show (true || true) = true from rfl]
      go_enter Try.func74, Try.ntmps74
      go_wp2_with fail
      refine (number_any true w).mono ?_
      rintro e w' ⟨rfl, rfl⟩
      go_wp2_with fail
      go_ret2
      exact ⟨rfl, rfl⟩

end Go.Proofs.Ytekjfbnggfbfhaa
