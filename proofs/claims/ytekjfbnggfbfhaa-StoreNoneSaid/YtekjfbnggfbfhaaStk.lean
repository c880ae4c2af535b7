/-
  store: the contracts of needs, basic, inverse.
-/
import Derived.Test.YtekjfbnggfbfhaaPi
namespace Go.Proofs.Ytekjfbnggfbfhaa
open Go Go.RowKit

/-- store.needs. -/
def needE (k : Int) : Int := if k = 2 then 1 else if k = 3 then 2 else if k = 4 ∨ k = 5 ∨ k = 44 ∨ k = 45 then 3 else 0
/-- store.basic. -/
def basB (k : Int) : Bool := decide (40 ≤ k ∧ k ≤ 49)
/-- store.inverse. -/
def invK1 (k : Int) : Int := if k = 40 then 41 else if k = 41 then 40 else if k = 44 then 45 else if k = 45 then 44 else if k = 46 then 47 else if k = 47 then 46 else if k = 48 then 49 else if k = 49 then 48 else k

set_option maxHeartbeats 4000000 in
set_option maxRecDepth 100000 in
theorem needs_any (k : Int) (w : World) : Calls Try.prog 56 #[.int .u8 k] w fun e w' => e = .returned (.int .u8 (needE k)) ∧ w' = w := by
  by_cases e2 : k = 2
  · subst e2
    go_enter Try.func56, Try.ntmps56
    go_wp2_with fail
    go_ret
    exact ⟨rfl, rfl⟩
  by_cases e3 : k = 3
  · subst e3
    go_enter Try.func56, Try.ntmps56
    go_wp2_with fail
    go_ret
    exact ⟨rfl, rfl⟩
  by_cases e4 : k = 4
  · subst e4
    go_enter Try.func56, Try.ntmps56
    go_wp2_with fail
    go_ret
    exact ⟨rfl, rfl⟩
  by_cases e5 : k = 5
  · subst e5
    go_enter Try.func56, Try.ntmps56
    go_wp2_with fail
    go_ret
    exact ⟨rfl, rfl⟩
  by_cases e44 : k = 44
  · subst e44
    go_enter Try.func56, Try.ntmps56
    go_wp2_with fail
    go_ret
    exact ⟨rfl, rfl⟩
  by_cases e45 : k = 45
  · subst e45
    go_enter Try.func56, Try.ntmps56
    go_wp2_with fail
    go_ret
    exact ⟨rfl, rfl⟩
  have x2 : (k == 2) = false := by simpa using e2
  have x3 : (k == 3) = false := by simpa using e3
  have x4 : (k == 4) = false := by simpa using e4
  have x5 : (k == 5) = false := by simpa using e5
  have x44 : (k == 44) = false := by simpa using e44
  have x45 : (k == 45) = false := by simpa using e45
  obtain ⟨R, hR⟩ : ∃ R, needE k = R := ⟨_, rfl⟩
  rw [hR]
  have HR := Lib.hid (show R = 0 by rw [← hR, needE]; rw [if_neg e2, if_neg e3, if_neg (by omega)])
  clear hR e2 e3 e4 e5 e44 e45
  go_enter Try.func56, Try.ntmps56
  go_wp2_with fail
  go_ret
  exact ⟨by rw [HR.out]; rfl, rfl⟩

set_option maxHeartbeats 4000000 in
set_option maxRecDepth 100000 in
theorem basic_any (k : Int) (w : World) : Calls Try.prog 35 #[.int .u8 k] w fun e w' => e = .returned (.bool (basB k)) ∧ w' = w := by
  by_cases e40 : k = 40
  · subst e40
    go_enter Try.func35, Try.ntmps35
    go_wp2_with fail
    go_ret
    exact ⟨rfl, rfl⟩
  by_cases e41 : k = 41
  · subst e41
    go_enter Try.func35, Try.ntmps35
    go_wp2_with fail
    go_ret
    exact ⟨rfl, rfl⟩
  by_cases e42 : k = 42
  · subst e42
    go_enter Try.func35, Try.ntmps35
    go_wp2_with fail
    go_ret
    exact ⟨rfl, rfl⟩
  by_cases e43 : k = 43
  · subst e43
    go_enter Try.func35, Try.ntmps35
    go_wp2_with fail
    go_ret
    exact ⟨rfl, rfl⟩
  by_cases e44 : k = 44
  · subst e44
    go_enter Try.func35, Try.ntmps35
    go_wp2_with fail
    go_ret
    exact ⟨rfl, rfl⟩
  by_cases e45 : k = 45
  · subst e45
    go_enter Try.func35, Try.ntmps35
    go_wp2_with fail
    go_ret
    exact ⟨rfl, rfl⟩
  by_cases e46 : k = 46
  · subst e46
    go_enter Try.func35, Try.ntmps35
    go_wp2_with fail
    go_ret
    exact ⟨rfl, rfl⟩
  by_cases e47 : k = 47
  · subst e47
    go_enter Try.func35, Try.ntmps35
    go_wp2_with fail
    go_ret
    exact ⟨rfl, rfl⟩
  by_cases e48 : k = 48
  · subst e48
    go_enter Try.func35, Try.ntmps35
    go_wp2_with fail
    go_ret
    exact ⟨rfl, rfl⟩
  by_cases e49 : k = 49
  · subst e49
    go_enter Try.func35, Try.ntmps35
    go_wp2_with fail
    go_ret
    exact ⟨rfl, rfl⟩
  have x40 : (k == 40) = false := by simpa using e40
  have x41 : (k == 41) = false := by simpa using e41
  have x42 : (k == 42) = false := by simpa using e42
  have x43 : (k == 43) = false := by simpa using e43
  have x44 : (k == 44) = false := by simpa using e44
  have x45 : (k == 45) = false := by simpa using e45
  have x46 : (k == 46) = false := by simpa using e46
  have x47 : (k == 47) = false := by simpa using e47
  have x48 : (k == 48) = false := by simpa using e48
  have x49 : (k == 49) = false := by simpa using e49
  obtain ⟨R, hR⟩ : ∃ R, basB k = R := ⟨_, rfl⟩
  rw [hR]
  have HR := Lib.hid (show R = false by rw [← hR, basB]; simp; omega)
  clear hR e40 e41 e42 e43 e44 e45 e46 e47 e48 e49
  go_enter Try.func35, Try.ntmps35
  go_wp2_with fail
  go_ret
  exact ⟨by rw [HR.out]; rfl, rfl⟩

set_option maxHeartbeats 4000000 in
set_option maxRecDepth 100000 in
theorem inverse_any (k : Int) (w : World) : Calls Try.prog 39 #[.int .u8 k] w fun e w' => e = .returned (.int .u8 (invK1 k)) ∧ w' = w := by
  by_cases e40 : k = 40
  · subst e40
    go_enter Try.func39, Try.ntmps39
    go_wp2_with fail
    go_ret
    exact ⟨rfl, rfl⟩
  by_cases e41 : k = 41
  · subst e41
    go_enter Try.func39, Try.ntmps39
    go_wp2_with fail
    go_ret
    exact ⟨rfl, rfl⟩
  by_cases e44 : k = 44
  · subst e44
    go_enter Try.func39, Try.ntmps39
    go_wp2_with fail
    go_ret
    exact ⟨rfl, rfl⟩
  by_cases e45 : k = 45
  · subst e45
    go_enter Try.func39, Try.ntmps39
    go_wp2_with fail
    go_ret
    exact ⟨rfl, rfl⟩
  by_cases e46 : k = 46
  · subst e46
    go_enter Try.func39, Try.ntmps39
    go_wp2_with fail
    go_ret
    exact ⟨rfl, rfl⟩
  by_cases e47 : k = 47
  · subst e47
    go_enter Try.func39, Try.ntmps39
    go_wp2_with fail
    go_ret
    exact ⟨rfl, rfl⟩
  by_cases e48 : k = 48
  · subst e48
    go_enter Try.func39, Try.ntmps39
    go_wp2_with fail
    go_ret
    exact ⟨rfl, rfl⟩
  by_cases e49 : k = 49
  · subst e49
    go_enter Try.func39, Try.ntmps39
    go_wp2_with fail
    go_ret
    exact ⟨rfl, rfl⟩
  have x40 : (k == 40) = false := by simpa using e40
  have x41 : (k == 41) = false := by simpa using e41
  have x44 : (k == 44) = false := by simpa using e44
  have x45 : (k == 45) = false := by simpa using e45
  have x46 : (k == 46) = false := by simpa using e46
  have x47 : (k == 47) = false := by simpa using e47
  have x48 : (k == 48) = false := by simpa using e48
  have x49 : (k == 49) = false := by simpa using e49
  obtain ⟨R, hR⟩ : ∃ R, invK1 k = R := ⟨_, rfl⟩
  rw [hR]
  have HR := Lib.hid (show R = k by rw [← hR, invK1]; rw [if_neg e40, if_neg e41, if_neg e44, if_neg e45, if_neg e46, if_neg e47, if_neg e48, if_neg e49])
  clear hR e40 e41 e44 e45 e46 e47 e48 e49
  go_enter Try.func39, Try.ntmps39
  go_wp2_with fail
  go_ret
  exact ⟨by rw [HR.out]; rfl, rfl⟩

end Go.Proofs.Ytekjfbnggfbfhaa
