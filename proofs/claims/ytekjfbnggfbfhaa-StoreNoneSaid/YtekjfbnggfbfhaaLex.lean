/-
  Contracts of package lexer: Name and all that it calls.
-/
import Derived.Test.YtekjfbnggfbfhaaProg
import Derived.Test.YtekjfbnggfbfhaaTree
import Derived.Test.YtekjfbnggfbfhaaLaws
import Derived.MapKept
import Derived.KernelRfl
set_option linter.unusedSimpArgs false
set_option linter.unusedVariables false
namespace Go.Proofs.Ytekjfbnggfbfhaa
open Go.RowKit

theorem run_checkKey_string {P : Program} (w : World) {K : TypeId} (hK : P.underlying K = some .string) (em : Bool) (s : ByteArray) : (Instr.checkKey em 10000 K (.string s)).run P w = .ok () w := by
  rw [show (10000 : Nat) = 9999 + 1 from rfl]
  unfold Instr.checkKey
  simp only [Sem.run_bind, run_underlying hK, Result.andThen_ok]
  rfl
theorem run_findKey_string {P : Program} (w : World) {K : TypeId} (hK : P.underlying K = some .string) (s : ByteArray) (es : List MapEntry) (r : Option (Nat × Value)) (hr : Instr.findNow .string (.string s) es 0 = some r) : (Instr.findKey K (.string s) es).run P w = .ok r w := by
  unfold Instr.findKey
  simp only [Sem.run_bind, run_underlying hK, Result.andThen_ok, hr]
  rfl
theorem run_insert_new {P : Program} (w : World) {t K E : TypeId} (ht : P.underlying t = some (.map K E)) (hK : P.underlying K = some .string) (es : Array MapEntry) (cl : Nat) (k : ByteArray) (v : Value)
    (hnew : Instr.findNow .string (.string k) es.toList 0 = some none) :
    (Instr.mapUpdate t (.map (some w.heap.size)) (.string k) v).run P (w.alloc (.map es cl)) = .ok () (w.alloc (.map (es.push { key := .string k, val := v, born := cl }) (cl + 1))) := by
  have hg : (w.alloc (.map es cl)).heap[w.heap.size]? = some (.map es cl) := heap_alloc_new w _
  unfold Instr.mapUpdate
  simp only [Sem.run_bind, run_underlying ht, Result.andThen_ok, MapKept.run_getObj_map hg, run_checkKey_string _ hK, run_findKey_string _ hK _ _ _ hnew]
  simp only [setObj, Sem.run, hg]
  have e : (w.heap.push (.map es cl)).setIfInBounds w.heap.size (.map (es.push { key := .string k, val := v, born := cl }) (cl + 1)) = w.heap.push (.map (es.push { key := .string k, val := v, born := cl }) (cl + 1)) := by
    apply Array.ext_getElem?
    intro i
    simp only [Array.getElem?_setIfInBounds, Array.getElem?_push, Array.size_push]
    split
    · subst_vars; simp
    · rename_i h
      rw [if_neg (by omega), if_neg (by omega)]
  show Result.ok () _ = Result.ok () _
  congr 1
  show World.mk _ _ _ _ _ = World.mk _ _ _ _ _
  congr 1
theorem run_lookup_new {P : Program} (w : World) {t K E : TypeId} (ht : P.underlying t = some (.map K E)) (hK : P.underlying K = some .string) (es : Array MapEntry) (cl : Nat) (s : ByteArray) (z : Value)
    (r : Option (Nat × Value)) (hz : ∀ w, (zeroValue E).run P w = .ok z w) (hr : Instr.findNow .string (.string s) es.toList 0 = some r) :
    (Instr.lookup t (.map (some w.heap.size)) (.string s) false).run P (w.alloc (.map es cl)) = .ok ((r.map (·.2)).getD z) (w.alloc (.map es cl)) := by
  have hg : (w.alloc (.map es cl)).heap[w.heap.size]? = some (.map es cl) := heap_alloc_new w _
  unfold Instr.lookup
  cases r <;> simp [run_underlying ht, MapKept.run_getObj_map hg, run_checkKey_string _ hK, run_findKey_string _ hK _ _ _ hr, hz]

/-- The keywords. -/
def kws : List ByteArray := [⟨#[105, 110, 116]⟩, ⟨#[97, 114, 114, 97, 121]⟩, ⟨#[115, 116, 97, 99, 107]⟩, ⟨#[112, 114, 111, 99]⟩, ⟨#[109, 97, 105, 110]⟩, ⟨#[112, 117, 115, 104]⟩, ⟨#[112, 111, 112]⟩, ⟨#[114, 101, 97, 100]⟩, ⟨#[117, 110, 114, 101, 97, 100]⟩, ⟨#[119, 114, 105, 116, 101]⟩, ⟨#[117, 110, 119, 114, 105, 116, 101]⟩, ⟨#[99, 97, 108, 108]⟩, ⟨#[117, 110, 99, 97, 108, 108]⟩, ⟨#[105, 102]⟩, ⟨#[101, 108, 115, 101]⟩, ⟨#[102, 105]⟩, ⟨#[102, 114, 111, 109]⟩, ⟨#[108, 111, 111, 112]⟩, ⟨#[117, 110, 116, 105, 108]⟩, ⟨#[108, 111, 99, 97, 108]⟩, ⟨#[100, 101, 108, 111, 99, 97, 108]⟩, ⟨#[116, 111, 112]⟩, ⟨#[115, 105, 122, 101]⟩]
def kwB (s : ByteArray) : Bool := kws.any fun k => s.toList == k.toList
def kwE (l : List ByteArray) (i : Nat) : List MapEntry := match l with | [] => [] | k :: r => { key := .string k, val := .bool true, born := i } :: kwE r (i + 1)
def kwEs (n : Nat) : Array MapEntry := (kwE (kws.take n) 0).toArray
theorem findNow_kwE (s : ByteArray) : ∀ (l : List ByteArray) (i j : Nat), ∃ r, Instr.findNow .string (.string s) (kwE l i) j = some r ∧ (r.map (·.2)).getD (.bool false) = .bool (l.any fun k => s.toList == k.toList)
  | [], i, j => ⟨none, rfl, by simp⟩
  | k :: l, i, j => by
    by_cases h : (s == k) = true
    · refine ⟨some (j, .bool true), ?_, by rw [ba_beq] at h; simp [h]⟩
      simp [kwE, Instr.findNow, Instr.sameNow, h]
    · have h' : (s == k) = false := by simpa using h
      obtain ⟨r, h1, h2⟩ := findNow_kwE s l (i + 1) (j + 1)
      refine ⟨r, ?_, by rw [ba_beq] at h'; simp [h', h2]⟩
      simp [kwE, Instr.findNow, Instr.sameNow, h', h1]

theorem kwS0 (w : World) : (Instr.mapUpdate 115 (.map (some w.heap.size)) (.string ⟨#[105, 110, 116]⟩) (.bool true)).run Try.prog (w.alloc (.map #[] 0)) = .ok () (w.alloc (.map (kwEs 1) 1)) :=
  run_insert_new w Try.underlying115 Try.underlying9 #[] 0 _ _ (by kernel_rfl)
theorem kwS1 (w : World) : (Instr.mapUpdate 115 (.map (some w.heap.size)) (.string ⟨#[97, 114, 114, 97, 121]⟩) (.bool true)).run Try.prog (w.alloc (.map (kwEs 1) 1)) = .ok () (w.alloc (.map (kwEs 2) 2)) :=
  run_insert_new w Try.underlying115 Try.underlying9 (kwEs 1) 1 _ _ (by kernel_rfl)
theorem kwS2 (w : World) : (Instr.mapUpdate 115 (.map (some w.heap.size)) (.string ⟨#[115, 116, 97, 99, 107]⟩) (.bool true)).run Try.prog (w.alloc (.map (kwEs 2) 2)) = .ok () (w.alloc (.map (kwEs 3) 3)) :=
  run_insert_new w Try.underlying115 Try.underlying9 (kwEs 2) 2 _ _ (by kernel_rfl)
theorem kwS3 (w : World) : (Instr.mapUpdate 115 (.map (some w.heap.size)) (.string ⟨#[112, 114, 111, 99]⟩) (.bool true)).run Try.prog (w.alloc (.map (kwEs 3) 3)) = .ok () (w.alloc (.map (kwEs 4) 4)) :=
  run_insert_new w Try.underlying115 Try.underlying9 (kwEs 3) 3 _ _ (by kernel_rfl)
theorem kwS4 (w : World) : (Instr.mapUpdate 115 (.map (some w.heap.size)) (.string ⟨#[109, 97, 105, 110]⟩) (.bool true)).run Try.prog (w.alloc (.map (kwEs 4) 4)) = .ok () (w.alloc (.map (kwEs 5) 5)) :=
  run_insert_new w Try.underlying115 Try.underlying9 (kwEs 4) 4 _ _ (by kernel_rfl)
theorem kwS5 (w : World) : (Instr.mapUpdate 115 (.map (some w.heap.size)) (.string ⟨#[112, 117, 115, 104]⟩) (.bool true)).run Try.prog (w.alloc (.map (kwEs 5) 5)) = .ok () (w.alloc (.map (kwEs 6) 6)) :=
  run_insert_new w Try.underlying115 Try.underlying9 (kwEs 5) 5 _ _ (by kernel_rfl)
theorem kwS6 (w : World) : (Instr.mapUpdate 115 (.map (some w.heap.size)) (.string ⟨#[112, 111, 112]⟩) (.bool true)).run Try.prog (w.alloc (.map (kwEs 6) 6)) = .ok () (w.alloc (.map (kwEs 7) 7)) :=
  run_insert_new w Try.underlying115 Try.underlying9 (kwEs 6) 6 _ _ (by kernel_rfl)
theorem kwS7 (w : World) : (Instr.mapUpdate 115 (.map (some w.heap.size)) (.string ⟨#[114, 101, 97, 100]⟩) (.bool true)).run Try.prog (w.alloc (.map (kwEs 7) 7)) = .ok () (w.alloc (.map (kwEs 8) 8)) :=
  run_insert_new w Try.underlying115 Try.underlying9 (kwEs 7) 7 _ _ (by kernel_rfl)
theorem kwS8 (w : World) : (Instr.mapUpdate 115 (.map (some w.heap.size)) (.string ⟨#[117, 110, 114, 101, 97, 100]⟩) (.bool true)).run Try.prog (w.alloc (.map (kwEs 8) 8)) = .ok () (w.alloc (.map (kwEs 9) 9)) :=
  run_insert_new w Try.underlying115 Try.underlying9 (kwEs 8) 8 _ _ (by kernel_rfl)
theorem kwS9 (w : World) : (Instr.mapUpdate 115 (.map (some w.heap.size)) (.string ⟨#[119, 114, 105, 116, 101]⟩) (.bool true)).run Try.prog (w.alloc (.map (kwEs 9) 9)) = .ok () (w.alloc (.map (kwEs 10) 10)) :=
  run_insert_new w Try.underlying115 Try.underlying9 (kwEs 9) 9 _ _ (by kernel_rfl)
theorem kwS10 (w : World) : (Instr.mapUpdate 115 (.map (some w.heap.size)) (.string ⟨#[117, 110, 119, 114, 105, 116, 101]⟩) (.bool true)).run Try.prog (w.alloc (.map (kwEs 10) 10)) = .ok () (w.alloc (.map (kwEs 11) 11)) :=
  run_insert_new w Try.underlying115 Try.underlying9 (kwEs 10) 10 _ _ (by kernel_rfl)
theorem kwS11 (w : World) : (Instr.mapUpdate 115 (.map (some w.heap.size)) (.string ⟨#[99, 97, 108, 108]⟩) (.bool true)).run Try.prog (w.alloc (.map (kwEs 11) 11)) = .ok () (w.alloc (.map (kwEs 12) 12)) :=
  run_insert_new w Try.underlying115 Try.underlying9 (kwEs 11) 11 _ _ (by kernel_rfl)
theorem kwS12 (w : World) : (Instr.mapUpdate 115 (.map (some w.heap.size)) (.string ⟨#[117, 110, 99, 97, 108, 108]⟩) (.bool true)).run Try.prog (w.alloc (.map (kwEs 12) 12)) = .ok () (w.alloc (.map (kwEs 13) 13)) :=
  run_insert_new w Try.underlying115 Try.underlying9 (kwEs 12) 12 _ _ (by kernel_rfl)
theorem kwS13 (w : World) : (Instr.mapUpdate 115 (.map (some w.heap.size)) (.string ⟨#[105, 102]⟩) (.bool true)).run Try.prog (w.alloc (.map (kwEs 13) 13)) = .ok () (w.alloc (.map (kwEs 14) 14)) :=
  run_insert_new w Try.underlying115 Try.underlying9 (kwEs 13) 13 _ _ (by kernel_rfl)
theorem kwS14 (w : World) : (Instr.mapUpdate 115 (.map (some w.heap.size)) (.string ⟨#[101, 108, 115, 101]⟩) (.bool true)).run Try.prog (w.alloc (.map (kwEs 14) 14)) = .ok () (w.alloc (.map (kwEs 15) 15)) :=
  run_insert_new w Try.underlying115 Try.underlying9 (kwEs 14) 14 _ _ (by kernel_rfl)
theorem kwS15 (w : World) : (Instr.mapUpdate 115 (.map (some w.heap.size)) (.string ⟨#[102, 105]⟩) (.bool true)).run Try.prog (w.alloc (.map (kwEs 15) 15)) = .ok () (w.alloc (.map (kwEs 16) 16)) :=
  run_insert_new w Try.underlying115 Try.underlying9 (kwEs 15) 15 _ _ (by kernel_rfl)
theorem kwS16 (w : World) : (Instr.mapUpdate 115 (.map (some w.heap.size)) (.string ⟨#[102, 114, 111, 109]⟩) (.bool true)).run Try.prog (w.alloc (.map (kwEs 16) 16)) = .ok () (w.alloc (.map (kwEs 17) 17)) :=
  run_insert_new w Try.underlying115 Try.underlying9 (kwEs 16) 16 _ _ (by kernel_rfl)
theorem kwS17 (w : World) : (Instr.mapUpdate 115 (.map (some w.heap.size)) (.string ⟨#[108, 111, 111, 112]⟩) (.bool true)).run Try.prog (w.alloc (.map (kwEs 17) 17)) = .ok () (w.alloc (.map (kwEs 18) 18)) :=
  run_insert_new w Try.underlying115 Try.underlying9 (kwEs 17) 17 _ _ (by kernel_rfl)
theorem kwS18 (w : World) : (Instr.mapUpdate 115 (.map (some w.heap.size)) (.string ⟨#[117, 110, 116, 105, 108]⟩) (.bool true)).run Try.prog (w.alloc (.map (kwEs 18) 18)) = .ok () (w.alloc (.map (kwEs 19) 19)) :=
  run_insert_new w Try.underlying115 Try.underlying9 (kwEs 18) 18 _ _ (by kernel_rfl)
theorem kwS19 (w : World) : (Instr.mapUpdate 115 (.map (some w.heap.size)) (.string ⟨#[108, 111, 99, 97, 108]⟩) (.bool true)).run Try.prog (w.alloc (.map (kwEs 19) 19)) = .ok () (w.alloc (.map (kwEs 20) 20)) :=
  run_insert_new w Try.underlying115 Try.underlying9 (kwEs 19) 19 _ _ (by kernel_rfl)
theorem kwS20 (w : World) : (Instr.mapUpdate 115 (.map (some w.heap.size)) (.string ⟨#[100, 101, 108, 111, 99, 97, 108]⟩) (.bool true)).run Try.prog (w.alloc (.map (kwEs 20) 20)) = .ok () (w.alloc (.map (kwEs 21) 21)) :=
  run_insert_new w Try.underlying115 Try.underlying9 (kwEs 20) 20 _ _ (by kernel_rfl)
theorem kwS21 (w : World) : (Instr.mapUpdate 115 (.map (some w.heap.size)) (.string ⟨#[116, 111, 112]⟩) (.bool true)).run Try.prog (w.alloc (.map (kwEs 21) 21)) = .ok () (w.alloc (.map (kwEs 22) 22)) :=
  run_insert_new w Try.underlying115 Try.underlying9 (kwEs 21) 21 _ _ (by kernel_rfl)
theorem kwS22 (w : World) : (Instr.mapUpdate 115 (.map (some w.heap.size)) (.string ⟨#[115, 105, 122, 101]⟩) (.bool true)).run Try.prog (w.alloc (.map (kwEs 22) 22)) = .ok () (w.alloc (.map (kwEs 23) 23)) :=
  run_insert_new w Try.underlying115 Try.underlying9 (kwEs 22) 22 _ _ (by kernel_rfl)
theorem kwLook (s : ByteArray) (w : World) : (Instr.lookup 115 (.map (some w.heap.size)) (.string s) false).run Try.prog (w.alloc (.map (kwEs 23) 23)) = .ok (.bool (kwB s)) (w.alloc (.map (kwEs 23) 23)) := by
  obtain ⟨r, h1, h2⟩ := findNow_kwE s kws 0 0
  have h := run_lookup_new (P := Try.prog) w Try.underlying115 Try.underlying9 (kwEs 23) 23 s (.bool false) r (fun _ => by kernel_rfl) (by rw [← h1]; rfl)
  rw [h, h2]; rfl

set_option maxHeartbeats 1000000 in
theorem Keyword_any (s : ByteArray) (w : World) (hs : s.size ≤ 65536) : Calls Try.prog 71 #[.string s] w fun e w' => e = .returned (.bool (decide (2 ≤ s.size) && decide (s.size ≤ 7) && kwB s)) ∧ Below w.heap.size w w' := by
  by_cases h : 2 ≤ s.size ∧ s.size ≤ 7
  · obtain ⟨h1, h2⟩ := h
    have hmm := @run_makeMap Try.prog

    have k0 := kwS0
    have k1 := kwS1
    have k2 := kwS2
    have k3 := kwS3
    have k4 := kwS4
    have k5 := kwS5
    have k6 := kwS6
    have k7 := kwS7
    have k8 := kwS8
    have k9 := kwS9
    have k10 := kwS10
    have k11 := kwS11
    have k12 := kwS12
    have k13 := kwS13
    have k14 := kwS14
    have k15 := kwS15
    have k16 := kwS16
    have k17 := kwS17
    have k18 := kwS18
    have k19 := kwS19
    have k20 := kwS20
    have k21 := kwS21
    have k22 := kwS22
    have kl := kwLook s
    go_enter Try.func71, Try.ntmps71
    go_wp2
    go_ret
    exact ⟨by simp [h1, h2], (Below.refl _ _).alloc (Nat.le_refl _) _⟩
  · by_cases h1 : 2 ≤ s.size
    · have h2 : 7 < s.size := by omega
      clear h
      go_enter Try.func71, Try.ntmps71
      go_wp2
      go_ret
      exact ⟨by simp [show ¬ s.size ≤ 7 by omega], Below.refl _ _⟩
    · have h3 : s.size < 2 := by omega
      clear h
      go_enter Try.func71, Try.ntmps71
      go_wp2
      go_ret
      exact ⟨by simp [show ¬ 2 ≤ s.size by omega], Below.refl _ _⟩

def letB (c : Int) : Bool := decide (97 ≤ c) && decide (c ≤ 122)
def digB (c : Int) : Bool := decide (48 ≤ c) && decide (c ≤ 57)
def aluB (c : Int) : Bool := letB c || digB c
def blkB (c : Int) : Bool := c == 32 || c == 9 || c == 13 || c == 10

set_option maxHeartbeats 400000 in
theorem letter_any (c : Int) (w : World) : Calls Try.prog 77 #[.int .u8 c] w fun e w' => e = .returned (.bool (letB c)) ∧ w = w' := by
  go_enter Try.func77, Try.ntmps77
  go_wp2
  all_goals (go_ret; exact ⟨by simp [letB, *] <;> omega, rfl⟩)
set_option maxHeartbeats 400000 in
theorem digit_any (c : Int) (w : World) : Calls Try.prog 80 #[.int .u8 c] w fun e w' => e = .returned (.bool (digB c)) ∧ w = w' := by
  go_enter Try.func80, Try.ntmps80
  go_wp2
  all_goals (go_ret; exact ⟨by simp [digB, *] <;> omega, rfl⟩)
set_option maxHeartbeats 400000 in
theorem blank_any (c : Int) (w : World) : Calls Try.prog 81 #[.int .u8 c] w fun e w' => e = .returned (.bool (blkB c)) ∧ w = w' := by
  go_enter Try.func81, Try.ntmps81
  go_wp2
  all_goals (go_ret; exact ⟨by simp [blkB, *], rfl⟩)
set_option maxHeartbeats 400000 in
theorem first1_any (c : Int) (w : World) : Calls Try.prog 79 #[.int .u8 c] w fun e w' => e = .returned (.bool (aluB c)) ∧ w = w' := by
  go_enter Try.func79, Try.ntmps79
  by_cases h : letB c = true
  · go_wp2_with (first | (go_at_call 77; refine (letter_any _ _).mono ?_; rintro e w' ⟨rfl, rfl⟩) | (go_at_call 80; refine (digit_any _ _).mono ?_; rintro e w' ⟨rfl, rfl⟩))
    go_ret
    exact ⟨by simp [aluB, h], rfl⟩
  · have h' : letB c = false := by simpa using h
    clear h
    go_wp2_with (first | (go_at_call 77; refine (letter_any _ _).mono ?_; rintro e w' ⟨rfl, rfl⟩) | (go_at_call 80; refine (digit_any _ _).mono ?_; rintro e w' ⟨rfl, rfl⟩))
    go_ret
    exact ⟨by simp [aluB, h'], rfl⟩
set_option maxHeartbeats 400000 in
theorem first2_any (c : Int) (w : World) : Calls Try.prog 82 #[.int .u8 c] w fun e w' => e = .returned (.bool (c != 10)) ∧ w = w' := by
  go_enter Try.func82, Try.ntmps82
  go_wp2
  all_goals (go_ret; exact ⟨rfl, rfl⟩)

/-- How many bytes at the head of a string belong to a class. -/
def spanL (p : Int → Bool) (l : List UInt8) : Nat := (l.takeWhile fun c => p c.toNat).length
theorem takeWhile_stop {α : Type} (p : α → Bool) : ∀ (l : List α) (j : Nat) (h : j < l.length), (∀ c ∈ l.take j, p c = true) → p l[j] = false → (l.takeWhile p).length = j
  | [], j, h, _, _ => by simp at h
  | x :: l, 0, _, _, h2 => by simp at h2; simp [List.takeWhile, h2]
  | x :: l, j + 1, h, h1, h2 => by
    have hx : p x = true := h1 x (by simp)
    have := takeWhile_stop p l j (by simpa using h) (fun c hc => h1 c (by simp [hc])) (by simpa using h2)
    simp [List.takeWhile, hx, this]
theorem takeWhile_all {α : Type} (p : α → Bool) : ∀ (l : List α), (∀ c ∈ l, p c = true) → (l.takeWhile p).length = l.length
  | [], _ => rfl
  | x :: l, h => by
    have hx : p x = true := h x (by simp)
    have := takeWhile_all p l (fun c hc => h c (by simp [hc]))
    simp [List.takeWhile, hx, this]
theorem ba_length (s : ByteArray) : s.toList.length = s.size := by rw [Go.ByteArray.toList_eq]; rfl
theorem ba_get (s : ByteArray) (j : Nat) (h : j < s.size) : s.toList[j]'(by rw [ba_length]; exact h) = s[j] := by
  simp only [Go.ByteArray.toList_eq]; rfl

set_option maxHeartbeats 400000 in
theorem span_any (f : FuncId) (fn : Func) (hfn : IsFn Try.prog f fn) (p : Int → Bool) (hf : ∀ c w, Calls Try.prog f #[.int .u8 c] w fun e w' => e = .returned (.bool (p c)) ∧ w = w') (s : ByteArray) (w : World) (hs : s.size ≤ 65536) :
    Calls Try.prog 78 #[.string s, .func (.func f) #[] #[]] w fun e w' => e = .returned (.int .i64 (spanL p s.toList)) ∧ w = w' := by
  have HF := Lib.hid hf
  have hcall := run_callFunc hfn
  clear hf hfn
  go_enter Try.func78, Try.ntmps78
  go_wp2
  go_loop [4, 5, 8] (fun r x i => ∃ j : Nat, j ≤ s.size ∧ i = .int .i64 j ∧ r = .int .i64 0 ∧ Hid (∀ c ∈ s.toList.take j, p c.toNat = true)) (fun _ _ i => s.size - (intOf i).toNat)
  case atStart => exact ⟨0, by omega, rfl, rfl, fun c hc => by simp at hc⟩
  case round =>
    obtain ⟨j, hj, rfl, rfl, HP⟩ := hrel
    by_cases hlt : j < s.size
    · have hg := Lib.hid (ba_get s j hlt)
      go_wp2_with fail
      refine (HF.out _ _).mono ?_
      rintro e w' ⟨rfl, rfl⟩
      cases hp : p s[j].toNat
      · go_wp2_with fail
        go_ret
        exact ⟨by rw [spanL, takeWhile_stop _ _ j (by rw [ba_length]; exact hlt) HP.out (by rw [hg.out]; exact hp)]; rfl, rfl⟩
      · have HP2 := Lib.hid hp
        go_wp2_with fail
        go_round
        case rel =>
          refine ⟨j + 1, by omega, by go_num, rfl, ?_⟩
          intro c hc
          rw [List.take_succ_eq_append_getElem (by rw [ba_length]; exact hlt), hg.out] at hc
          rcases List.mem_append.1 hc with hc | hc
          · exact HP.out c hc
          · rw [List.mem_singleton.1 hc]; exact HP2.out
        case measure => simp [intOf]; omega
    · go_wp2_with fail
      go_ret
      have e := takeWhile_all (fun c : UInt8 => p c.toNat) s.toList (fun c hc => HP.out c (by rw [List.take_of_length_le (by rw [ba_length]; omega)]; exact hc))
      exact ⟨by rw [spanL, e, ba_length]; rfl, rfl⟩

theorem fnLetter : IsFn Try.prog 77 Try.f77 := ⟨Try.func77, by kernel_rfl, by kernel_rfl⟩
theorem fnDigit : IsFn Try.prog 80 Try.f80 := ⟨Try.func80, by kernel_rfl, by kernel_rfl⟩
theorem fnBlank : IsFn Try.prog 81 Try.f81 := ⟨Try.func81, by kernel_rfl, by kernel_rfl⟩
theorem fnFirst1 : IsFn Try.prog 79 Try.f79 := ⟨Try.func79, by kernel_rfl, by kernel_rfl⟩
theorem fnFirst2 : IsFn Try.prog 82 Try.f82 := ⟨Try.func82, by kernel_rfl, by kernel_rfl⟩

theorem run_idx (args : Array Value) (w : World) : (callFunc 95 args).run Try.prog w = ((Extern.BytealgIndexByte.indexByte args).run Try.prog w).andThen fun v w' => .ok (.value v) w' :=
  run_callFunc_extern Try.func95 (by kernel_rfl) (by kernel_rfl) (by kernel_rfl) (by kernel_rfl) args w
theorem run_idx2 (s : ByteArray) (c : Int) (w : World) : (callFunc 95 #[.string s, .int .u8 c]).run Try.prog w = .ok (.value (.int .i64 (firstIdx s c.toNat.toUInt8))) w := by
  rw [run_idx, run_indexByte_string]; rfl
set_option maxHeartbeats 400000 in
theorem IndexByte_any (s : ByteArray) (c : Int) (w : World) : Calls Try.prog 89 #[.string s, .int .u8 c] w fun e w' => (∃ m, e = .returned (.int .i64 m)) ∧ w = w' := by
  have hx := run_idx2
  go_enter Try.func89, Try.ntmps89
  go_wp2
  go_ret
  exact ⟨⟨_, rfl⟩, rfl⟩
set_option maxHeartbeats 400000 in
theorem HasPrefix_any (s p : ByteArray) (w : World) (hs : s.size ≤ 65536) (hp : p.size ≤ 65536) : Calls Try.prog 88 #[.string s, .string p] w fun e w' => (∃ b, e = .returned (.bool b)) ∧ w = w' := by
  by_cases h : p.size ≤ s.size
  · go_enter Try.func88, Try.ntmps88
    go_wp2
    all_goals (go_ret; exact ⟨⟨_, rfl⟩, rfl⟩)
  · go_enter Try.func88, Try.ntmps88
    go_wp2
    all_goals (go_ret; exact ⟨⟨_, rfl⟩, rfl⟩)

set_option maxHeartbeats 1000000 in
theorem sign_any (s : ByteArray) (w : World) (hs : s.size ≤ 65536) (h0 : 0 < s.size) : Calls Try.prog 83 #[.string s] w fun e w' => (∃ m, e = .returned (.int .i64 m)) ∧ w = w' := by
  go_enter Try.func83, Try.ntmps83
  go_wp2_with fail
  refine (HasPrefix_any _ _ _ hs (by decide)).mono ?_
  rintro e w' ⟨⟨b, rfl⟩, rfl⟩
  cases b
  · by_cases h2 : s.size < 2
    · go_wp2_with (go_at_call 89; refine (IndexByte_any _ _ _).mono ?_; rintro e w' ⟨⟨m, rfl⟩, rfl⟩)
      all_goals (go_ret; exact ⟨⟨_, rfl⟩, rfl⟩)
    · have h3 : 2 ≤ s.size := by omega
      clear h2
      go_wp2_with (go_at_call 89; refine (IndexByte_any _ _ _).mono ?_; rintro e w' ⟨⟨m, rfl⟩, rfl⟩)
      all_goals (go_ret; exact ⟨⟨_, rfl⟩, rfl⟩)
  · go_wp2_with fail
    go_ret
    exact ⟨⟨_, rfl⟩, rfl⟩

end Go.Proofs.Ytekjfbnggfbfhaa
