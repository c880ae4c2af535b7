/-
  Contracts of scope.Find, scope.fresh, scope.use and scope.Proc.
-/
import Derived.Test.YtekjfbnggfbfhaaPi
import Derived.Test.YtekjfbnggfbfhaaLaws
import Derived.Laws.EntriesVeiled
namespace Go.Proofs.Ytekjfbnggfbfhaa
open Go.RowKit

/-- The last declaration of that name. -/
def findV : List VD → ByteArray → Option VD
  | [], _ => none
  | v :: vs, s => match findV vs s with
    | some u => some u
    | none => if v.s.toList = s.toList then some v else none
theorem findV_snoc (vs : List VD) (v : VD) (s : ByteArray) : findV (vs ++ [v]) s = if v.s.toList = s.toList then some v else findV vs s := by
  induction vs with
  | nil => simp only [List.nil_append, findV]
  | cons u us ih =>
    simp only [List.cons_append, findV]
    rw [ih]
    by_cases h : v.s.toList = s.toList
    · rw [if_pos h, if_pos h]
    · rw [if_neg h, if_neg h]
theorem findV_take {vs : List VD} {j : Nat} (h : j < vs.length) (s : ByteArray) : findV (vs.take (j + 1)) s = if vs[j].s.toList = s.toList then some vs[j] else findV (vs.take j) s := by
  rw [List.take_succ_eq_append_getElem h, findV_snoc]
theorem findV_mem : ∀ {vs : List VD} {s : ByteArray} {v : VD}, findV vs s = some v → v ∈ vs ∧ v.s = s
  | u :: us, s, v, h => by
    simp only [findV] at h
    split at h
    · rename_i w hw
      obtain ⟨h1, h2⟩ := findV_mem hw
      injection h with h
      subst h
      exact ⟨by simp [h1], h2⟩
    · split at h
      · rename_i hs
        injection h with h
        subst h
        exact ⟨by simp, ba_inj hs⟩
      · cases h

/-- What a search hands back. -/
abbrev fdV (v : Option VD) : Value := match v with
  | some v => .tuple #[.agg #[.string v.s, .int .u8 v.k, .int .i64 v.n], .bool true]
  | none => .tuple #[.agg #[.string ⟨#[]⟩, .int .u8 0, .int .i64 0], .bool false]
theorem buildV56 (w : World) : (Instr.build 24 #[]).run Try.prog w = .ok (.agg #[.string ⟨#[]⟩, .int .u8 0, .int .i64 0]) w := by kernel_rfl

set_option maxHeartbeats 2000000 in
theorem Find_any (vs : List VD) (A : Option Addr) (c : Nat) (s : ByteArray) (S : Nat → Prop) (w : World) (hrow : RowV w S A vs) (hl : vs.length ≤ LV) :
    Calls Try.prog 57 #[.slice A vs.length c, .string s] w fun e w' => e = .returned (fdV (findV vs s)) ∧ Below w.heap.size w w' := by
  have hl' := LV_int hl
  have HROW := Lib.hid hrow
  obtain ⟨R, hR⟩ : ∃ R, findV vs s = R := ⟨_, rfl⟩
  rw [hR]
  have HR := Lib.hid hR
  clear hrow hl hR
  have hb := buildV56
  go_enter Try.func57, Try.ntmps57
  go_wp2_with fail
  have hr0 : (w.alloc (.cells #[.string ⟨#[]⟩, .int .u8 0, .int .i64 0] 24)).heap[w.heap.size]? = some (.cells #[.string ⟨#[]⟩, .int .u8 0, .int .i64 0] 24 (0, 0)) := heap_alloc_new w _
  have hbl : Below w.heap.size w (w.alloc (.cells #[.string ⟨#[]⟩, .int .u8 0, .int .i64 0] 24)) := (Below.refl _ _).alloc (Nat.le_refl _) _
  have HBL := Lib.hid hbl
  clear hr0 hbl
  go_loopw [6] (fun i wr => ∃ j : Nat, j ≤ vs.length ∧ i = .int .i64 ((j : Int) - 1) ∧ wr = w.alloc (.cells #[.string ⟨#[]⟩, .int .u8 0, .int .i64 0] 24) ∧ Hid (findV (vs.take j) s = R)) (fun i _ => ((intOf i) + 1).toNat)
  case atStart => exact ⟨vs.length, Nat.le_refl _, by first | rfl | simp, by first | rfl | trivial, by rw [List.take_of_length_le (Nat.le_refl _)]; exact HR⟩
  case round =>
    obtain ⟨j, hj, rfl, rfl, HJ⟩ := hrel
    rcases j with _ | m
    · have e0 : ((0 : Nat) : Int) - 1 = -1 := by omega
      rw [e0]
      have HN := Lib.hid (show R = none by have := HJ.out; simp [findV] at this; exact this.symm)
      clear e0 HJ
      go_wp2_with fail
      exact bodyPost_ret (v := fdV none) (by simp [results, Try.results57, go_sem]) rfl ⟨by rw [HN.out], HBL.out⟩
    · rw [show ((m + 1 : Nat) : Int) - 1 = (m : Int) by omega]
      obtain ⟨a, v, rfl, _, Hv, ⟨q0, q1, q2⟩, hfv⟩ := (HROW.out.later HBL.out).nd (i := m) (by omega)
      have hm : m < vs.length := by omega
      have hx := HJ.out
      rw [findV_take hm, Hv.out] at hx
      have HX := Lib.hid hx
      clear hx HJ
      by_cases hs : v.s.toList = s.toList
      · have HN := Lib.hid (show R = some v by have := HX.out; rw [if_pos hs] at this; exact this.symm)
        have e1 : (v.s.toList == s.toList) = true := by simpa using hs
        have HBS := Lib.hid (show Below w.heap.size w (w.alloc (.cells #[.string v.s, .int .u8 v.k, .int .i64 v.n] 24)) from (Below.refl _ _).alloc (Nat.le_refl _) _)
        clear hs
        go_wp2_with fail
        exact bodyPost_ret (v := fdV (some v)) (by simp [results, Try.results57, go_sem]) rfl ⟨by rw [HN.out], HBS.out⟩
      · have e1 : (v.s.toList == s.toList) = false := by simpa using hs
        have HN := Lib.hid (show findV (vs.take m) s = R by have := HX.out; rw [if_neg hs] at this; exact this)
        clear hs
        go_wp2_with fail
        go_roundw
        case rel => exact ⟨m, by omega, by first | rfl | go_num, by first | rfl | trivial, HN⟩
        case measure => simp [intOf]


end Go.Proofs.Ytekjfbnggfbfhaa
