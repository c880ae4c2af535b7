/-
  Contracts of scope.Find, scope.fresh, scope.use and scope.Proc.
-/
import Derived.Test.YtldcjboignbfpaaPi
import Derived.Test.YtldcjboignbfpaaVal
import Derived.Test.YtldcjboignbfpaaLaws
import Derived.Laws.EntriesVeiled
namespace Go.Proofs.Ytldcjboignbfpaa
open Go.RowKit

/-- The last declaration of that name. -/
def findV : List VD → ByteArray → Option VD
  | [], _ => none
  | v :: vs, s => match findV vs s with
    | some u => some u
    | none => if v.s.toList = s.toList then some v else none
theorem findV_snoc (vs : List VD) (v : VD) (s : ByteArray) : findV (vs ++ [v]) s = if v.s.toList = s.toList then some v else findV vs s := by
  induction vs with
  | nil => simp only [List.nil_append, findV]
  | cons u us ih =>
    simp only [List.cons_append, findV]
    rw [ih]
    by_cases h : v.s.toList = s.toList
    · rw [if_pos h, if_pos h]
    · rw [if_neg h, if_neg h]
theorem findV_take {vs : List VD} {j : Nat} (h : j < vs.length) (s : ByteArray) : findV (vs.take (j + 1)) s = if vs[j].s.toList = s.toList then some vs[j] else findV (vs.take j) s := by
  rw [List.take_succ_eq_append_getElem h, findV_snoc]
theorem findV_mem : ∀ {vs : List VD} {s : ByteArray} {v : VD}, findV vs s = some v → v ∈ vs ∧ v.s = s
  | u :: us, s, v, h => by
    simp only [findV] at h
    split at h
    · rename_i w hw
      obtain ⟨h1, h2⟩ := findV_mem hw
      injection h with h
      subst h
      exact ⟨by simp [h1], h2⟩
    · split at h
      · rename_i hs
        injection h with h
        subst h
        exact ⟨by simp, ba_inj hs⟩
      · cases h

/-- What a search hands back. -/
abbrev fdV (v : Option VD) : Value := match v with
  | some v => .tuple #[.agg #[.string v.s, .int .u8 v.k, .int .i64 v.n], .bool true]
  | none => .tuple #[.agg #[.string ⟨#[]⟩, .int .u8 0, .int .i64 0], .bool false]
theorem buildV56 (w : World) : (Instr.build 56 #[]).run Try.prog w = .ok (.agg #[.string ⟨#[]⟩, .int .u8 0, .int .i64 0]) w := by kernel_rfl

set_option maxHeartbeats 2000000 in
theorem Find_any (vs : List VD) (A : Option Addr) (c : Nat) (s : ByteArray) (S : Nat → Prop) (w : World) (hrow : RowV w S A vs) (hl : vs.length ≤ LV) :
    Calls Try.prog 67 #[.slice A vs.length c, .string s] w fun e w' => e = .returned (fdV (findV vs s)) ∧ Below w.heap.size w w' := by
  have hl' := LV_int hl
  have HROW := Lib.hid hrow
  obtain ⟨R, hR⟩ : ∃ R, findV vs s = R := ⟨_, rfl⟩
  rw [hR]
  have HR := Lib.hid hR
  clear hrow hl hR
  have hb := buildV56
  go_enter Try.func67, Try.ntmps67
  go_wp2_with fail
  have hr0 : (w.alloc (.cells #[.string ⟨#[]⟩, .int .u8 0, .int .i64 0] 56)).heap[w.heap.size]? = some (.cells #[.string ⟨#[]⟩, .int .u8 0, .int .i64 0] 56 (0, 0)) := heap_alloc_new w _
  have hbl : Below w.heap.size w (w.alloc (.cells #[.string ⟨#[]⟩, .int .u8 0, .int .i64 0] 56)) := (Below.refl _ _).alloc (Nat.le_refl _) _
  have HBL := Lib.hid hbl
  clear hr0 hbl
  go_loopw [6] (fun i wr => ∃ j : Nat, j ≤ vs.length ∧ i = .int .i64 ((j : Int) - 1) ∧ wr = w.alloc (.cells #[.string ⟨#[]⟩, .int .u8 0, .int .i64 0] 56) ∧ Hid (findV (vs.take j) s = R)) (fun i _ => ((intOf i) + 1).toNat)
  case atStart => exact ⟨vs.length, Nat.le_refl _, by first | rfl | simp, by first | rfl | trivial, by rw [List.take_of_length_le (Nat.le_refl _)]; exact HR⟩
  case round =>
    obtain ⟨j, hj, rfl, rfl, HJ⟩ := hrel
    rcases j with _ | m
    · have e0 : ((0 : Nat) : Int) - 1 = -1 := by omega
      rw [e0]
      have HN := Lib.hid (show R = none by have := HJ.out; simp [findV] at this; exact this.symm)
      clear e0 HJ
      go_wp2_with fail
      exact bodyPost_ret (v := fdV none) (by simp [results, Try.results67, go_sem]) rfl ⟨by rw [HN.out], HBL.out⟩
    · rw [show ((m + 1 : Nat) : Int) - 1 = (m : Int) by omega]
      obtain ⟨a, v, rfl, _, Hv, ⟨q0, q1, q2⟩, hfv⟩ := (HROW.out.later HBL.out).nd (i := m) (by omega)
      have hm : m < vs.length := by omega
      have hx := HJ.out
      rw [findV_take hm, Hv.out] at hx
      have HX := Lib.hid hx
      clear hx HJ
      by_cases hs : v.s.toList = s.toList
      · have HN := Lib.hid (show R = some v by have := HX.out; rw [if_pos hs] at this; exact this.symm)
        have e1 : (v.s.toList == s.toList) = true := by simpa using hs
        have HBS := Lib.hid (show Below w.heap.size w (w.alloc (.cells #[.string v.s, .int .u8 v.k, .int .i64 v.n] 56)) from (Below.refl _ _).alloc (Nat.le_refl _) _)
        clear hs
        go_wp2_with fail
        exact bodyPost_ret (v := fdV (some v)) (by simp [results, Try.results67, go_sem]) rfl ⟨by rw [HN.out], HBS.out⟩
      · have e1 : (v.s.toList == s.toList) = false := by simpa using hs
        have HN := Lib.hid (show findV (vs.take m) s = R by have := HX.out; rw [if_neg hs] at this; exact this)
        clear hs
        go_wp2_with fail
        go_roundw
        case rel => exact ⟨m, by omega, by first | rfl | go_num, by first | rfl | trivial, HN⟩
        case measure => simp [intOf]

/-- scope.fresh. -/
def freshE (vs : List VD) (s : ByteArray) : Int := if (findV vs s).isSome then 22 else 0
/-- scope.use. -/
def useE (vs : List VD) (s : ByteArray) (k : Int) : Int := match findV vs s with
  | none => 6
  | some v => if v.k = k then 0 else 7

set_option maxHeartbeats 1000000 in
theorem fresh_any (vs : List VD) (A : Option Addr) (c : Nat) (s : ByteArray) (S : Nat → Prop) (w : World) (hrow : RowV w S A vs) (hl : vs.length ≤ LV) :
    Calls Try.prog 52 #[.slice A vs.length c, .string s] w fun e w' => e = .returned (.int .i64 (freshE vs s)) ∧ Below w.heap.size w w' := by
  have HROW := Lib.hid hrow
  have HL := Lib.hid hl
  obtain ⟨E, hE⟩ : ∃ E, freshE vs s = E := ⟨_, rfl⟩
  rw [hE]
  have HE := Lib.hid hE
  clear hrow hl hE
  go_enter Try.func52, Try.ntmps52
  go_wp2_with fail
  refine (Find_any vs A c s S _ HROW.out HL.out).mono ?_
  rintro e w1 ⟨rfl, bw1⟩
  cases hf : findV vs s with
  | none =>
    have HN := Lib.hid (show E = 0 by rw [← HE.out]; simp [freshE, hf])
    have HB := Lib.hid (show Below w.heap.size w (w1.alloc (.cells #[.string ⟨#[]⟩, .int .u8 0, .int .i64 0] 56)) from bw1.alloc bw1.size _)
    clear hf bw1
    go_wp2_with fail
    go_ret
    exact ⟨by rw [HN.out]; rfl, HB.out⟩
  | some v =>
    have HN := Lib.hid (show E = 22 by rw [← HE.out]; simp [freshE, hf])
    have HB := Lib.hid (show Below w.heap.size w (w1.alloc (.cells #[.string v.s, .int .u8 v.k, .int .i64 v.n] 56)) from bw1.alloc bw1.size _)
    clear hf bw1
    go_wp2_with fail
    go_ret
    exact ⟨by rw [HN.out]; rfl, HB.out⟩

set_option maxHeartbeats 1000000 in
theorem use_any (vs : List VD) (A : Option Addr) (c : Nat) (s : ByteArray) (k : Int) (S : Nat → Prop) (w : World) (hrow : RowV w S A vs) (hl : vs.length ≤ LV) :
    Calls Try.prog 82 #[.slice A vs.length c, .string s, .int .u8 k] w fun e w' => e = .returned (.int .i64 (useE vs s k)) ∧ Below w.heap.size w w' := by
  have HROW := Lib.hid hrow
  have HL := Lib.hid hl
  obtain ⟨E, hE⟩ : ∃ E, useE vs s k = E := ⟨_, rfl⟩
  rw [hE]
  have HE := Lib.hid hE
  clear hrow hl hE
  go_enter Try.func82, Try.ntmps82
  go_wp2_with fail
  refine (Find_any vs A c s S _ HROW.out HL.out).mono ?_
  rintro e w1 ⟨rfl, bw1⟩
  cases hf : findV vs s with
  | none =>
    have HN := Lib.hid (show E = 6 by rw [← HE.out]; simp [useE, hf])
    have HB := Lib.hid (show Below w.heap.size w (w1.alloc (.cells #[.string ⟨#[]⟩, .int .u8 0, .int .i64 0] 56)) from bw1.alloc bw1.size _)
    clear hf bw1
    go_wp2_with fail
    go_ret
    exact ⟨by rw [HN.out]; rfl, HB.out⟩
  | some v =>
    obtain ⟨vm, vk, vl⟩ := v
    have HB2 := Lib.hid (show Below w.heap.size w (w1.alloc (.cells #[.string vm, .int .u8 vk, .int .i64 vl] 56)) from bw1.alloc bw1.size _)
    have HN := Lib.hid (show E = if vk = k then 0 else 7 by rw [← HE.out]; simp [useE, hf])
    clear hf bw1
    by_cases hk : vk = k
    · have e1 : (vk == k) = true := by simpa using hk
      have e2 : (vk != k) = false := by simpa using hk
      have HN2 := Lib.hid (show E = 0 by rw [HN.out, if_pos hk])
      clear hk
      go_wp2_with fail
      go_ret
      exact ⟨by rw [HN2.out]; rfl, HB2.out⟩
    · have e1 : (vk == k) = false := by simpa using hk
      have e2 : (vk != k) = true := by simpa using hk
      have HN2 := Lib.hid (show E = 7 by rw [HN.out, if_neg hk])
      clear hk
      go_wp2_with fail
      go_ret
      exact ⟨by rw [HN2.out]; rfl, HB2.out⟩

/-- The first procedure of that name. -/
def idxP (ps : List PR) (s : ByteArray) : Option Nat := ps.findIdx? fun r => r.s.toList == s.toList
/-- scope.Proc. -/
def procE (ps : List PR) (s : ByteArray) : Int := match idxP ps s with
  | some i => i
  | none => -1

set_option maxHeartbeats 1000000 in
theorem Proc1_any (rs : ByteArray) (u1 u2 u3 u4 u5 : Value) (s : ByteArray) (nb : Nat) (w : World) (hc : w.cell? ⟨nb, 0, none⟩ = some (.string s)) :
    Calls Try.prog 69 #[.agg #[.string rs, u1, u2, u3, u4, u5], .pointer (some ⟨nb, 0, none⟩)] w fun e w' => e = .returned (.bool (rs.toList == s.toList)) ∧ Below w.heap.size w w' := by
  have hc' := cell_al hc
  go_enter Try.func69, Try.ntmps69
  go_wp2_with fail
  go_ret
  exact ⟨rfl, (Below.refl _ _).alloc (Nat.le_refl _) _⟩

set_option maxHeartbeats 2000000 in
theorem IndexFuncP_any (ps : List PR) (A : Option Addr) (c : Nat) (s : ByteArray) (nb : Nat) (S : Nat → Prop) (w : World) (hrow : RowP w S A ps) (hl : ps.length ≤ LV) (hc : w.cell? ⟨nb, 0, none⟩ = some (.string s)) :
    Calls Try.prog 68 #[.slice A ps.length c, .func (.func 69) #[] #[.pointer (some ⟨nb, 0, none⟩)]] w fun e w' => e = .returned (.int .i64 (procE ps s)) ∧ Below w.heap.size w w' := by
  have hl' := LV_int hl
  have HROW := Lib.hid hrow
  have HC := Lib.hid hc
  obtain ⟨R, hR⟩ : ∃ R, procE ps s = R := ⟨_, rfl⟩
  rw [hR]
  have HR := Lib.hid hR
  clear hrow hl hc hR
  go_enter Try.func68, Try.ntmps68
  go_wp2_with fail
  go_loopw [8] (fun i wr => ∃ j : Nat, j ≤ ps.length ∧ i = .int .i64 j ∧ Below w.heap.size w wr ∧ Hid (∀ q (h : q < ps.length), q < j → (ps[q].s.toList == s.toList) = false)) (fun i _ => ps.length - (intOf i).toNat)
  case atStart => exact ⟨0, Nat.zero_le _, rfl, Below.refl _ _, Lib.hid fun q _ h => by omega⟩
  case round =>
    obtain ⟨j, hj, rfl, hbl, HJ⟩ := hrel
    by_cases hlt : j < ps.length
    · obtain ⟨a, r, B1, f1, B2, f2, rfl, _, Hr, ⟨q0, q1, q2, q3, q4, q5⟩, -⟩ := (HROW.out.later hbl).nd hlt
      obtain ⟨b, hb⟩ : ∃ b, (r.s.toList == s.toList) = b := ⟨_, rfl⟩
      have HB := Lib.hid hb
      clear hb
      go_wp2_with fail
      refine (Proc1_any r.s _ _ _ _ _ s nb _ (cell_bl hbl HC.out)).mono ?_
      rintro e w1 ⟨rfl, bw1⟩
      rw [HB.out]
      have HBL := Lib.hid (bl_tt hbl bw1)
      clear bw1 q0 q1 q2 q3 q4 q5
      cases b
      · have HJ2 := Lib.hid (show ∀ q (h : q < ps.length), q < j + 1 → (ps[q].s.toList == s.toList) = false from fun q h hq => by
          by_cases e : q < j
          · exact HJ.out q h e
          · obtain rfl : q = j := by omega
            rw [Hr.out]; exact HB.out)
        go_wp2_with fail
        go_roundw
        case rel => exact ⟨j + 1, by omega, by go_num, HBL.out, HJ2⟩
        case measure => simp [intOf]; omega
      · have HN := Lib.hid (show R = j by
          rw [← HR.out]
          have : idxP ps s = some j := List.findIdx?_eq_some_iff_getElem.2 ⟨hlt, by rw [Hr.out]; exact HB.out, fun q hq => by rw [HJ.out q (by omega) hq]; simp⟩
          simp [procE, this])
        go_wp2_with fail
        go_ret
        exact ⟨by rw [HN.out]; rfl, HBL.out⟩
    · have HN := Lib.hid (show R = -1 by
        rw [← HR.out]
        have : idxP ps s = none := List.findIdx?_eq_none_iff.2 fun r hr => by
          obtain ⟨q, hq, rfl⟩ := List.getElem_of_mem hr
          exact HJ.out q hq (by omega)
        simp [procE, this])
      have HBL := Lib.hid hbl
      clear hbl
      go_wp2_with fail
      go_ret
      exact ⟨by rw [HN.out]; rfl, HBL.out⟩

set_option maxHeartbeats 2000000 in
theorem Proc_any (p : PG) (S : Nat → Prop) (v : Value) (s : ByteArray) (w : World) (hv : PV w S p v) : Calls Try.prog 53 #[v, .string s] w fun e w' => e = .returned (.int .i64 (procE p.prs s)) ∧ Below w.heap.size w w' := by
  obtain ⟨A1, c1, A2, c2, A3, c3, rfl, hr⟩ := hv
  have HR := Lib.hid hr
  obtain ⟨L1, hL1⟩ : ∃ L, p.vs.length = L := ⟨_, rfl⟩
  rw [hL1]
  clear hr hL1
  go_enter Try.func53, Try.ntmps53
  go_wp2_with fail
  refine (IndexFuncP_any p.prs A2 c2 s (w.heap.size + 1) S _ (HR.out.procs.later (bl_al (bl_al (Below.refl _ _) _) _)) HR.out.lp (by simp)).mono ?_
  rintro e w1 ⟨rfl, bw1⟩
  have HB := Lib.hid (bl_tt (bl_al (bl_al (Below.refl w.heap.size w) _) _) bw1)
  clear bw1
  go_wp2_with fail
  go_ret
  exact ⟨rfl, HB.out⟩

end Go.Proofs.Ytldcjboignbfpaa
