/-
  The contract of scope.fault.
-/
import Derived.Test.YtldcjboignbfpaaScp
import Derived.Deep.RegionHeld3
import Derived.Test.YtldcjboignbfpaaRg
namespace Go.Proofs.Ytldcjboignbfpaa
open Go.RowKit

/-- scope.fault. -/
def faultE (ps : List PR) (k : Int) (s : ByteArray) (l : Nat) (vs : List VD) : Int :=
  if k = 2 then useE vs s 1 else if k = 3 then useE vs s 2 else if k = 4 ∨ k = 5 ∨ k = 44 ∨ k = 45 then useE vs s 3 else if k = 54 ∨ k = 55 then freshE vs s
  else if k = 50 ∨ k = 51 then (match idxP ps s with
    | none => 6
    | some i => match ps[i]? with
      | none => 6
      | some r => if l = r.ps.length then 0 else 7)
  else 0

set_option maxHeartbeats 4000000 in
set_option maxRecDepth 100000 in
theorem fault_any (p : PG) (t : T) (vs : List VD) (A : Option Addr) (c : Nat) (S S' S'' : Nat → Prop) (v1 v2 : Value) (w : World) (hv1 : PV w S p v1) (hv2 : NV w S' t v2) (hrow : RowV w S'' A vs) (hl : vs.length ≤ LV) :
    Calls Try.prog 70 #[v1, v2, .slice A vs.length c] w fun e w' => e = .returned (.int .i64 (faultE p.prs t.k t.s t.ks.length vs)) ∧ Below w.heap.size w w' := by
  have hvv := hv1
  obtain ⟨A1, c1, A2, c2, A3, c3, rfl, hr⟩ := hv1
  have HPR := Lib.hid hr.procs
  have hlp := LV_int hr.lp
  obtain ⟨L1, hL1⟩ : ∃ L, p.vs.length = L := ⟨_, rfl⟩
  obtain ⟨L2, hL2⟩ : ∃ L, p.prs.length = L := ⟨_, rfl⟩
  obtain ⟨k, hk⟩ : ∃ k, p.m.k = k := ⟨_, rfl⟩
  obtain ⟨n, hn⟩ : ∃ n, p.m.n = n := ⟨_, rfl⟩
  obtain ⟨s, hs⟩ : ∃ s, p.m.s = s := ⟨_, rfl⟩
  obtain ⟨l3, hl3⟩ : ∃ l, p.m.ks.length = l := ⟨_, rfl⟩
  rw [hL1, hL2, hk, hn, hs, hl3]
  rw [hL1, hL2, hk, hn, hs, hl3] at hvv
  rw [hL2] at hlp
  have HL2 := Lib.hid hL2
  have HV := Lib.hid hvv
  clear hr hvv hL1 hL2 hk hn hs hl3
  obtain ⟨B, tc, rfl, _, hlk, _, _⟩ := hv2.open_
  have hlk' := LK_int hlk
  have HROW := Lib.hid hrow
  have HL := Lib.hid hl
  clear hrow hl hv2 hlk
  generalize t.k = tk, t.n = tn, t.s = ts, t.ks.length = tl at *
  obtain ⟨R, hR⟩ : ∃ R, faultE p.prs tk ts tl vs = R := ⟨_, rfl⟩
  rw [hR]
  have HR := Lib.hid hR
  clear hR
  have hb0 : ∀ o o', Below w.heap.size w ((w.alloc o).alloc o') := fun o o' => ((Below.refl _ _).alloc (Nat.le_refl _) _).alloc (by simp) _
  have HB0 := Lib.hid hb0
  clear hb0
  by_cases h2 : tk = 2
  · subst h2
    have HN := Lib.hid (show R = useE vs ts 1 by rw [← HR.out]; simp [faultE])
    go_enter Try.func70, Try.ntmps70
    go_wp2_with fail
    refine (use_any vs A c ts 1 S'' _ (HROW.out.later (HB0.out _ _)) HL.out).mono ?_
    rintro e w1 ⟨rfl, bw1⟩
    rw [← HN.out]
    have HB := Lib.hid (bl_tt (HB0.out _ _) bw1)
    clear bw1
    go_wp2_with fail
    go_ret
    exact ⟨rfl, HB.out⟩
  have f2 : (tk == 2) = false := by simpa using h2
  by_cases h3 : tk = 3
  · subst h3
    have HN := Lib.hid (show R = useE vs ts 2 by rw [← HR.out]; simp [faultE])
    go_enter Try.func70, Try.ntmps70
    go_wp2_with fail
    refine (use_any vs A c ts 2 S'' _ (HROW.out.later (HB0.out _ _)) HL.out).mono ?_
    rintro e w1 ⟨rfl, bw1⟩
    rw [← HN.out]
    have HB := Lib.hid (bl_tt (HB0.out _ _) bw1)
    clear bw1
    go_wp2_with fail
    go_ret
    exact ⟨rfl, HB.out⟩
  have f3 : (tk == 3) = false := by simpa using h3
  by_cases h4 : tk = 4
  · subst h4
    have HN := Lib.hid (show R = useE vs ts 3 by rw [← HR.out]; simp [faultE])
    go_enter Try.func70, Try.ntmps70
    go_wp2_with fail
    refine (use_any vs A c ts 3 S'' _ (HROW.out.later (HB0.out _ _)) HL.out).mono ?_
    rintro e w1 ⟨rfl, bw1⟩
    rw [← HN.out]
    have HB := Lib.hid (bl_tt (HB0.out _ _) bw1)
    clear bw1
    go_wp2_with fail
    go_ret
    exact ⟨rfl, HB.out⟩
  have f4 : (tk == 4) = false := by simpa using h4
  by_cases h5 : tk = 5
  · subst h5
    have HN := Lib.hid (show R = useE vs ts 3 by rw [← HR.out]; simp [faultE])
    go_enter Try.func70, Try.ntmps70
    go_wp2_with fail
    refine (use_any vs A c ts 3 S'' _ (HROW.out.later (HB0.out _ _)) HL.out).mono ?_
    rintro e w1 ⟨rfl, bw1⟩
    rw [← HN.out]
    have HB := Lib.hid (bl_tt (HB0.out _ _) bw1)
    clear bw1
    go_wp2_with fail
    go_ret
    exact ⟨rfl, HB.out⟩
  have f5 : (tk == 5) = false := by simpa using h5
  by_cases h44 : tk = 44
  · subst h44
    have HN := Lib.hid (show R = useE vs ts 3 by rw [← HR.out]; simp [faultE])
    go_enter Try.func70, Try.ntmps70
    go_wp2_with fail
    refine (use_any vs A c ts 3 S'' _ (HROW.out.later (HB0.out _ _)) HL.out).mono ?_
    rintro e w1 ⟨rfl, bw1⟩
    rw [← HN.out]
    have HB := Lib.hid (bl_tt (HB0.out _ _) bw1)
    clear bw1
    go_wp2_with fail
    go_ret
    exact ⟨rfl, HB.out⟩
  have f44 : (tk == 44) = false := by simpa using h44
  by_cases h45 : tk = 45
  · subst h45
    have HN := Lib.hid (show R = useE vs ts 3 by rw [← HR.out]; simp [faultE])
    go_enter Try.func70, Try.ntmps70
    go_wp2_with fail
    refine (use_any vs A c ts 3 S'' _ (HROW.out.later (HB0.out _ _)) HL.out).mono ?_
    rintro e w1 ⟨rfl, bw1⟩
    rw [← HN.out]
    have HB := Lib.hid (bl_tt (HB0.out _ _) bw1)
    clear bw1
    go_wp2_with fail
    go_ret
    exact ⟨rfl, HB.out⟩
  have f45 : (tk == 45) = false := by simpa using h45
  by_cases h54 : tk = 54
  · subst h54
    have HN := Lib.hid (show R = freshE vs ts by rw [← HR.out]; simp [faultE])
    go_enter Try.func70, Try.ntmps70
    go_wp2_with fail
    refine (fresh_any vs A c ts S'' _ (HROW.out.later (HB0.out _ _)) HL.out).mono ?_
    rintro e w1 ⟨rfl, bw1⟩
    rw [← HN.out]
    have HB := Lib.hid (bl_tt (HB0.out _ _) bw1)
    clear bw1
    go_wp2_with fail
    go_ret
    exact ⟨rfl, HB.out⟩
  have f54 : (tk == 54) = false := by simpa using h54
  by_cases h55 : tk = 55
  · subst h55
    have HN := Lib.hid (show R = freshE vs ts by rw [← HR.out]; simp [faultE])
    go_enter Try.func70, Try.ntmps70
    go_wp2_with fail
    refine (fresh_any vs A c ts S'' _ (HROW.out.later (HB0.out _ _)) HL.out).mono ?_
    rintro e w1 ⟨rfl, bw1⟩
    rw [← HN.out]
    have HB := Lib.hid (bl_tt (HB0.out _ _) bw1)
    clear bw1
    go_wp2_with fail
    go_ret
    exact ⟨rfl, HB.out⟩
  have f55 : (tk == 55) = false := by simpa using h55
  by_cases h50 : tk = 50
  · subst h50
    have HN := Lib.hid (show R = (match idxP p.prs ts with | none => 6 | some i => match p.prs[i]? with | none => 6 | some r => if tl = r.ps.length then 0 else 7) by rw [← HR.out]; simp [faultE])
    go_enter Try.func70, Try.ntmps70
    go_wp2_with fail
    refine (Proc_any p S _ ts _ (HV.out.later (HB0.out _ _))).mono ?_
    rintro e w1 ⟨rfl, bw1⟩
    have hbl := bl_tt (HB0.out _ _) bw1
    have hP := blk_bl (blk_al (heap_alloc_new w (.cells #[.slice A1 L1 c1, .slice A2 L2 c2, .int .u8 k, .int .i64 n, .string s, .slice A3 l3 c3] 38)) _) bw1
    have hN := blk_bl (heap_alloc_new (w.alloc (.cells #[.slice A1 L1 c1, .slice A2 L2 c2, .int .u8 k, .int .i64 n, .string s, .slice A3 l3 c3] 38)) (.cells #[.int .u8 50, .int .i64 tn, .string ts, .slice B tl tc] 24)) bw1
    simp only [World.size_alloc] at hN
    cases hi : idxP p.prs ts with
    | none =>
      have e1 : procE p.prs ts = -1 := by simp [procE, hi]
      rw [e1]
      have HN2 := Lib.hid (show R = 6 by rw [HN.out, hi])
      have HB := Lib.hid hbl
      clear bw1 hi e1 hP hN hbl
      go_wp2_with fail
      go_ret
      exact ⟨by rw [HN2.out]; rfl, HB.out⟩
    | some i =>
      have e1 : procE p.prs ts = i := by simp [procE, hi]
      rw [e1]
      have hi2 : i < p.prs.length := (List.findIdx?_eq_some_iff_getElem.1 hi).1
      have hiL : i < L2 := by rw [← HL2.out]; exact hi2
      obtain ⟨a, r, P1, d1, P2, d2, rfl, _, Hr, ⟨_, q1, _⟩, hpr⟩ := (HPR.out.later hbl).nd hi2
      obtain ⟨rl, hrl⟩ : ∃ l, r.ps.length = l := ⟨_, rfl⟩
      have hlr := LV_int hpr.lp
      rw [hrl] at q1 hlr
      have HN2 := Lib.hid (show R = if tl = rl then 0 else 7 by rw [HN.out, hi]; simp only; rw [List.getElem?_eq_getElem hi2, Hr.out, ← hrl])
      obtain ⟨a0, a1, a2, a3, a4, a5⟩ := box6 hP
      obtain ⟨b0, b1, b2, b3⟩ := box4 hN
      have HB := Lib.hid hbl
      clear bw1 hi e1 hP hN hbl hrl hpr
      go_wp2_with fail
      go_region_held3 (fun w' => (w'.cell? ⟨w.heap.size + 1, 3, none⟩ = some (.slice B tl tc) ∧ w'.cell? ⟨w.heap.size, 1, none⟩ = some (.slice (some a) L2 c2) ∧ w'.cell? ⟨(a.add (i * 6)).block, (a.add (i * 6)).off + 1, none⟩ = some (.slice P1 rl d1))) (exact ⟨b3, a1, q1⟩) (fail)
      by_cases hq : tl = rl
      · have g1 : (tl == rl) = true := by simpa using hq
        have g2 : (tl != rl) = false := by simpa using hq
        have g3 : ((tl : Int) == (rl : Int)) = true := by simp; omega
        have g4 : ((tl : Int) != (rl : Int)) = false := by simp; omega
        have HN3 := Lib.hid (show R = 0 by rw [HN2.out, if_pos hq])
        clear hq
        go_wp2_with fail
        go_ret
        exact ⟨by rw [HN3.out]; rfl, HB.out.drew⟩
      · have g1 : (tl == rl) = false := by simpa using hq
        have g2 : (tl != rl) = true := by simpa using hq
        have g3 : ((tl : Int) == (rl : Int)) = false := by simp; omega
        have g4 : ((tl : Int) != (rl : Int)) = true := by simp; omega
        have HN3 := Lib.hid (show R = 7 by rw [HN2.out, if_neg hq])
        clear hq
        go_wp2_with fail
        go_ret
        exact ⟨by rw [HN3.out]; rfl, HB.out.drew⟩
  have f50 : (tk == 50) = false := by simpa using h50
  by_cases h51 : tk = 51
  · subst h51
    have HN := Lib.hid (show R = (match idxP p.prs ts with | none => 6 | some i => match p.prs[i]? with | none => 6 | some r => if tl = r.ps.length then 0 else 7) by rw [← HR.out]; simp [faultE])
    go_enter Try.func70, Try.ntmps70
    go_wp2_with fail
    refine (Proc_any p S _ ts _ (HV.out.later (HB0.out _ _))).mono ?_
    rintro e w1 ⟨rfl, bw1⟩
    have hbl := bl_tt (HB0.out _ _) bw1
    have hP := blk_bl (blk_al (heap_alloc_new w (.cells #[.slice A1 L1 c1, .slice A2 L2 c2, .int .u8 k, .int .i64 n, .string s, .slice A3 l3 c3] 38)) _) bw1
    have hN := blk_bl (heap_alloc_new (w.alloc (.cells #[.slice A1 L1 c1, .slice A2 L2 c2, .int .u8 k, .int .i64 n, .string s, .slice A3 l3 c3] 38)) (.cells #[.int .u8 51, .int .i64 tn, .string ts, .slice B tl tc] 24)) bw1
    simp only [World.size_alloc] at hN
    cases hi : idxP p.prs ts with
    | none =>
      have e1 : procE p.prs ts = -1 := by simp [procE, hi]
      rw [e1]
      have HN2 := Lib.hid (show R = 6 by rw [HN.out, hi])
      have HB := Lib.hid hbl
      clear bw1 hi e1 hP hN hbl
      go_wp2_with fail
      go_ret
      exact ⟨by rw [HN2.out]; rfl, HB.out⟩
    | some i =>
      have e1 : procE p.prs ts = i := by simp [procE, hi]
      rw [e1]
      have hi2 : i < p.prs.length := (List.findIdx?_eq_some_iff_getElem.1 hi).1
      have hiL : i < L2 := by rw [← HL2.out]; exact hi2
      obtain ⟨a, r, P1, d1, P2, d2, rfl, _, Hr, ⟨_, q1, _⟩, hpr⟩ := (HPR.out.later hbl).nd hi2
      obtain ⟨rl, hrl⟩ : ∃ l, r.ps.length = l := ⟨_, rfl⟩
      have hlr := LV_int hpr.lp
      rw [hrl] at q1 hlr
      have HN2 := Lib.hid (show R = if tl = rl then 0 else 7 by rw [HN.out, hi]; simp only; rw [List.getElem?_eq_getElem hi2, Hr.out, ← hrl])
      obtain ⟨a0, a1, a2, a3, a4, a5⟩ := box6 hP
      obtain ⟨b0, b1, b2, b3⟩ := box4 hN
      have HB := Lib.hid hbl
      clear bw1 hi e1 hP hN hbl hrl hpr
      go_wp2_with fail
      go_region_held3 (fun w' => (w'.cell? ⟨w.heap.size + 1, 3, none⟩ = some (.slice B tl tc) ∧ w'.cell? ⟨w.heap.size, 1, none⟩ = some (.slice (some a) L2 c2) ∧ w'.cell? ⟨(a.add (i * 6)).block, (a.add (i * 6)).off + 1, none⟩ = some (.slice P1 rl d1))) (exact ⟨b3, a1, q1⟩) (fail)
      by_cases hq : tl = rl
      · have g1 : (tl == rl) = true := by simpa using hq
        have g2 : (tl != rl) = false := by simpa using hq
        have g3 : ((tl : Int) == (rl : Int)) = true := by simp; omega
        have g4 : ((tl : Int) != (rl : Int)) = false := by simp; omega
        have HN3 := Lib.hid (show R = 0 by rw [HN2.out, if_pos hq])
        clear hq
        go_wp2_with fail
        go_ret
        exact ⟨by rw [HN3.out]; rfl, HB.out.drew⟩
      · have g1 : (tl == rl) = false := by simpa using hq
        have g2 : (tl != rl) = true := by simpa using hq
        have g3 : ((tl : Int) == (rl : Int)) = false := by simp; omega
        have g4 : ((tl : Int) != (rl : Int)) = true := by simp; omega
        have HN3 := Lib.hid (show R = 7 by rw [HN2.out, if_neg hq])
        clear hq
        go_wp2_with fail
        go_ret
        exact ⟨by rw [HN3.out]; rfl, HB.out.drew⟩
  have f51 : (tk == 51) = false := by simpa using h51
  have HN := Lib.hid (show R = 0 by rw [← HR.out]; simp [faultE, h2, h3, h4, h5, h44, h45, h54, h55, h50, h51])
  clear h2 h3 h4 h5 h44 h45 h54 h55 h50 h51
  go_enter Try.func70, Try.ntmps70
  go_wp2_with fail
  go_ret
  exact ⟨by rw [HN.out]; rfl, HB0.out _ _⟩

end Go.Proofs.Ytldcjboignbfpaa

/-
  The contract of scope.argument.
-/
namespace Go.Proofs.Ytldcjboignbfpaa
open Go.RowKit

/-- scope.argument: the argument named m (number i of l) of a call of s. -/
def argE (ps : List PR) (s : ByteArray) (l i : Nat) (m : ByteArray) (vs : List VD) : Int := match findV vs m with
  | none => 6
  | some v => match idxP ps s with
    | none => 0
    | some j => match ps[j]? with
      | none => 0
      | some r => if l = r.ps.length then (match r.ps[i]? with
        | none => 0
        | some q => if v.k = q.k ∧ v.n = q.n then 0 else 7) else 0

theorem box3 {w : World} {b : Nat} {E : TypeId} {u0 u1 u2 : Value} (h : w.heap[b]? = some (.cells #[u0, u1, u2] E (0, 0))) : w.cell? ⟨b, 0, none⟩ = some u0 ∧ w.cell? ⟨b, 1, none⟩ = some u1 ∧ w.cell? ⟨b, 2, none⟩ = some u2 :=
  ⟨cell_of_blk h rfl, cell_of_blk h rfl, cell_of_blk h rfl⟩

set_option maxHeartbeats 8000000 in
set_option maxRecDepth 100000 in
theorem argument_any (p : PG) (t : T) (i : Nat) (hi : i < t.ks.length) (vs : List VD) (A : Option Addr) (c : Nat) (S S' S'' : Nat → Prop) (v1 v2 : Value) (w : World) (hv1 : PV w S p v1) (hv2 : NV w S' t v2) (hrow : RowV w S'' A vs) (hl : vs.length ≤ LV) :
    Calls Try.prog 72 #[v1, v2, .int .i64 i, .slice A vs.length c] w fun e w' => e = .returned (.int .i64 (argE p.prs t.s t.ks.length i t.ks[i].s vs)) ∧ Below w.heap.size w w' := by
  have hvv := hv1
  obtain ⟨A1, c1, A2, c2, A3, c3, rfl, hr⟩ := hv1
  have HPR := Lib.hid hr.procs
  have hlp := LV_int hr.lp
  obtain ⟨L1, hL1⟩ : ∃ L, p.vs.length = L := ⟨_, rfl⟩
  obtain ⟨L2, hL2⟩ : ∃ L, p.prs.length = L := ⟨_, rfl⟩
  obtain ⟨k, hk⟩ : ∃ k, p.m.k = k := ⟨_, rfl⟩
  obtain ⟨n, hn⟩ : ∃ n, p.m.n = n := ⟨_, rfl⟩
  obtain ⟨s, hs⟩ : ∃ s, p.m.s = s := ⟨_, rfl⟩
  obtain ⟨l3, hl3⟩ : ∃ l, p.m.ks.length = l := ⟨_, rfl⟩
  rw [hL1, hL2, hk, hn, hs, hl3]
  rw [hL1, hL2, hk, hn, hs, hl3] at hvv
  rw [hL2] at hlp
  have HL2 := Lib.hid hL2
  have HV := Lib.hid hvv
  clear hr hvv hL1 hL2 hk hn hs hl3
  obtain ⟨B, tc, rfl, _, hlk, _, hrk⟩ := hv2.open_
  have hlk' := LK_int hlk
  have HROW := Lib.hid hrow
  have HL := Lib.hid hl
  obtain ⟨b, u, B1, f1, rfl, _, Hu, ⟨z0, z1, z2, z3⟩, -⟩ := hrk.nd hi
  rw [Hu.out]
  clear hrow hl hv2 hlk hrk z0 z1 z3
  obtain ⟨us, hus⟩ : ∃ us, u.s = us := ⟨_, rfl⟩
  rw [hus] at z2 ⊢
  clear hus Hu
  generalize t.k = tk, t.n = tn, t.s = ts, t.ks.length = tl at *
  obtain ⟨R, hR⟩ : ∃ R, argE p.prs ts tl i us vs = R := ⟨_, rfl⟩
  rw [hR]
  have HR := Lib.hid hR
  clear hR
  have hb0 : ∀ o o', Below w.heap.size w ((w.alloc o).alloc o') := fun o o' => ((Below.refl _ _).alloc (Nat.le_refl _) _).alloc (by simp) _
  have HB0 := Lib.hid hb0
  have z2' := fun o o' => cell_al (cell_al z2 o) o'
  clear hb0 z2
  go_enter Try.func72, Try.ntmps72
  go_wp2_with fail
  refine (Find_any vs A c us S'' _ (HROW.out.later (HB0.out _ _)) HL.out).mono ?_
  rintro e w1 ⟨rfl, bw1⟩
  have hbl := bl_tt (HB0.out _ _) bw1
  have hP := blk_bl (blk_al (heap_alloc_new w (.cells #[.slice A1 L1 c1, .slice A2 L2 c2, .int .u8 k, .int .i64 n, .string s, .slice A3 l3 c3] 38)) _) bw1
  have hN := blk_bl (heap_alloc_new (w.alloc (.cells #[.slice A1 L1 c1, .slice A2 L2 c2, .int .u8 k, .int .i64 n, .string s, .slice A3 l3 c3] 38)) (.cells #[.int .u8 tk, .int .i64 tn, .string ts, .slice (some b) tl tc] 24)) bw1
  simp only [World.size_alloc] at hN
  cases hf : findV vs us with
  | none =>
    have HN := Lib.hid (show R = 6 by rw [← HR.out]; simp [argE, hf])
    have HB := Lib.hid (bl_al hbl (.cells #[.string ⟨#[]⟩, .int .u8 0, .int .i64 0] 56))
    clear hf bw1 hP hN hbl z2'
    go_wp2_with fail
    go_ret
    exact ⟨by rw [HN.out]; rfl, HB.out⟩
  | some v =>
    obtain ⟨vm, vk, vl⟩ := v
    have hq2 := bl_al hbl (.cells #[.string vm, .int .u8 vk, .int .i64 vl] 56)
    have hP2 := blk_al hP (.cells #[.string vm, .int .u8 vk, .int .i64 vl] 56)
    have hN2 := blk_al hN (.cells #[.string vm, .int .u8 vk, .int .i64 vl] 56)
    have hV2 := heap_alloc_new w1 (.cells #[.string vm, .int .u8 vk, .int .i64 vl] 56)
    have HR2 := Lib.hid (show R = (match idxP p.prs ts with
      | none => 0
      | some j => match p.prs[j]? with
        | none => 0
        | some r => if tl = r.ps.length then (match r.ps[i]? with
          | none => 0
          | some q => if vk = q.k ∧ vl = q.n then 0 else 7) else 0) by rw [← HR.out]; simp [argE, hf])
    obtain ⟨a0, a1, a2, a3, a4, a5⟩ := box6 hP2
    obtain ⟨b0, b1, b2, b3⟩ := box4 hN2
    have HP2 := Lib.hid hP2
    have HN2 := Lib.hid hN2
    have HV2 := Lib.hid hV2
    have HQ2 := Lib.hid hq2
    clear hf bw1 hP hN hbl z2' hP2 hN2 hV2 hq2 HR
    go_wp2_with fail
    refine (Proc_any p S _ ts _ (HV.out.later HQ2.out)).mono ?_
    rintro e w2 ⟨rfl, bw2⟩
    have hbl := bl_tt HQ2.out bw2
    have hP := blk_bl HP2.out bw2
    have hN := blk_bl HN2.out bw2
    have hV := blk_bl HV2.out bw2
    clear a0 a1 a2 a3 a4 a5 b0 b1 b2 b3 HP2 HN2 HV2 HQ2 bw2
    cases hi2 : idxP p.prs ts with
    | none =>
      have e1 : procE p.prs ts = -1 := by simp [procE, hi2]
      rw [e1]
      have HN3 := Lib.hid (show R = 0 by rw [HR2.out, hi2])
      have HB := Lib.hid hbl
      clear hi2 e1 hP hN hV hbl
      go_wp2_with fail
      refine wp_region_noPanic ?_
      refine wp_region_G (fun _ => True) (fun _ => True) 20 (by kernel_rfl) ?_
      have hSS : (fun _ : World => True) w2.drew ∧ (fun _ : World => True) w2.drew := ⟨trivial, trivial⟩
      refine wpG_take1 (i := 0) (v := ?_) rfl (by kernel_rfl) (by kernel_rfl) (by kernel_rfl) (by decide) (fun _ _ _ h => h) (Or.inl ⟨by rfl, ?_⟩) hSS ?_
      rotate_left 1
      · (intro w hSw; (try dsimp only at hSw); (try simp only [List.getElem_toArray, List.getElem_cons_succ, List.getElem_cons_zero]); go_simp; (try with_reducible rfl))
      (try simp only [Act.put, List.getElem_toArray, List.getElem_cons_succ, List.getElem_cons_zero, List.setIfInBounds_toArray, List.set_cons_zero, List.set_cons_succ])
      refine wpG_take1 (i := 1) (v := ?_) rfl (by kernel_rfl) (by kernel_rfl) (by kernel_rfl) (by decide) (fun _ _ _ h => h) (Or.inl ⟨by rfl, ?_⟩) hSS ?_
      rotate_left 1
      · (intro w hSw; (try dsimp only at hSw); (try simp only [List.getElem_toArray, List.getElem_cons_succ, List.getElem_cons_zero]); go_simp; (try with_reducible rfl))
      (try simp only [Act.put, List.getElem_toArray, List.getElem_cons_succ, List.getElem_cons_zero, List.setIfInBounds_toArray, List.set_cons_zero, List.set_cons_succ])
      refine wpG_take1 (i := 2) (v := ?_) rfl (by kernel_rfl) (by kernel_rfl) (by kernel_rfl) (by decide) (fun _ _ _ h => h) (Or.inl ⟨by rfl, ?_⟩) hSS ?_
      rotate_left 1
      · (intro w hSw; (try dsimp only at hSw); (try simp only [List.getElem_toArray, List.getElem_cons_succ, List.getElem_cons_zero]); go_simp; (try with_reducible rfl))
      (try simp only [Act.put, List.getElem_toArray, List.getElem_cons_succ, List.getElem_cons_zero, List.setIfInBounds_toArray, List.set_cons_zero, List.set_cons_succ])
      refine wpG_take1 (i := 3) (v := undef) rfl (by kernel_rfl) (by kernel_rfl) (by kernel_rfl) (by decide) (fun _ _ _ h => h) (Or.inr ⟨by rfl, rfl⟩) hSS ?_
      (try simp only [Act.put, List.getElem_toArray, List.getElem_cons_succ, List.getElem_cons_zero, List.setIfInBounds_toArray, List.set_cons_zero, List.set_cons_succ])
      refine wpG_take1 (i := 4) (v := undef) rfl (by kernel_rfl) (by kernel_rfl) (by kernel_rfl) (by decide) (fun _ _ _ h => h) (Or.inr ⟨by rfl, rfl⟩) hSS ?_
      (try simp only [Act.put, List.getElem_toArray, List.getElem_cons_succ, List.getElem_cons_zero, List.setIfInBounds_toArray, List.set_cons_zero, List.set_cons_succ])
      refine wpG_take1 (i := 5) (v := undef) rfl (by kernel_rfl) (by kernel_rfl) (by kernel_rfl) (by decide) (fun _ _ _ h => h) (Or.inr ⟨by rfl, rfl⟩) hSS ?_
      (try simp only [Act.put, List.getElem_toArray, List.getElem_cons_succ, List.getElem_cons_zero, List.setIfInBounds_toArray, List.set_cons_zero, List.set_cons_succ])
      refine wpG_take1 (i := 6) (v := undef) rfl (by kernel_rfl) (by kernel_rfl) (by kernel_rfl) (by decide) (fun _ _ _ h => h) (Or.inr ⟨by rfl, rfl⟩) hSS ?_
      (try simp only [Act.put, List.getElem_toArray, List.getElem_cons_succ, List.getElem_cons_zero, List.setIfInBounds_toArray, List.set_cons_zero, List.set_cons_succ])
      refine wpG_take1 (i := 7) (v := undef) rfl (by kernel_rfl) (by kernel_rfl) (by kernel_rfl) (by decide) (fun _ _ _ h => h) (Or.inr ⟨by rfl, rfl⟩) hSS ?_
      (try simp only [Act.put, List.getElem_toArray, List.getElem_cons_succ, List.getElem_cons_zero, List.setIfInBounds_toArray, List.set_cons_zero, List.set_cons_succ])
      refine wpG_take1 (i := 8) (v := undef) rfl (by kernel_rfl) (by kernel_rfl) (by kernel_rfl) (by decide) (fun _ _ _ h => h) (Or.inr ⟨by rfl, rfl⟩) hSS ?_
      (try simp only [Act.put, List.getElem_toArray, List.getElem_cons_succ, List.getElem_cons_zero, List.setIfInBounds_toArray, List.set_cons_zero, List.set_cons_succ])
      refine wpG_take1 (i := 9) (v := undef) rfl (by kernel_rfl) (by kernel_rfl) (by kernel_rfl) (by decide) (fun _ _ _ h => h) (Or.inr ⟨by rfl, rfl⟩) hSS ?_
      (try simp only [Act.put, List.getElem_toArray, List.getElem_cons_succ, List.getElem_cons_zero, List.setIfInBounds_toArray, List.set_cons_zero, List.set_cons_succ])
      refine wpG_take1 (i := 10) (v := undef) rfl (by kernel_rfl) (by kernel_rfl) (by kernel_rfl) (by decide) (fun _ _ _ h => h) (Or.inr ⟨by rfl, rfl⟩) hSS ?_
      (try simp only [Act.put, List.getElem_toArray, List.getElem_cons_succ, List.getElem_cons_zero, List.setIfInBounds_toArray, List.set_cons_zero, List.set_cons_succ])
      refine wpG_take1 (i := 11) (v := undef) rfl (by kernel_rfl) (by kernel_rfl) (by kernel_rfl) (by decide) (fun _ _ _ h => h) (Or.inr ⟨by rfl, rfl⟩) hSS ?_
      (try simp only [Act.put, List.getElem_toArray, List.getElem_cons_succ, List.getElem_cons_zero, List.setIfInBounds_toArray, List.set_cons_zero, List.set_cons_succ])
      refine wpG_take1 (i := 12) (v := undef) rfl (by kernel_rfl) (by kernel_rfl) (by kernel_rfl) (by decide) (fun _ _ _ h => h) (Or.inr ⟨by rfl, rfl⟩) hSS ?_
      (try simp only [Act.put, List.getElem_toArray, List.getElem_cons_succ, List.getElem_cons_zero, List.setIfInBounds_toArray, List.set_cons_zero, List.set_cons_succ])
      refine wpG_take1 (i := 13) (v := undef) rfl (by kernel_rfl) (by kernel_rfl) (by kernel_rfl) (by decide) (fun _ _ _ h => h) (Or.inr ⟨by rfl, rfl⟩) hSS ?_
      (try simp only [Act.put, List.getElem_toArray, List.getElem_cons_succ, List.getElem_cons_zero, List.setIfInBounds_toArray, List.set_cons_zero, List.set_cons_succ])
      refine wpG_take1 (i := 14) (v := ?_) rfl (by kernel_rfl) (by kernel_rfl) (by kernel_rfl) (by decide) (fun _ _ _ h => h) (Or.inl ⟨by rfl, ?_⟩) hSS ?_
      rotate_left 1
      · (intro w hSw; (try dsimp only at hSw); (try simp only [List.getElem_toArray, List.getElem_cons_succ, List.getElem_cons_zero]); go_simp; (try with_reducible rfl))
      (try simp only [Act.put, List.getElem_toArray, List.getElem_cons_succ, List.getElem_cons_zero, List.setIfInBounds_toArray, List.set_cons_zero, List.set_cons_succ])
      refine wpG_done (by kernel_rfl) ?_
      refine NoPanic.normal ?_
      clear hSS
      go_wp2_with fail
      go_ret
      exact ⟨by rw [HN3.out]; rfl, HB.out.drew⟩
    | some j =>
      have e1 : procE p.prs ts = j := by simp [procE, hi2]
      rw [e1]
      have hj2 : j < p.prs.length := (List.findIdx?_eq_some_iff_getElem.1 hi2).1
      have hjL : j < L2 := by rw [← HL2.out]; exact hj2
      obtain ⟨a, r, P1, d1, P2, d2, rfl, _, Hr, ⟨_, q1, _⟩, hpr⟩ := (HPR.out.later hbl).nd hj2
      obtain ⟨rl, hrl⟩ : ∃ l, r.ps.length = l := ⟨_, rfl⟩
      have hlr := LV_int hpr.lp
      have HPW := Lib.hid hpr.row
      rw [hrl] at q1 hlr
      have HR3 := Lib.hid (show R = if tl = rl then (match r.ps[i]? with
          | none => 0
          | some q => if vk = q.k ∧ vl = q.n then 0 else 7) else 0 by rw [HR2.out, hi2]; simp only; rw [List.getElem?_eq_getElem hj2, Hr.out, ← hrl])
      have HRL := Lib.hid hrl
      obtain ⟨a0, a1, a2, a3, a4, a5⟩ := box6 hP
      obtain ⟨b0, b1, b2, b3⟩ := box4 hN
      have HVB := Lib.hid hV
      have HB := Lib.hid hbl
      have hj0 : decide ((j : Int) < 0) = false := by simp
      clear hi2 e1 hP hN hbl hrl hpr hV
      go_wp2_with fail
      go_region_held3 (fun w' => (w'.cell? ⟨w.heap.size + 1, 3, none⟩ = some (.slice (some b) tl tc) ∧ w'.cell? ⟨w.heap.size, 1, none⟩ = some (.slice (some a) L2 c2) ∧ w'.cell? ⟨(a.add (j * 6)).block, (a.add (j * 6)).off + 1, none⟩ = some (.slice P1 rl d1))) (exact ⟨b3, a1, q1⟩) (fail)
      by_cases hq : tl = rl
      · have g1 : (tl == rl) = true := by simpa using hq
        have g2 : (tl != rl) = false := by simpa using hq
        have g3 : ((tl : Int) == (rl : Int)) = true := by simp; omega
        have g4 : ((tl : Int) != (rl : Int)) = false := by simp; omega
        have hir : i < r.ps.length := by rw [HRL.out]; omega
        have hir' : i < rl := by omega
        obtain ⟨e, q, rfl, _, Hq, ⟨y0, y1, y2⟩, hfq⟩ := (HPW.out.later (Below.refl _ _).drew).nd hir
        have HR4 := Lib.hid (show R = if vk = q.k ∧ vl = q.n then 0 else 7 by rw [HR3.out, if_pos hq, List.getElem?_eq_getElem hir, Hq.out])
        obtain ⟨qm, qk, ql⟩ := q
        simp only at y0 y1 y2 HR4
        have hV3 := box3 HVB.out
        obtain ⟨x0, x1, x2⟩ := hV3
        have HB9 := Lib.hid (bl_al HB.out.drew (.cells #[.string qm, .int .u8 qk, .int .i64 ql] 56))
        have hlt9 := blk_lt HVB.out
        clear hq Hq hfq HPW HVB
        by_cases hk1 : vk = qk
        · have k1 : (vk == qk) = true := by simpa using hk1
          have k2 : (vk != qk) = false := by simpa using hk1
          by_cases hk2 : vl = ql
          · have k3 : (vl == ql) = true := by simpa using hk2
            have k4 : (vl != ql) = false := by simpa using hk2
            have HN3 := Lib.hid (show R = 0 by rw [HR4.out, if_pos ⟨hk1, hk2⟩])
            clear hk1 hk2
            go_wp2_with fail
            go_ret
            exact ⟨by rw [HN3.out]; rfl, HB9.out⟩
          · have k3 : (vl == ql) = false := by simpa using hk2
            have k4 : (vl != ql) = true := by simpa using hk2
            have HN3 := Lib.hid (show R = 7 by rw [HR4.out, if_neg (fun h => hk2 h.2)])
            clear hk1 hk2
            go_wp2_with fail
            go_ret
            exact ⟨by rw [HN3.out]; rfl, HB9.out⟩
        · have k1 : (vk == qk) = false := by simpa using hk1
          have k2 : (vk != qk) = true := by simpa using hk1
          have HN3 := Lib.hid (show R = 7 by rw [HR4.out, if_neg (fun h => hk1 h.1)])
          clear hk1
          go_wp2_with fail
          go_ret
          exact ⟨by rw [HN3.out]; rfl, HB9.out⟩
      · have g1 : (tl == rl) = false := by simpa using hq
        have g2 : (tl != rl) = true := by simpa using hq
        have g3 : ((tl : Int) == (rl : Int)) = false := by simp; omega
        have g4 : ((tl : Int) != (rl : Int)) = true := by simp; omega
        have HN3 := Lib.hid (show R = 0 by rw [HR3.out, if_neg hq])
        clear hq
        go_wp2_with fail
        go_ret
        exact ⟨by rw [HN3.out]; rfl, HB.out.drew⟩

end Go.Proofs.Ytldcjboignbfpaa
