/-
  The law SimplifyFixed, walked.
-/
import Derived.Test.YtldcjboignbfpaaLawB
import Derived.Test.YtldcjboignbfpaaFx
import Derived.Test.YtldcjboignbfpaaWk
import Derived.Sort.CutIn
import Derived.IntWalk
namespace Go.Proofs.Ytldcjboignbfpaa
open Go Go.RowKit
attribute [local go_sem] Oper.semAt_some

theorem small_yes {p : PG} {v : Value} {w : World} (h : smallB p = true) (hv : PV w Any p v) : Calls Try.prog 25 #[v] w fun e w' => e = .returned (.int .i64 1) ∧ Below w.heap.size w w' :=
  (small_any p Any v w hv).mono fun e w' ⟨he, hb⟩ => ⟨by rw [he, h]; rfl, hb⟩
theorem small_not {p : PG} {v : Value} {w : World} (h : smallB p = false) (hv : PV w Any p v) : Calls Try.prog 25 #[v] w fun e w' => e = .returned (.int .i64 0) ∧ Below w.heap.size w w' :=
  (small_any p Any v w hv).mono fun e w' ⟨he, hb⟩ => ⟨by rw [he, h]; rfl, hb⟩
theorem wrap_small {n : Nat} (h : n ≤ 2000) : wrap64 (n : Int) = n := by unfold wrap64; omega
theorem Valid_yes {p : PG} {S : Nat → Prop} {v : Value} {w : World} (h : validB p = true) (hv : PV w S p v) : Calls Try.prog 23 #[v] w fun e w' => e = .returned (.bool true) ∧ Below w.heap.size w w' :=
  (Valid_any p S v w hv).mono fun e w' ⟨he, hb⟩ => ⟨by rw [he, h], hb⟩

theorem fnCancels : IsFn Try.prog 14 Try.f14 := ⟨Try.func14, by kernel_rfl, by kernel_rfl⟩
/-- A call of a Go function with two arguments, as one step of a region that draws its order. -/
theorem step_call2 {P : Program} {ops : Array Oper} {o : Oper} {a : Act} {w : World} {K : Act → World → Prop} {Q : Exit → Act → World → Prop} {F : Prop} (hgd : o.guard = none) (x x1 x2 : Operand) (ats : Array TypeId)
    (ho : o.op = .call { callee := .value x, args := #[x1, x2], argTypes := ats }) (f : FuncId) (fn : Func) (hf : IsFn P f fn) (hv : a.eval x = .func (.func f) #[] #[]) (v1 v2 : Value) (h1 : a.eval x1 = v1) (h2 : a.eval x2 = v2) (R : Value → World → Prop)
    (hc : Calls P f #[v1, v2] w fun e w' => ∃ v, e = .returned v ∧ R v w') (h : ∀ v w', R v w' → K (a.put o.dst v) w') :
    if Region.wanted o (yielded ops a.tmps) = true then Oper.wp P o a w K Q else F := by
  have hw : Region.wanted o (yielded ops a.tmps) = true := by simp [Region.wanted, hgd]
  rw [if_pos hw]
  subst h1 h2
  have e : (execOp a.eval o).run P w = .ok (.enter f #[a.eval x1, a.eval x2]) w := by
    unfold execOp
    simp only [ho, resolve, hv, Deferred.ofValue, Sem.run_bind, Sem.run_pure, Result.andThen_ok, invoke, run_callFunc hf, Array.empty_append, Array.append_empty, List.map_toArray, List.map_cons, List.map_nil]
  unfold Oper.wp
  rw [e, Oper.upon_enter]
  refine hc.mono ?_
  rintro e w' ⟨v, rfl, hR⟩
  exact h v w' hR
theorem cancV_of {P : Program} {f : FuncId} {args : Array Value} {w : World} {b : Bool} (h : Calls P f args w fun e w' => e = .returned (.bool b) ∧ Below w.heap.size w w') : Calls P f args w fun e w' => ∃ v, e = .returned v ∧ IsV (.bool b) w v w' :=
  h.mono fun _ _ ⟨he, hb⟩ => ⟨_, he, rfl, hb⟩
theorem fnWalk1 : IsFn Try.prog 47 Try.f47 := ⟨Try.func47, by kernel_rfl, by kernel_rfl⟩

set_option maxHeartbeats 8000000 in
set_option maxRecDepth 100000 in
theorem Fixed_walk (p : PG) (v1 : Value) (w : World) (hv1 : PV w Any p v1) : Calls Try.prog 8 #[v1] w fun e w' => e = .returned (.bool true) ∧ Below w.heap.size w w' := by
  have hvv := hv1
  obtain ⟨A1, c1, A2, c2, A3, c3, rfl, hr⟩ := hv1
  have hmm := hr.main
  obtain ⟨L1, hL1⟩ : ∃ L, p.vs.length = L := ⟨_, rfl⟩
  obtain ⟨L2, hL2⟩ : ∃ L, p.prs.length = L := ⟨_, rfl⟩
  obtain ⟨k, hk⟩ : ∃ k, p.m.k = k := ⟨_, rfl⟩
  obtain ⟨n, hn⟩ : ∃ n, p.m.n = n := ⟨_, rfl⟩
  obtain ⟨s, hs⟩ : ∃ s, p.m.s = s := ⟨_, rfl⟩
  obtain ⟨l3, hl3⟩ : ∃ l, p.m.ks.length = l := ⟨_, rfl⟩
  rw [hk, hn, hs, hl3] at hmm
  rw [hL1, hL2, hk, hn, hs, hl3]
  rw [hL1, hL2, hk, hn, hs, hl3] at hvv
  have HM := Lib.hid hmm
  have HV := Lib.hid hvv
  clear hr hmm hvv hL1 hL2 hk hn hs hl3
  refine (callsIn_wide (n := 3)).1 (callsIn_of_wp_marks Try.func8 rfl trivial ((wpIn_wide (n := 3)).2 ?_))
  simp only [Try.ntmps8, List.size_toArray, List.length_cons, List.length_nil, Nat.reduceAdd, Nat.reduceSub, Array.replicate_succ, Array.replicate_zero, List.push_toArray, List.append_toArray, List.nil_append, List.cons_append]
  go_wp2_with fail
  refine (awake_any _).mono ?_
  rintro e w1 ⟨rfl, bw1⟩
  have q1 : Below w.heap.size w w1 := bl_tt (bl_al (bl_al (Below.refl _ _) _) _) bw1
  have hP := blk_bl (blk_al (heap_alloc_new w (.cells #[.slice A1 L1 c1, .slice A2 L2 c2, .int .u8 k, .int .i64 n, .string s, .slice A3 l3 c3] 38)) _) bw1
  have hN := blk_bl (heap_alloc_new (w.alloc (.cells #[.slice A1 L1 c1, .slice A2 L2 c2, .int .u8 k, .int .i64 n, .string s, .slice A3 l3 c3] 38)) (.cells #[.bool false] 4)) bw1
  simp only [World.size_alloc] at hN
  obtain ⟨a0, a1, a2, a3, a4, a5⟩ := box6 hP
  have HP := Lib.hid hP
  have HR := Lib.hid hN
  clear bw1 hP hN
  go_wp2_with fail
  cases hsm : smallB p
  · refine (small_not hsm (HV.out.later q1)).mono ?_
    rintro e w2 ⟨rfl, bw2⟩
    have q2 := bl_tt q1 bw2
    have hN := blk_bl HR.out bw2
    have r0 : w2.cell? ⟨w.heap.size + 1, 0, none⟩ = some (.bool false) := cell_of_blk hN rfl
    have rf : w2.frozen? ⟨w.heap.size + 1, 0, none⟩ = false := frozen_of_blk hN
    clear a0 a1 a2 a3 a4 a5 HP HR bw2
    go_wp2_with fail
    exact ⟨.bool true, by simp [results, Try.results8, go_sem, r0], rfl, q2.setCell (by simp) _⟩
  · have HVAL := Lib.hid (small_valid hsm)
    obtain ⟨G, hG⟩ : ∃ G, progF p = G := ⟨_, rfl⟩
    have HVG := Lib.hid (show validB G = true by rw [← hG]; exact valid_simp HVAL.out)
    have HGG := Lib.hid (show progF G = G by rw [← hG]; exact progF_twice HVAL.out)
    have hGm : G.m = simp p.m := by rw [← hG, progF_yes HVAL.out]
    have hpm : isBodyB p.m = true := by have := HVAL.out; unfold validB at this; simp only [Bool.and_eq_true] at this; exact this.2
    have HNC := Lib.hid (show NC G.m by rw [hGm]; exact (simp_NC p.m).2 ((isBodyB_iff _).1 hpm).2)
    have HDEP := Lib.hid (show dep G.m ≤ 1000 by rw [hGm]; have h1 := ((isBodyB_iff _).1 hpm).1; have h2 := (simp_less p.m).2; omega)
    obtain ⟨zp, hzp⟩ : ∃ z, wrap64 (size p.m) = z := ⟨_, rfl⟩
    obtain ⟨zq, hzq⟩ : ∃ z, wrap64 (size G.m) = z := ⟨_, rfl⟩
    have hzz : zq ≤ zp := by
      have h1 := ((isBodyB_iff _).1 hpm).1
      have h2 := (simp_less p.m).2
      rw [← hzp, ← hzq, hGm, wrap_small (by omega), wrap_small (by omega)]
      omega
    have HG := Lib.hid hG
    have HZP := Lib.hid hzp
    have HZQ := Lib.hid hzq
    clear hzp hzq hG hGm hpm
    refine (small_yes hsm (HV.out.later q1)).mono ?_
    rintro e w2 ⟨rfl, bw2⟩
    have q2 := bl_tt q1 bw2
    have hP := blk_bl HP.out bw2
    have HR2 := Lib.hid (blk_bl HR.out bw2)
    clear a0 a1 a2 a3 a4 a5 HP HR bw2 hsm q1
    obtain ⟨a0, a1, a2, a3, a4, a5⟩ := box6 hP
    have HP := Lib.hid hP
    clear hP
    go_wp2_with fail
    refine (Program_any p Any _ _ (HV.out.later q2) (valid_len HVAL.out)).mono ?_
    rintro e w3 ⟨v3, rfl, hv3, bw3⟩
    rw [HG.out] at hv3
    have hv3' := hv3
    obtain ⟨D1, e1, D2, e2, D3, e3, rfl, hr3⟩ := hv3
    go_upto_region 6 with fail
    have hal := (Below.refl w3.heap.size w3).alloc (Nat.le_refl _) (.cells #[.slice D1 G.vs.length e1, .slice D2 G.prs.length e2, .int .u8 G.m.k, .int .i64 G.m.n, .string G.m.s, .slice D3 G.m.ks.length e3] 38)
    have HQ4 := Lib.hid (bl_al (bl_tt q2 bw3) (.cells #[.slice D1 G.vs.length e1, .slice D2 G.prs.length e2, .int .u8 G.m.k, .int .i64 G.m.n, .string G.m.s, .slice D3 G.m.ks.length e3] 38))
    have HV4 := Lib.hid ((hv3'.later hal).mono fun _ _ => (trivial : Any _))
    have HM4 := Lib.hid ((hr3.main.later hal).any)
    have hP := blk_al (blk_bl HP.out bw3) (.cells #[.slice D1 G.vs.length e1, .slice D2 G.prs.length e2, .int .u8 G.m.k, .int .i64 G.m.n, .string G.m.s, .slice D3 G.m.ks.length e3] 38)
    have hQ := heap_alloc_new w3 (.cells #[.slice D1 G.vs.length e1, .slice D2 G.prs.length e2, .int .u8 G.m.k, .int .i64 G.m.n, .string G.m.s, .slice D3 G.m.ks.length e3] 38)
    have HR4 := Lib.hid (blk_al (blk_bl HR2.out bw3) (.cells #[.slice D1 G.vs.length e1, .slice D2 G.prs.length e2, .int .u8 G.m.k, .int .i64 G.m.n, .string G.m.s, .slice D3 G.m.ks.length e3] 38))
    obtain ⟨W4, hW4⟩ : ∃ W4, w3.alloc (.cells #[.slice D1 G.vs.length e1, .slice D2 G.prs.length e2, .int .u8 G.m.k, .int .i64 G.m.n, .string G.m.s, .slice D3 G.m.ks.length e3] 38) = W4 := ⟨_, rfl⟩
    rw [hW4] at hP hQ HR4 HQ4 HV4 HM4 ⊢
    have HS1 := Lib.hid (show ∀ w', Below W4.heap.size W4 w' → (w'.cell? ⟨w.heap.size, 2, none⟩ = some (.int .u8 k) ∧ w'.cell? ⟨w.heap.size, 3, none⟩ = some (.int .i64 n) ∧ w'.cell? ⟨w.heap.size, 4, none⟩ = some (.string s) ∧ w'.cell? ⟨w.heap.size, 5, none⟩ = some (.slice A3 l3 c3)) ∧ (w'.cell? ⟨w3.heap.size, 0, none⟩ = some (.slice D1 G.vs.length e1) ∧ w'.cell? ⟨w3.heap.size, 1, none⟩ = some (.slice D2 G.prs.length e2) ∧ w'.cell? ⟨w3.heap.size, 2, none⟩ = some (.int .u8 G.m.k) ∧ w'.cell? ⟨w3.heap.size, 3, none⟩ = some (.int .i64 G.m.n) ∧ w'.cell? ⟨w3.heap.size, 4, none⟩ = some (.string G.m.s) ∧ w'.cell? ⟨w3.heap.size, 5, none⟩ = some (.slice D3 G.m.ks.length e3)) from fun w' h => ⟨(box6 (blk_bl hP h)).2.2, box6 (blk_bl hQ h)⟩)
    have HK0 := Lib.hid (HS1.out _ (Below.refl _ _).drew)
    have HPB := Lib.hid hP
    have HQB := Lib.hid hQ
    clear hP hQ hal hv3' hr3 bw3 a0 a1 a2 a3 a4 a5 HP HR2 q2 hW4
    go_region_held3 (fun w' => (w'.cell? ⟨w.heap.size, 2, none⟩ = some (.int .u8 k) ∧ w'.cell? ⟨w.heap.size, 3, none⟩ = some (.int .i64 n) ∧ w'.cell? ⟨w.heap.size, 4, none⟩ = some (.string s) ∧ w'.cell? ⟨w.heap.size, 5, none⟩ = some (.slice A3 l3 c3)) ∧ (w'.cell? ⟨w3.heap.size, 0, none⟩ = some (.slice D1 G.vs.length e1) ∧ w'.cell? ⟨w3.heap.size, 1, none⟩ = some (.slice D2 G.prs.length e2) ∧ w'.cell? ⟨w3.heap.size, 2, none⟩ = some (.int .u8 G.m.k) ∧ w'.cell? ⟨w3.heap.size, 3, none⟩ = some (.int .i64 G.m.n) ∧ w'.cell? ⟨w3.heap.size, 4, none⟩ = some (.string G.m.s) ∧ w'.cell? ⟨w3.heap.size, 5, none⟩ = some (.slice D3 G.m.ks.length e3)))
      (first | with_reducible exact HK5.out | with_reducible exact HK4.out | with_reducible exact HK3.out | with_reducible exact HK2.out | with_reducible exact HK1.out | with_reducible exact HK0.out)
      (first
        | (go_at_call 23; refine (Valid_yes HVG.out (HV4.out.later (Below.refl _ _).drew)).mono ?_; rintro e x1 ⟨rfl, bx1⟩; have b1 := bl_tt (Below.refl W4.heap.size W4).drew bx1; have HK1 := Lib.hid (HS1.out _ b1))
        | (go_at_call 22; refine (Program_any G Any _ _ (HV4.out.later b1) (valid_len HVG.out)).mono ?_; rintro e x2 ⟨v5, rfl, hv5, bx2⟩; have b2 := bl_tt b1 bx2; have HK2 := Lib.hid (HS1.out _ b2); rw [HGG.out] at hv5; have hv5' := hv5; obtain ⟨F1, f1, F2, f2, F3, f3, rfl, -⟩ := hv5)
        | (go_at_call 24; refine (Same_eq rfl hv5' (HV4.out.later b2)).mono ?_; rintro e x3 ⟨rfl, bx3⟩; have b3 := bl_tt b2 bx3; have HK3 := Lib.hid (HS1.out _ b3))
        | (go_at_call 11; first | ((with_reducible refine (Size_any G.m _ _ (HM4.out.later b3)).mono ?_); rintro e x4 ⟨rfl, bx4⟩; rw [HZQ.out]; have b4 := bl_tt b3 bx4; have HK4 := Lib.hid (HS1.out _ b4)) | ((with_reducible refine (Size_any p.m _ _ (HM.out.later (bl_tt HQ4.out b4))).mono ?_); rintro e x5 ⟨rfl, bx5⟩; rw [HZP.out]; have b5 := bl_tt b4 bx5; have HK5 := Lib.hid (HS1.out _ b5)))
        | fail)
    have q5 := bl_tt HQ4.out b5
    have hQ5 := blk_bl HQB.out b5
    have HR5 := Lib.hid (blk_bl HR4.out b5)
    have HMG5 := Lib.hid (HM4.out.later b5)
    obtain ⟨d0, d1, d2, d3, d4, d5⟩ := box6 hQ5
    clear b1 b2 b3 b4 b5 bx1 bx2 bx3 bx4 bx5 hv5' HK0 HK1 HK2 HK3 HK4 HK5 HS1 hQ5 HQB HPB HR4 HM4 HV4 HQ4
    go_wp2_with fail
    refine (Walk_any G.m _ _ HMG5.out).mono ?_
    rintro e x6 ⟨gr, k6, n6, s6, A6, m6, c6, rfl, hgr, hgb, hn6, bx6⟩
    have q6 := bl_tt q5 bx6
    have hr6 := blk_bl HR5.out bx6
    have HGB := Lib.hid hgb
    have HN6 := Lib.hid hn6
    have HQ6 := Lib.hid q6
    have HR6 := Lib.hid hr6
    clear d0 d1 d2 d3 d4 d5 bx6 hgb hn6 q6 hr6 q5 HR5 HMG5
    go_wp2_with fail
    refine (wpIn_wide (n := 3)).1 ?_
    refine range_walk (n := 3) (gf := 47) (lb := #[.pointer (some ⟨gr, 0, none⟩)]) rfl (run_callFunc fnWalk1) (Walk1_stops (3 - 1) gr G.m x6 _ k6 n6 s6 A6 m6 c6 HGB.out HN6.out HDEP.out) rfl
      (fun _ C _ => ∀ b, ¬ C b) (fun _ _ _ => False) (fun _ => False) (fun _ _ _ _ h _ => h) (fun _ _ _ _ h _ => h) (fun _ _ _ h b hb => absurd hb (h b)) (fun _ _ _ h => h.elim) (fun b hb => hb.elim) ?_ (fun _ h => h) ?_ ?_ ?_
    · rintro b (rfl | hb)
      · exact blk_lt HGB.out
      · exact hb.2
    · rintro l pre x C W pv v hC hCl hl hlW hpre ⟨Ap, mp, cp, rfl⟩ hnx
      obtain ⟨Ax, cx, rfl, hfx, hlx, hlcx, hrx⟩ := hnx.open_
      change Code.wpIn (Fence.wide.inRound l) (3 - 1 - 1) Try.prog _ _ _ _
      gi_wp2
      refine ⟨(Chg.refl _ _).alloc _, fun W2 hW2 => ?_⟩
      have hbx := hW2.keep (heap_alloc_new W (.cells #[.int .u8 x.k, .int .i64 x.n, .string x.s, .slice Ax x.ks.length cx] 24)) (show ¬ W.heap.size = l by omega)
      have hrow2 : RowAt W2 Any Ax x.ks := hrx.keep (fun _ _ _ => trivial) fun b hb hlt => by
        rw [hW2.block b (by simp; omega) (show ¬ b = l by omega)]
        exact Below.heap_alloc W _ b hlt
      have hx0 : W2.cell? ⟨W.heap.size, 0, none⟩ = some (.int .u8 x.k) := cell_of_blk hbx rfl
      have hx3 : W2.cell? ⟨W.heap.size, 3, none⟩ = some (.slice Ax x.ks.length cx) := cell_of_blk hbx rfl
      have hxm : x ∈ po G.m := by
        obtain ⟨ys, hys⟩ := hpre
        rw [← hys]; simp
      have HRD := Lib.hid (show x.k = 57 → Red x.ks from HNC.out x hxm)
      have HROW := Lib.hid hrow2
      have hlx' := LK_int hlx
      obtain ⟨kk, hkk⟩ : ∃ kk, x.k = kk := ⟨_, rfl⟩
      rw [hkk] at hx0 HRD ⊢
      have HCC := Lib.hid hC
      have HLW := Lib.hid hlW
      clear hW2 hbx hrow2 hrx hnx hfx hlcx hlx hxm hpre hkk hC
      change Code.wpIn (Fence.wide.inRound l) (3 - 1 - 1) Try.prog _ _ _ _
      by_cases h57 : kk = 57
      · subst h57
        have hRed := HRD.out rfl
        have HRED := Lib.hid hRed
        clear HRD hRed
        gi_wp2
        gi_loopw [6] (fun i wr => ∃ m : Nat, (m ≤ x.ks.length) ∧ i = .int .i64 ((m : Int) + 1) ∧ Below W2.heap.size W2 wr) (fun i _ => x.ks.length + 1 - (intOf i).toNat)
        case atStart => exact ⟨0, Nat.zero_le _, rfl, Below.refl _ _⟩
        case round =>
          obtain ⟨m, hm, rfl, hbw⟩ := hrel
          have y3 : wr.cell? ⟨W.heap.size, 3, none⟩ = some (.slice Ax x.ks.length cx) := cell_bl hbw hx3
          by_cases hlt : m + 1 < x.ks.length
          · obtain ⟨a, t1, B1, f1, rfl, _, H1, n1, hn1⟩ := (HROW.out.later hbw).nd (i := m) (by omega)
            obtain ⟨a', t2, B2, f2, e', _, H2, n2, hn2⟩ := (HROW.out.later hbw).nd (i := m + 1) hlt
            injection e' with e'
            subst e'
            have HCN := Lib.hid (show canc t1 t2 = false by
              have h := HRED.out m hlt
              rw [H1.out, H2.out] at h
              exact h)
            have hlt' : (m : Int) + 1 < (x.ks.length : Int) := by omega
            gi_upto_region 14 with fail
            have hSB : ∀ w', Below wr.heap.size wr w' → (fun w' : World => w'.cell? ⟨W.heap.size, 3, none⟩ = some (.slice (some a) x.ks.length cx) ∧ (w'.cell? (a.add (m * 4)) = some (.int .u8 t1.k) ∧ w'.cell? ⟨(a.add (m * 4)).block, (a.add (m * 4)).off + 1, none⟩ = some (.int .i64 t1.n) ∧ w'.cell? ⟨(a.add (m * 4)).block, (a.add (m * 4)).off + 2, none⟩ = some (.string t1.s) ∧ w'.cell? ⟨(a.add (m * 4)).block, (a.add (m * 4)).off + 3, none⟩ = some (.slice B1 t1.ks.length f1)) ∧ (w'.cell? (a.add ((m + 1) * 4)) = some (.int .u8 t2.k) ∧ w'.cell? ⟨(a.add ((m + 1) * 4)).block, (a.add ((m + 1) * 4)).off + 1, none⟩ = some (.int .i64 t2.n) ∧ w'.cell? ⟨(a.add ((m + 1) * 4)).block, (a.add ((m + 1) * 4)).off + 2, none⟩ = some (.string t2.s) ∧ w'.cell? ⟨(a.add ((m + 1) * 4)).block, (a.add ((m + 1) * 4)).off + 3, none⟩ = some (.slice B2 t2.ks.length f2))) w' := fun w' h => ⟨cell_bl h y3, ⟨cell_bl h n1.1, cell_bl h n1.2.1, cell_bl h n1.2.2.1, cell_bl h n1.2.2.2⟩, cell_bl h n2.1, cell_bl h n2.2.1, cell_bl h n2.2.2.1, cell_bl h n2.2.2.2⟩
            have HSB := Lib.hid hSB
            have HN1 := Lib.hid hn1
            have HN2 := Lib.hid hn2
            have hw1 : IntKind.i64.wrap (m : Int) = (m : Int) := IntWalk.i64_in _ (by omega)
            have hw2 : (0 : Int) ≤ (m : Int) + 1 := by omega
            have hw3 : ((m : Int) + 1).toNat = m + 1 := by omega
            have hw4 : m < x.ks.length := by omega
            have hSS : (fun w' : World => w'.cell? ⟨W.heap.size, 3, none⟩ = some (.slice (some a) x.ks.length cx) ∧ (w'.cell? (a.add (m * 4)) = some (.int .u8 t1.k) ∧ w'.cell? ⟨(a.add (m * 4)).block, (a.add (m * 4)).off + 1, none⟩ = some (.int .i64 t1.n) ∧ w'.cell? ⟨(a.add (m * 4)).block, (a.add (m * 4)).off + 2, none⟩ = some (.string t1.s) ∧ w'.cell? ⟨(a.add (m * 4)).block, (a.add (m * 4)).off + 3, none⟩ = some (.slice B1 t1.ks.length f1)) ∧ (w'.cell? (a.add ((m + 1) * 4)) = some (.int .u8 t2.k) ∧ w'.cell? ⟨(a.add ((m + 1) * 4)).block, (a.add ((m + 1) * 4)).off + 1, none⟩ = some (.int .i64 t2.n) ∧ w'.cell? ⟨(a.add ((m + 1) * 4)).block, (a.add ((m + 1) * 4)).off + 2, none⟩ = some (.string t2.s) ∧ w'.cell? ⟨(a.add ((m + 1) * 4)).block, (a.add ((m + 1) * 4)).off + 3, none⟩ = some (.slice B2 t2.ks.length f2))) wr.drew := hSB _ (Below.refl _ _).drew
            clear hSB hn1 hn2 n1 n2 y3
            refine wpIn_region_I (ro := some l) (fun w' : World => w'.cell? ⟨W.heap.size, 3, none⟩ = some (.slice (some a) x.ks.length cx) ∧ (w'.cell? (a.add (m * 4)) = some (.int .u8 t1.k) ∧ w'.cell? ⟨(a.add (m * 4)).block, (a.add (m * 4)).off + 1, none⟩ = some (.int .i64 t1.n) ∧ w'.cell? ⟨(a.add (m * 4)).block, (a.add (m * 4)).off + 2, none⟩ = some (.string t1.s) ∧ w'.cell? ⟨(a.add (m * 4)).block, (a.add (m * 4)).off + 3, none⟩ = some (.slice B1 t1.ks.length f1)) ∧ (w'.cell? (a.add ((m + 1) * 4)) = some (.int .u8 t2.k) ∧ w'.cell? ⟨(a.add ((m + 1) * 4)).block, (a.add ((m + 1) * 4)).off + 1, none⟩ = some (.int .i64 t2.n) ∧ w'.cell? ⟨(a.add ((m + 1) * 4)).block, (a.add ((m + 1) * 4)).off + 2, none⟩ = some (.string t2.s) ∧ w'.cell? ⟨(a.add ((m + 1) * 4)).block, (a.add ((m + 1) * 4)).off + 3, none⟩ = some (.slice B2 t2.ks.length f2))) (by kernel_rfl) ?_
            refine wpI_take (i := 0) (v := ?_) rfl (by kernel_rfl) (by kernel_rfl) (by kernel_rfl) (by kernel_rfl) (fun _ _ _ h => h) (Or.inl ⟨by rfl, ?_⟩) hSS ?_
            rotate_left 1
            · (intro w hSw; (try dsimp only at hSw); (try simp only [List.getElem_toArray, List.getElem_cons_succ, List.getElem_cons_zero]); go_simp; (try with_reducible rfl))
            (try simp only [Act.put, List.getElem_toArray, List.getElem_cons_succ, List.getElem_cons_zero, List.setIfInBounds_toArray, List.set_cons_zero, List.set_cons_succ])
            refine wpI_take (i := 1) (v := ?_) rfl (by kernel_rfl) (by kernel_rfl) (by kernel_rfl) (by kernel_rfl) (fun _ _ _ h => h) (Or.inl ⟨by rfl, ?_⟩) hSS ?_
            rotate_left 1
            · (intro w hSw; (try dsimp only at hSw); (try simp only [List.getElem_toArray, List.getElem_cons_succ, List.getElem_cons_zero]); go_simp; (try with_reducible rfl))
            (try simp only [Act.put, List.getElem_toArray, List.getElem_cons_succ, List.getElem_cons_zero, List.setIfInBounds_toArray, List.set_cons_zero, List.set_cons_succ])
            refine wpI_take (i := 2) (v := ?_) rfl (by kernel_rfl) (by kernel_rfl) (by kernel_rfl) (by kernel_rfl) (fun _ _ _ h => h) (Or.inl ⟨by rfl, ?_⟩) hSS ?_
            rotate_left 1
            · (intro w hSw; (try dsimp only at hSw); (try simp only [List.getElem_toArray, List.getElem_cons_succ, List.getElem_cons_zero]); go_simp; (try with_reducible rfl))
            (try simp only [Act.put, List.getElem_toArray, List.getElem_cons_succ, List.getElem_cons_zero, List.setIfInBounds_toArray, List.set_cons_zero, List.set_cons_succ])
            refine wpI_take (i := 3) (v := ?_) rfl (by kernel_rfl) (by kernel_rfl) (by kernel_rfl) (by kernel_rfl) (fun _ _ _ h => h) (Or.inl ⟨by rfl, ?_⟩) hSS ?_
            rotate_left 1
            · (intro w hSw; (try dsimp only at hSw); (try simp only [List.getElem_toArray, List.getElem_cons_succ, List.getElem_cons_zero]); go_simp; (try with_reducible rfl))
            (try simp only [Act.put, List.getElem_toArray, List.getElem_cons_succ, List.getElem_cons_zero, List.setIfInBounds_toArray, List.set_cons_zero, List.set_cons_succ])
            refine wpI_take (i := 4) (v := ?_) rfl (by kernel_rfl) (by kernel_rfl) (by kernel_rfl) (by kernel_rfl) (fun _ _ _ h => h) (Or.inl ⟨by rfl, ?_⟩) hSS ?_
            rotate_left 1
            · (intro w hSw; (try dsimp only at hSw); (try simp only [List.getElem_toArray, List.getElem_cons_succ, List.getElem_cons_zero]); go_simp; (try with_reducible rfl))
            (try simp only [Act.put, List.getElem_toArray, List.getElem_cons_succ, List.getElem_cons_zero, List.setIfInBounds_toArray, List.set_cons_zero, List.set_cons_succ])
            refine wpI_take (i := 5) (v := ?_) rfl (by kernel_rfl) (by kernel_rfl) (by kernel_rfl) (by kernel_rfl) (fun _ _ _ h => h) (Or.inl ⟨by rfl, ?_⟩) hSS ?_
            rotate_left 1
            · (intro w hSw; (try dsimp only at hSw); (try simp only [List.getElem_toArray, List.getElem_cons_succ, List.getElem_cons_zero]); go_simp; (try with_reducible rfl))
            (try simp only [Act.put, List.getElem_toArray, List.getElem_cons_succ, List.getElem_cons_zero, List.setIfInBounds_toArray, List.set_cons_zero, List.set_cons_succ])
            refine wpI_take (i := 6) (v := ?_) rfl (by kernel_rfl) (by kernel_rfl) (by kernel_rfl) (by kernel_rfl) (fun _ _ _ h => h) (Or.inl ⟨by rfl, ?_⟩) hSS ?_
            rotate_left 1
            · (intro w hSw; (try dsimp only at hSw); (try simp only [List.getElem_toArray, List.getElem_cons_succ, List.getElem_cons_zero]); go_simp; (try with_reducible rfl))
            (try simp only [Act.put, List.getElem_toArray, List.getElem_cons_succ, List.getElem_cons_zero, List.setIfInBounds_toArray, List.set_cons_zero, List.set_cons_succ])
            refine wpI_take (i := 7) (v := ?_) rfl (by kernel_rfl) (by kernel_rfl) (by kernel_rfl) (by kernel_rfl) (fun _ _ _ h => h) (Or.inl ⟨by rfl, ?_⟩) hSS ?_
            rotate_left 1
            · (intro w hSw; (try dsimp only at hSw); (try simp only [List.getElem_toArray, List.getElem_cons_succ, List.getElem_cons_zero]); go_simp; (try with_reducible rfl))
            (try simp only [Act.put, List.getElem_toArray, List.getElem_cons_succ, List.getElem_cons_zero, List.setIfInBounds_toArray, List.set_cons_zero, List.set_cons_succ])
            refine wpI_take (i := 8) (v := ?_) rfl (by kernel_rfl) (by kernel_rfl) (by kernel_rfl) (by kernel_rfl) (fun _ _ _ h => h) (Or.inl ⟨by rfl, ?_⟩) hSS ?_
            rotate_left 1
            · (intro w hSw; (try dsimp only at hSw); (try simp only [List.getElem_toArray, List.getElem_cons_succ, List.getElem_cons_zero]); go_simp; (try with_reducible rfl))
            (try simp only [Act.put, List.getElem_toArray, List.getElem_cons_succ, List.getElem_cons_zero, List.setIfInBounds_toArray, List.set_cons_zero, List.set_cons_succ])
            refine wpI_take (i := 9) (v := ?_) rfl (by kernel_rfl) (by kernel_rfl) (by kernel_rfl) (by kernel_rfl) (fun _ _ _ h => h) (Or.inl ⟨by rfl, ?_⟩) hSS ?_
            rotate_left 1
            · (intro w hSw; (try dsimp only at hSw); (try simp only [List.getElem_toArray, List.getElem_cons_succ, List.getElem_cons_zero]); go_simp; (try with_reducible rfl))
            (try simp only [Act.put, List.getElem_toArray, List.getElem_cons_succ, List.getElem_cons_zero, List.setIfInBounds_toArray, List.set_cons_zero, List.set_cons_succ])
            refine wpI_take (i := 10) (v := ?_) rfl (by kernel_rfl) (by kernel_rfl) (by kernel_rfl) (by kernel_rfl) (fun _ _ _ h => h) (Or.inl ⟨by rfl, ?_⟩) hSS ?_
            rotate_left 1
            · (intro w hSw; (try dsimp only at hSw); (try simp only [List.getElem_toArray, List.getElem_cons_succ, List.getElem_cons_zero]); go_simp; (try with_reducible rfl))
            (try simp only [Act.put, List.getElem_toArray, List.getElem_cons_succ, List.getElem_cons_zero, List.setIfInBounds_toArray, List.set_cons_zero, List.set_cons_succ])
            refine wpI_one (i := 11) (by kernel_rfl) rfl (by kernel_rfl) (by rfl) (fun K hK => ?_)
            refine step_call2 (by rfl) (.func 14) (.tmp 53) (.tmp 58) _ (by rfl) 14 _ fnCancels (by rfl) _ _ (by rfl) (by rfl) _ (cancV_of (Cancels_any t1 t2 _ _ _ ((HN1.out.later (Below.refl _ _).drew).any) ((HN2.out.later (Below.refl _ _).drew).any))) ?_
            rintro vc wc ⟨rfl, bwc⟩
            rw [HCN.out]
            have bc := bl_tt (Below.refl wr.heap.size wr).drew bwc
            have hSS2 : (fun w' : World => w'.cell? ⟨W.heap.size, 3, none⟩ = some (.slice (some a) x.ks.length cx) ∧ (w'.cell? (a.add (m * 4)) = some (.int .u8 t1.k) ∧ w'.cell? ⟨(a.add (m * 4)).block, (a.add (m * 4)).off + 1, none⟩ = some (.int .i64 t1.n) ∧ w'.cell? ⟨(a.add (m * 4)).block, (a.add (m * 4)).off + 2, none⟩ = some (.string t1.s) ∧ w'.cell? ⟨(a.add (m * 4)).block, (a.add (m * 4)).off + 3, none⟩ = some (.slice B1 t1.ks.length f1)) ∧ (w'.cell? (a.add ((m + 1) * 4)) = some (.int .u8 t2.k) ∧ w'.cell? ⟨(a.add ((m + 1) * 4)).block, (a.add ((m + 1) * 4)).off + 1, none⟩ = some (.int .i64 t2.n) ∧ w'.cell? ⟨(a.add ((m + 1) * 4)).block, (a.add ((m + 1) * 4)).off + 2, none⟩ = some (.string t2.s) ∧ w'.cell? ⟨(a.add ((m + 1) * 4)).block, (a.add ((m + 1) * 4)).off + 3, none⟩ = some (.slice B2 t2.ks.length f2))) wc := HSB.out _ bc
            refine hK.out _ _ hSS2 ?_
            clear hK K hSS
            (try simp only [Act.put, List.getElem_toArray, List.getElem_cons_succ, List.getElem_cons_zero, List.setIfInBounds_toArray, List.set_cons_zero, List.set_cons_succ])
            refine wpI_done (by kernel_rfl) ?_
            have HBC := Lib.hid (bl_tt hbw bc)
            clear hSS2 bc bwc hw1 hw2 hw3 hw4
            gi_wp2
            go_roundw
            case rel => exact ⟨m + 1, by omega, by go_num, HBC.out⟩
            case measure => simp [intOf]; omega
          · have hge : (x.ks.length : Int) ≤ (m : Int) + 1 := by omega
            gi_wp2
            exact ⟨C, HCC.out, fun b hb => .inl hb, Chg.of_below hbw⟩
      · have f57 : (kk == 57) = false := by simpa using h57
        have g57 : (kk != 57) = true := by simpa using h57
        gi_wp2
        exact ⟨C, HCC.out, fun b hb => .inl hb, Chg.refl _ _⟩
    · intro D C W' hD hC hch hK
      have hr7 := hch.keep HR6.out (fun h => h)
      have r0 : W'.cell? ⟨w.heap.size + 1, 0, none⟩ = some (.bool false) := cell_of_blk hr7 rfl
      have rf : W'.frozen? ⟨w.heap.size + 1, 0, none⟩ = false := frozen_of_blk hr7
      have hq6 := HQ6.out.size
      have hlR := blk_lt HR6.out
      have HB7 := Lib.hid (show Below w.heap.size w W' from bl_tt HQ6.out (hch.below (Nat.le_refl _) (fun b h => h.elim)))
      have HK := Lib.hid hK
      have HR7 := Lib.hid hr7
      clear hch hK hr7
      go_wp2_with fail
      have hK' : (W'.setCell ⟨w.heap.size + 1, 0, none⟩ (.bool true)).heap[D]? = some (.deferred (some [])) := (Below.heap_setCell _ _ _ _ (show D ≠ w.heap.size + 1 by omega)).trans HK.out
      refine ⟨by simp, .inl ⟨_, _, rfl, run_takeDeferred hK', ?_⟩⟩
      have hr8 := heap_setCell_same W' (w.heap.size + 1) 0 _ _ (.bool true) HR7.out
      have hr9 : ((W'.setCell ⟨w.heap.size + 1, 0, none⟩ (.bool true)).putObj D (.deferred none)).heap[w.heap.size + 1]? = some (.cells #[.bool true] 4 (0, 0)) := (World.putObj_heap_other (show w.heap.size + 1 ≠ D by omega)).trans (by simpa using hr8)
      have r1 : ((W'.setCell ⟨w.heap.size + 1, 0, none⟩ (.bool true)).putObj D (.deferred none)).cell? ⟨w.heap.size + 1, 0, none⟩ = some (.bool true) := cell_of_blk hr9 rfl
      have hb8 := HB7.out.setCell (p := ⟨w.heap.size + 1, 0, none⟩) (by simp) (.bool true)
      have hb9 := hb8.trans ((Chg.putObj (W'.setCell ⟨w.heap.size + 1, 0, none⟩ (.bool true)) D (.deferred none)).below (B := w.heap.size) hb8.size (fun b hb => by have : b = D := hb; omega))
      exact ⟨.bool true, by simp [results, Try.results8, go_sem, r1], rfl, hb9⟩
    · intro D pre C W' hD hC
      exact hC.elim

end Go.Proofs.Ytldcjboignbfpaa
