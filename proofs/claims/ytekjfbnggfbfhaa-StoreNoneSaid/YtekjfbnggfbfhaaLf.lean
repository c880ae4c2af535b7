/-
  StoreFails: the walk.
-/
import Derived.Test.YtekjfbnggfbfhaaLk
namespace Go.Proofs.Ytekjfbnggfbfhaa
open Go Go.RowKit

theorem SV.parts {w : World} {S : Nat → Prop} {s : SS} {v : Value} (h : SV w S s v) : ∃ A c B d D e, v = .agg #[.slice A s.cells.length c, .slice B s.tin.length d, .slice D s.tout.length e] := by
  obtain ⟨A, c, B, d, D, e, h1, _⟩ := h
  exact ⟨A, c, B, d, D, e, h1⟩
theorem fnState : IsFn Try.prog 25 Try.f25 := ⟨Try.func25, by kernel_rfl, by kernel_rfl⟩
theorem fnDepth : IsFn Try.prog 18 Try.f18 := ⟨Try.func18, by kernel_rfl, by kernel_rfl⟩
theorem fnStEqual : IsFn Try.prog 24 Try.f24 := ⟨Try.func24, by kernel_rfl, by kernel_rfl⟩
theorem eqS_refl (s : SS) : eqS s s = true := by simp [eqS]
/-- The state of a store with short frames. -/
theorem Bnd.sm {m j : Nat} {S : ST} (h : Bnd m j S) (hw : S.WF) (hm : m + j ≤ 1000000) : S.state.Sm := by
  obtain ⟨kd, h1, _, _⟩ := hw.ex
  obtain ⟨_, _, h2⟩ := state_I hw
  have := hw.tin.1
  have := hw.tout.1
  have := h.1
  have := h1.len
  refine ⟨?_, fun l hl => by have := h2 l hl; omega, by show S.tin.length ≤ _; omega, by show S.tout.length ≤ _; omega⟩
  simp only [ST.state, List.length_map, List.length_take]
  omega

set_option maxHeartbeats 4000000 in
set_option maxRecDepth 100000 in
theorem Fails_walk (vs : List VD) (s : SS) (qs : List STP) (A0 AL : Option Addr) (c0 cL : Nat) (v : Value) (w : World) (hrow : RowV w Any A0 vs) (hl : vs.length ≤ LV) (hv : SV w Any s v) (hst : RowT w AL qs) (hql : qs.length ≤ 140737488355328) :
    Calls Try.prog 7 #[.slice A0 vs.length c0, v, .slice AL qs.length cL] w fun e w' => e = .returned (.bool true) ∧ Below w.heap.size w w' := by
  have HV := Lib.hid hv
  have HROW := Lib.hid hrow
  have HST := Lib.hid hst
  obtain ⟨A, c, B, d, D, e, rfl⟩ := hv.parts
  have HSM := Lib.hid (fun w' (hb : Below w.heap.size w w') => lsmall_any vs s A0 c0 _ w' hl (hv.later hb))
  obtain ⟨z, hz⟩ : ∃ z, smlB vs s = z := ⟨_, rfl⟩
  rw [hz] at HSM
  have HZ := Lib.hid (hz ▸ smlB_one : z = 0 ∨ (z = 1 ∧ vs.length ≤ 12 ∧ s.cells.length ≤ 12 ∧ s.tin.length ≤ 60 ∧ s.tout.length ≤ 60 ∧ ∀ l ∈ s.cells, l.length ≤ 60))
  have hk0 := heap_alloc_new w (.cells #[.slice A s.cells.length c, .slice B s.tin.length d, .slice D s.tout.length e] 29)
  have hb0 := bl_al (Below.refl w.heap.size w) (.cells #[.slice A s.cells.length c, .slice B s.tin.length d, .slice D s.tout.length e] 29)
  obtain ⟨w0, hw0⟩ : ∃ x, w.alloc (.cells #[.slice A s.cells.length c, .slice B s.tin.length d, .slice D s.tout.length e] 29) = x := ⟨_, rfl⟩
  rw [hw0] at hk0 hb0
  have HK0 := Lib.hid hk0
  have HB0 := Lib.hid hb0
  clear hrow hv hst hk0 hb0 hz
  go_enter Try.func7, Try.ntmps7
  go_wp2_with fail
  refine (awake_any w0).mono ?_
  rintro e1 w1 ⟨rfl, bw1⟩
  have HB1 := Lib.hid (bl_tt HB0.out bw1)
  obtain ⟨x0, x1, x2⟩ := box3o (blk_bl HK0.out bw1)
  clear bw1 HK0 hw0
  go_wp2_with fail
  refine (HSM.out w1 HB1.out).mono ?_
  rintro e2 w2 ⟨rfl, bw2⟩
  have HB2 := Lib.hid (bl_tt HB1.out bw2)
  have y0 := cell_bl bw2 x0
  have y1 := cell_bl bw2 x1
  have y2 := cell_bl bw2 x2
  clear bw2 x0 x1 x2
  rcases HZ.out with rfl | ⟨rfl, hz1, hz2, hz3, hz4, hz5⟩
  · go_wp2_with fail
    go_ret
    exact ⟨rfl, HB2.out⟩
  · have HZ5 := Lib.hid hz5
    clear HZ HSM hz5
    by_cases hbig : 24 < qs.length
    · have hbig' : (24 : Int) < (qs.length : Int) := by omega
      go_wp2_with fail
      go_ret
      exact ⟨rfl, HB2.out⟩
    · have hbig' : ¬ (24 : Int) < (qs.length : Int) := by omega
      have HNW := Lib.hid (New_any vs s A0 c0 _ w2 (HROW.out.later HB2.out) hl (HV.out.later HB2.out))
      obtain ⟨nv, hnv⟩ : ∃ n, vs.length = n := ⟨_, rfl⟩
      rw [hnv] at HNW ⊢
      go_wp2_with fail
      refine HNW.out.mono ?_
      rintro e3 w3 ⟨bw3, hh⟩
      have HB3 := Lib.hid (bl_tt HB2.out bw3)
      have hn2 := HB2.out.size
      clear bw3 HNW y0 y1 y2
      rcases hh with ⟨hno, rfl⟩ | ⟨hfit, P, rfl, hsr⟩
      · go_wp2_with fail
        go_ret
        exact ⟨rfl, HB3.out⟩
      · have HS0 := Lib.hid hsr
        have HBN := Lib.hid (Bnd.new vs s (by omega))
        clear hsr HV HROW
        go_wp2_with fail
        go_loopw [9] (fun i wr => ∃ j : Nat, j ≤ qs.length ∧ i = .int .i64 j ∧ Hid (Below w.heap.size w wr) ∧ ∃ P' S', Hid (SR wr w2.heap.size P' S') ∧ Hid (P'.sb = P.sb) ∧ Hid (Bnd 12 j S')) (fun i _ => qs.length - (intOf i).toNat)
        case atStart => exact ⟨0, by omega, rfl, HB3, P, _, HS0, Lib.hid rfl, HBN⟩
        case round =>
          obtain ⟨j, hj, rfl, HBL, P', S', HS, HSB, HBD⟩ := hrel
          by_cases hlt : j < qs.length
          · have hj1 : (j : Int) < (qs.length : Int) := by omega
            have hj0 : (0 : Int) ≤ (j : Int) := by omega
            have HSA := Lib.hid (State_any HS.out)
            rw [HSB.out] at HSA
            have HDE := Lib.hid (fun w' (hb : Below wr.heap.size wr w') => Depth_any (HS.out.later hb))
            rw [HSB.out] at HDE
            go_wp2_with fail
            refine HSA.out.mono ?_
            rintro e4 w4 ⟨v4, rfl, ho4, bw4⟩
            have HB4 := Lib.hid bw4
            obtain ⟨hI4, hL4, hM4⟩ := state_I HS.out.wf
            have HV4 := Lib.hid (ho4.svR hL4)
            obtain ⟨AC, cC, AI, cI', AO, cO, rfl⟩ := HV4.out.parts
            clear ho4 bw4 hI4 hL4 hM4
            go_wp2_with fail
            refine (HDE.out w4 HB4.out).mono ?_
            rintro e5 w5 ⟨rfl, rfl⟩
            have hb6 := bl_al (Below.refl w5.heap.size w5) (.cells #[.slice AC S'.state.cells.length cC, .slice AI S'.state.tin.length cI', .slice AO S'.state.tout.length cO] 29)
            have hk6 := heap_alloc_new w5 (.cells #[.slice AC S'.state.cells.length cC, .slice AI S'.state.tin.length cI', .slice AO S'.state.tout.length cO] 29)
            have hbl6 : Below w.heap.size w (w5.alloc (.cells #[.slice AC S'.state.cells.length cC, .slice AI S'.state.tin.length cI', .slice AO S'.state.tout.length cO] 29)) := bl_tt (bl_tt HBL.out HB4.out) hb6
            obtain ⟨a, q, A1, c1, A2, c2, A3, c3, rfl, Hq, ⟨y0, y1, y2, y3, y4, y5, y6, y7, y8, y9, y10⟩, hqf⟩ := HST.out.nd hbl6 hlt
            have hcur := HBD.out.cur (by decide : 12 ≤ MV)
            unfold MV at hcur
            have HON := Lib.hid (one_any (HS.out.later (bl_tt HB4.out hb6)) q.k hqf.hk q.t q.v q.x q.ps q.ss A1 A2 A3 c1 c2 c3 hqf.hn hqf.hf hqf.hx hqf.hp hqf.hs hqf.lp hqf.ls (by omega))
            have HQL := Lib.hid hqf.lp
            rw [HSB.out] at HON
            have HB6 := Lib.hid (bl_tt HB4.out hb6)
            have HK6 := Lib.hid hk6
            have hz5 : wr.heap.size ≤ w5.heap.size := HB4.out.size
            clear hb6 hk6 hbl6 hcur hqf
            go_wp2_with fail
            refine HON.out.mono ?_
            rintro e7 w7 ⟨rfl, P7, hst7, hsb7⟩
            clear HSA HDE HON y0 y1 y2 y3 y4 y5 y6 y7 y8 y9 y10
            have hs6 := HS.out.later HB6.out
            have hno6 : ¬ OwnB (rows P' S') w5.heap.size := fun ho => by have := (HS.out.own_lt ho).2; omega
            have hk7 := hst7.blk HK6.out hno6
            have HV7 := Lib.hid ((HV4.out.later (bl_al (Below.refl w5.heap.size w5) (.cells #[.slice AC S'.state.cells.length cC, .slice AI S'.state.tin.length cI', .slice AO S'.state.tout.length cO] 29))).stp (fun b ho => (HS.out.own_lt ho).2) hst7)
            have HB7 := Lib.hid (hst7.frame hs6 (bl_tt HBL.out HB6.out) hn2)
            have HS7 := Lib.hid hst7.sr
            have HSB7 := Lib.hid (hsb7.trans HSB.out)
            have HBD7 := Lib.hid (HBD.out.one ⟨q.k, q.t, q.v, q.x, q.ps, q.ss⟩ HQL.out)
            have HNO := Lib.hid (oneE_no S' ⟨q.k, q.t, q.v, q.x, q.ps, q.ss⟩)
            have hn7 : w2.heap.size ≤ w7.heap.size := HS7.out.n0le
            have HW0 := Lib.hid HS.out.wf
            obtain ⟨z0, z1, z2⟩ := box3o hk7
            obtain ⟨R, hR⟩ : ∃ R, oneE S' ⟨q.k, q.t, q.v, q.x, q.ps, q.ss⟩ = R := ⟨_, rfl⟩
            rw [hR] at HS7 HBD7 HNO ⊢
            clear hst7 hs6 hk7 hsb7 HB6 HK6 HV4 HQL Hq hR hno6
            obtain ⟨r, T7⟩ := R
            dsimp only at HS7 HBD7 HNO ⊢
            by_cases hr : r = 0
            · subst hr
              go_upto_region 13 with fail
              have hSS : (fun _ : World => True) w7.drew ∧ (fun _ : World => True) w7.drew := ⟨trivial, trivial⟩
              refine wp_region_noPanic ?_
              refine wp_region_G (fun _ : World => True) (fun _ : World => True) 14 (by kernel_rfl) ?_
              refine wpG_take1 (i := 0) (v := ?_) rfl (by kernel_rfl) (by kernel_rfl) (by kernel_rfl) (by decide) (fun _ _ _ h => h) (Or.inl ⟨by rfl, ?_⟩) hSS ?_
              rotate_left 1
              · (intro w hSw; (try dsimp only at hSw); (try simp only [List.getElem_toArray, List.getElem_cons_zero]); go_simp; (try with_reducible rfl))
              (try simp only [Act.put, List.getElem_toArray, List.getElem_cons_zero, List.setIfInBounds_toArray, List.set_cons_zero, List.set_cons_succ])
              refine wpG_take1 (i := 1) (v := ?_) rfl (by kernel_rfl) (by kernel_rfl) (by kernel_rfl) (by decide) (fun _ _ _ h => h) (Or.inl ⟨by rfl, ?_⟩) hSS ?_
              rotate_left 1
              · (intro w hSw; (try dsimp only at hSw); (try simp only [List.getElem_toArray, List.getElem_cons_succ, List.getElem_cons_zero]); go_simp; (try with_reducible rfl))
              (try simp only [Act.put, List.getElem_toArray, List.getElem_cons_succ, List.getElem_cons_zero, List.setIfInBounds_toArray, List.set_cons_zero, List.set_cons_succ])
              refine wpG_take1 (i := 2) (v := ?_) rfl (by kernel_rfl) (by kernel_rfl) (by kernel_rfl) (by decide) (fun _ _ _ h => h) (Or.inl ⟨by rfl, ?_⟩) hSS ?_
              rotate_left 1
              · (intro w hSw; (try dsimp only at hSw); (try simp only [List.getElem_toArray, List.getElem_cons_succ, List.getElem_cons_zero]); go_simp; (try with_reducible rfl))
              (try simp only [Act.put, List.getElem_toArray, List.getElem_cons_succ, List.getElem_cons_zero, List.setIfInBounds_toArray, List.set_cons_zero, List.set_cons_succ])
              refine wpG_take1 (i := 3) (v := undef) rfl (by kernel_rfl) (by kernel_rfl) (by kernel_rfl) (by decide) (fun _ _ _ h => h) (Or.inr ⟨by rfl, rfl⟩) hSS ?_
              (try simp only [Act.put, List.getElem_toArray, List.getElem_cons_succ, List.getElem_cons_zero, List.setIfInBounds_toArray, List.set_cons_zero, List.set_cons_succ])
              refine wpG_take1 (i := 4) (v := undef) rfl (by kernel_rfl) (by kernel_rfl) (by kernel_rfl) (by decide) (fun _ _ _ h => h) (Or.inr ⟨by rfl, rfl⟩) hSS ?_
              (try simp only [Act.put, List.getElem_toArray, List.getElem_cons_succ, List.getElem_cons_zero, List.setIfInBounds_toArray, List.set_cons_zero, List.set_cons_succ])
              refine wpG_take1 (i := 5) (v := undef) rfl (by kernel_rfl) (by kernel_rfl) (by kernel_rfl) (by decide) (fun _ _ _ h => h) (Or.inr ⟨by rfl, rfl⟩) hSS ?_
              (try simp only [Act.put, List.getElem_toArray, List.getElem_cons_succ, List.getElem_cons_zero, List.setIfInBounds_toArray, List.set_cons_zero, List.set_cons_succ])
              refine wpG_take1 (i := 6) (v := undef) rfl (by kernel_rfl) (by kernel_rfl) (by kernel_rfl) (by decide) (fun _ _ _ h => h) (Or.inr ⟨by rfl, rfl⟩) hSS ?_
              (try simp only [Act.put, List.getElem_toArray, List.getElem_cons_succ, List.getElem_cons_zero, List.setIfInBounds_toArray, List.set_cons_zero, List.set_cons_succ])
              refine wpG_take1 (i := 7) (v := undef) rfl (by kernel_rfl) (by kernel_rfl) (by kernel_rfl) (by decide) (fun _ _ _ h => h) (Or.inr ⟨by rfl, rfl⟩) hSS ?_
              (try simp only [Act.put, List.getElem_toArray, List.getElem_cons_succ, List.getElem_cons_zero, List.setIfInBounds_toArray, List.set_cons_zero, List.set_cons_succ])
              refine wpG_take1 (i := 8) (v := undef) rfl (by kernel_rfl) (by kernel_rfl) (by kernel_rfl) (by decide) (fun _ _ _ h => h) (Or.inr ⟨by rfl, rfl⟩) hSS ?_
              (try simp only [Act.put, List.getElem_toArray, List.getElem_cons_succ, List.getElem_cons_zero, List.setIfInBounds_toArray, List.set_cons_zero, List.set_cons_succ])
              refine wpG_take1 (i := 9) (v := undef) rfl (by kernel_rfl) (by kernel_rfl) (by kernel_rfl) (by decide) (fun _ _ _ h => h) (Or.inr ⟨by rfl, rfl⟩) hSS ?_
              (try simp only [Act.put, List.getElem_toArray, List.getElem_cons_succ, List.getElem_cons_zero, List.setIfInBounds_toArray, List.set_cons_zero, List.set_cons_succ])
              refine wpG_take1 (i := 10) (v := undef) rfl (by kernel_rfl) (by kernel_rfl) (by kernel_rfl) (by decide) (fun _ _ _ h => h) (Or.inr ⟨by rfl, rfl⟩) hSS ?_
              (try simp only [Act.put, List.getElem_toArray, List.getElem_cons_succ, List.getElem_cons_zero, List.setIfInBounds_toArray, List.set_cons_zero, List.set_cons_succ])
              refine wpG_take1 (i := 11) (v := undef) rfl (by kernel_rfl) (by kernel_rfl) (by kernel_rfl) (by decide) (fun _ _ _ h => h) (Or.inr ⟨by rfl, rfl⟩) hSS ?_
              (try simp only [Act.put, List.getElem_toArray, List.getElem_cons_succ, List.getElem_cons_zero, List.setIfInBounds_toArray, List.set_cons_zero, List.set_cons_succ])
              refine wpG_take1 (i := 12) (v := undef) rfl (by kernel_rfl) (by kernel_rfl) (by kernel_rfl) (by decide) (fun _ _ _ h => h) (Or.inr ⟨by rfl, rfl⟩) hSS ?_
              (try simp only [Act.put, List.getElem_toArray, List.getElem_cons_succ, List.getElem_cons_zero, List.setIfInBounds_toArray, List.set_cons_zero, List.set_cons_succ])
              refine wpG_take1 (i := 13) (v := undef) rfl (by kernel_rfl) (by kernel_rfl) (by kernel_rfl) (by decide) (fun _ _ _ h => h) (Or.inr ⟨by rfl, rfl⟩) hSS ?_
              (try simp only [Act.put, List.getElem_toArray, List.getElem_cons_succ, List.getElem_cons_zero, List.setIfInBounds_toArray, List.set_cons_zero, List.set_cons_succ])
              refine wpG_past (i := 14) (by kernel_rfl) rfl (by kernel_rfl) (fun K hK => ?_)
              (try simp only [List.getElem_toArray, List.getElem_cons_succ, List.getElem_cons_zero])
              go_simp
              refine hK.out _ _ trivial ?_
              clear hK K hSS
              (try simp only [Act.put, List.getElem_toArray, List.getElem_cons_succ, List.getElem_cons_zero, List.setIfInBounds_toArray, List.set_cons_zero, List.set_cons_succ])
              refine wpG_done (by kernel_rfl) ?_
              refine NoPanic.normal ?_
              go_wp2_with fail
              go_roundw
              case rel => exact ⟨j + 1, by omega, by go_num, Lib.hid HB7.out.drew, P7, T7, Lib.hid (HS7.out.later (Below.refl _ _).drew), HSB7, HBD7⟩
              case measure => simp [intOf]; omega
            · obtain rfl : T7 = S' := HNO.out hr
              have e1 : (r == 0) = false := by simpa using hr
              have e2 : (r != 0) = true := by simpa using hr
              obtain ⟨u0, hu0⟩ : ∃ x, Value.slice AC T7.state.cells.length cC = x := ⟨_, rfl⟩
              obtain ⟨u1, hu1⟩ : ∃ x, Value.slice AI T7.state.tin.length cI' = x := ⟨_, rfl⟩
              obtain ⟨u2, hu2⟩ : ∃ x, Value.slice AO T7.state.tout.length cO = x := ⟨_, rfl⟩
              rw [hu0] at z0
              rw [hu1] at z1
              rw [hu2] at z2
              rw [hu0, hu1, hu2] at HV7
              rw [hu0, hu1, hu2]
              clear hu0 hu1 hu2
              have hsm := HBD.out.sm HW0.out (by omega)
              have HEQ := Lib.hid (fun (v8 : Value) w' (hb : Below w7.heap.size w7 w') (h8 : SV w' Any T7.state v8) => StEqual_any T7.state T7.state v8 (.agg #[u0, u1, u2]) w' h8 (HV7.out.any.later hb) hsm hsm)
              simp only [eqS_refl] at HEQ
              have HSA := Lib.hid (State_any (HS7.out.later (Below.refl _ _).drew))
              have HDE := Lib.hid (fun w' (hb : Below w7.heap.size w7 w') => Depth_any (HS7.out.later hb))
              rw [HSB7.out] at HSA HDE
              obtain ⟨hI7, hL7, -⟩ := state_I HW0.out
              have HL7 := Lib.hid hL7
              clear hsm hI7 hL7
              go_upto_region 13 with fail
              have hSS : (fun w' : World => w'.cell? ⟨w5.heap.size, 0, none⟩ = some u0 ∧ w'.cell? ⟨w5.heap.size, 1, none⟩ = some u1 ∧ w'.cell? ⟨w5.heap.size, 2, none⟩ = some u2) w7.drew ∧ (fun _ : World => True) w7.drew := ⟨⟨z0, z1, z2⟩, trivial⟩
              refine wp_region_noPanic ?_
              refine wp_region_G (fun w' : World => w'.cell? ⟨w5.heap.size, 0, none⟩ = some u0 ∧ w'.cell? ⟨w5.heap.size, 1, none⟩ = some u1 ∧ w'.cell? ⟨w5.heap.size, 2, none⟩ = some u2) (fun _ : World => True) 6 (by kernel_rfl) ?_
              refine wpG_take1 (i := 0) (v := ?_) rfl (by kernel_rfl) (by kernel_rfl) (by kernel_rfl) (by decide) (fun _ _ _ h => h) (Or.inl ⟨by rfl, ?_⟩) hSS ?_
              rotate_left 1
              · (intro w hSw; (try dsimp only at hSw); (try simp only [List.getElem_toArray, List.getElem_cons_zero]); go_simp; (try with_reducible rfl))
              (try simp only [Act.put, List.getElem_toArray, List.getElem_cons_zero, List.setIfInBounds_toArray, List.set_cons_zero, List.set_cons_succ])
              refine wpG_take1 (i := 1) (v := ?_) rfl (by kernel_rfl) (by kernel_rfl) (by kernel_rfl) (by decide) (fun _ _ _ h => h) (Or.inl ⟨by rfl, ?_⟩) hSS ?_
              rotate_left 1
              · (intro w hSw; (try dsimp only at hSw); (try simp only [List.getElem_toArray, List.getElem_cons_succ, List.getElem_cons_zero]); go_simp; (try with_reducible rfl))
              (try simp only [Act.put, List.getElem_toArray, List.getElem_cons_succ, List.getElem_cons_zero, List.setIfInBounds_toArray, List.set_cons_zero, List.set_cons_succ])
              refine wpG_take1 (i := 2) (v := ?_) rfl (by kernel_rfl) (by kernel_rfl) (by kernel_rfl) (by decide) (fun _ _ _ h => h) (Or.inl ⟨by rfl, ?_⟩) hSS ?_
              rotate_left 1
              · (intro w hSw; (try dsimp only at hSw); (try simp only [List.getElem_toArray, List.getElem_cons_succ, List.getElem_cons_zero]); go_simp; (try with_reducible rfl))
              (try simp only [Act.put, List.getElem_toArray, List.getElem_cons_succ, List.getElem_cons_zero, List.setIfInBounds_toArray, List.set_cons_zero, List.set_cons_succ])
              refine wpG_take1 (i := 3) (v := ?_) rfl (by kernel_rfl) (by kernel_rfl) (by kernel_rfl) (by decide) (fun _ _ _ h => h) (Or.inl ⟨by rfl, ?_⟩) hSS ?_
              rotate_left 1
              · (intro w hSw; (try dsimp only at hSw); (try simp only [List.getElem_toArray, List.getElem_cons_succ, List.getElem_cons_zero]); go_simp; (try with_reducible rfl))
              (try simp only [Act.put, List.getElem_toArray, List.getElem_cons_succ, List.getElem_cons_zero, List.setIfInBounds_toArray, List.set_cons_zero, List.set_cons_succ])
              refine wpG_take1 (i := 5) (v := ?_) rfl (by kernel_rfl) (by kernel_rfl) (by kernel_rfl) (by decide) (fun _ _ _ h => h) (Or.inl ⟨by rfl, ?_⟩) hSS ?_
              rotate_left 1
              · (intro w hSw; (try dsimp only at hSw); (try simp only [List.getElem_toArray, List.getElem_cons_succ, List.getElem_cons_zero]); go_simp; (try with_reducible rfl))
              (try simp only [Act.put, List.getElem_toArray, List.getElem_cons_succ, List.getElem_cons_zero, List.setIfInBounds_toArray, List.set_cons_zero, List.set_cons_succ])
              have had : Calls Try.prog 25 [.pointer (some ⟨P.sb, 0, none⟩)].toArray w7.drew fun e W' => ∃ u, e = .returned u ∧ (OwnS W' w7.drew.heap.size T7.state u ∧ Below w7.drew.heap.size w7.drew W') :=
                HSA.out.mono fun e W' ⟨v, h1, h2, h3⟩ => ⟨v, h1, h2, h3⟩
              refine wpG_one (i := 4) (by kernel_rfl) rfl (fun K hK => ?_)
              refine step_callG (by rfl) (.func 25) [.tmp 55] _ (by rfl) 25 _ fnState (by rfl) _ (by rfl) _ had ?_
              rintro v8 w8 ⟨ho8, hb8⟩
              have HB8 := Lib.hid (show Below w7.heap.size w7 w8 from (Below.refl _ _).drew.trans hb8)
              have hSS8 : (fun w' : World => w'.cell? ⟨w5.heap.size, 0, none⟩ = some u0 ∧ w'.cell? ⟨w5.heap.size, 1, none⟩ = some u1 ∧ w'.cell? ⟨w5.heap.size, 2, none⟩ = some u2) w8 ∧ (fun _ : World => True) w8 := ⟨⟨cell_bl HB8.out z0, cell_bl HB8.out z1, cell_bl HB8.out z2⟩, trivial⟩
              have HO8 := Lib.hid ((ho8.sv HL7.out))
              refine hK.out _ _ hSS8 ?_
              clear hK K had ho8 hb8 hSS HSA
              (try simp only [Act.put, List.getElem_toArray, List.getElem_cons_succ, List.getElem_cons_zero, List.setIfInBounds_toArray, List.set_cons_zero, List.set_cons_succ])
              have had : Calls Try.prog 24 [v8, .agg #[u0, u1, u2]].toArray w8 fun e W' => ∃ u, e = .returned u ∧ (u = .bool true ∧ Below w8.heap.size w8 W') :=
                (HEQ.out v8 w8 HB8.out HO8.out).mono fun e W' ⟨h1, h2⟩ => ⟨_, h1, rfl, h2⟩
              refine wpG_past (i := 6) (by kernel_rfl) rfl (by kernel_rfl) (fun K hK => ?_)
              refine step_callG (by rfl) (.func 24) [.tmp 56, .tmp 57] _ (by rfl) 24 _ fnStEqual (by rfl) _ (by rfl) _ had ?_
              rintro v9 w9 ⟨rfl, hb9⟩
              have HB9 := Lib.hid (bl_tt HB8.out hb9)
              have hSS9 : (fun w' : World => w'.cell? ⟨w5.heap.size, 0, none⟩ = some u0 ∧ w'.cell? ⟨w5.heap.size, 1, none⟩ = some u1 ∧ w'.cell? ⟨w5.heap.size, 2, none⟩ = some u2) w9 := ⟨cell_bl HB9.out z0, cell_bl HB9.out z1, cell_bl HB9.out z2⟩
              refine hK.out _ _ hSS9 ?_
              clear hK K had hb9 hSS8
              (try simp only [Act.put, List.getElem_toArray, List.getElem_cons_succ, List.getElem_cons_zero, List.setIfInBounds_toArray, List.set_cons_zero, List.set_cons_succ])
              refine wpG_past (i := 7) (by kernel_rfl) rfl (by kernel_rfl) (fun K hK => ?_)
              (try simp only [List.getElem_toArray, List.getElem_cons_succ, List.getElem_cons_zero])
              go_simp
              refine hK.out _ _ hSS9 ?_
              clear hK K
              (try simp only [Act.put, List.getElem_toArray, List.getElem_cons_succ, List.getElem_cons_zero, List.setIfInBounds_toArray, List.set_cons_zero, List.set_cons_succ])
              refine wpG_past (i := 8) (by kernel_rfl) rfl (by kernel_rfl) (fun K hK => ?_)
              (try simp only [List.getElem_toArray, List.getElem_cons_succ, List.getElem_cons_zero])
              go_simp
              refine hK.out _ _ hSS9 ?_
              clear hK K
              (try simp only [Act.put, List.getElem_toArray, List.getElem_cons_succ, List.getElem_cons_zero, List.setIfInBounds_toArray, List.set_cons_zero, List.set_cons_succ])
              refine wpG_takeP (i := 9) (v := ?_) rfl (by kernel_rfl) (by kernel_rfl) (by kernel_rfl) (by decide) (by kernel_rfl) (fun _ _ _ h => h) (Or.inl ⟨by rfl, ?_⟩) hSS9 ?_
              rotate_left 1
              · (intro w hSw; (try dsimp only at hSw); (try simp only [List.getElem_toArray, List.getElem_cons_succ, List.getElem_cons_zero]); go_simp; (try with_reducible rfl))
              (try simp only [Act.put, List.getElem_toArray, List.getElem_cons_succ, List.getElem_cons_zero, List.setIfInBounds_toArray, List.set_cons_zero, List.set_cons_succ])
              refine wpG_takeP (i := 11) (v := ?_) rfl (by kernel_rfl) (by kernel_rfl) (by kernel_rfl) (by decide) (by kernel_rfl) (fun _ _ _ h => h) (Or.inl ⟨by rfl, ?_⟩) hSS9 ?_
              rotate_left 1
              · (intro w hSw; (try dsimp only at hSw); (try simp only [List.getElem_toArray, List.getElem_cons_succ, List.getElem_cons_zero]); go_simp; (try with_reducible rfl))
              (try simp only [Act.put, List.getElem_toArray, List.getElem_cons_succ, List.getElem_cons_zero, List.setIfInBounds_toArray, List.set_cons_zero, List.set_cons_succ])
              have had : Calls Try.prog 18 [.pointer (some ⟨P.sb, 0, none⟩)].toArray w9 fun e W' => ∃ u, e = .returned u ∧ (u = .int .i64 T7.calls.length ∧ W' = w9) :=
                (HDE.out w9 HB9.out).mono fun e W' ⟨h1, h2⟩ => ⟨_, h1, rfl, h2⟩
              refine wpG_past (i := 10) (by kernel_rfl) rfl (by kernel_rfl) (fun K hK => ?_)
              refine step_callG (by rfl) (.func 18) [.tmp 61] _ (by rfl) 18 _ fnDepth (by rfl) _ (by rfl) _ had ?_
              rintro v10 w10 ⟨rfl, rfl⟩
              refine hK.out _ _ hSS9 ?_
              clear hK K had
              (try simp only [Act.put, List.getElem_toArray, List.getElem_cons_succ, List.getElem_cons_zero, List.setIfInBounds_toArray, List.set_cons_zero, List.set_cons_succ])
              refine wpG_past (i := 12) (by kernel_rfl) rfl (by kernel_rfl) (fun K hK => ?_)
              (try simp only [List.getElem_toArray, List.getElem_cons_succ, List.getElem_cons_zero])
              go_simp
              refine hK.out _ _ hSS9 ?_
              clear hK K
              (try simp only [Act.put, List.getElem_toArray, List.getElem_cons_succ, List.getElem_cons_zero, List.setIfInBounds_toArray, List.set_cons_zero, List.set_cons_succ])
              refine wpG_past (i := 13) (by kernel_rfl) rfl (by kernel_rfl) (fun K hK => ?_)
              (try simp only [List.getElem_toArray, List.getElem_cons_succ, List.getElem_cons_zero])
              go_simp
              refine hK.out _ _ hSS9 ?_
              clear hK K
              (try simp only [Act.put, List.getElem_toArray, List.getElem_cons_succ, List.getElem_cons_zero, List.setIfInBounds_toArray, List.set_cons_zero, List.set_cons_succ])
              refine wpG_past (i := 14) (by kernel_rfl) rfl (by kernel_rfl) (fun K hK => ?_)
              (try simp only [List.getElem_toArray, List.getElem_cons_succ, List.getElem_cons_zero])
              go_simp
              refine hK.out _ _ hSS9 ?_
              clear hK K
              (try simp only [Act.put, List.getElem_toArray, List.getElem_cons_succ, List.getElem_cons_zero, List.setIfInBounds_toArray, List.set_cons_zero, List.set_cons_succ])
              refine wpG_done (by kernel_rfl) ?_
              refine NoPanic.normal ?_
              go_wp2_with fail
              go_roundw
              case rel => exact ⟨j + 1, by omega, by go_num, Lib.hid (bl_tt HB7.out HB9.out), P7, T7, Lib.hid (HS7.out.later HB9.out), HSB7, HBD7⟩
              case measure => simp [intOf]; omega
          · obtain rfl : j = qs.length := by omega
            have hj1 : ¬ (qs.length : Int) < (qs.length : Int) := by omega
            go_wp2_with fail
            go_ret
            exact ⟨rfl, HBL.out⟩

end Go.Proofs.Ytekjfbnggfbfhaa
