/-
  store: the contract of execute, statements with one place.
-/
import Derived.Test.YtekjfbnggfbfhaaSh
namespace Go.Proofs.Ytekjfbnggfbfhaa
open Go Go.RowKit

theorem fnSCell : IsFn Try.prog 60 Try.f60 := ⟨Try.func60, by kernel_rfl, by kernel_rfl⟩
theorem fnMove : IsFn Try.prog 62 Try.f62 := ⟨Try.func62, by kernel_rfl, by kernel_rfl⟩

set_option maxHeartbeats 8000000 in
set_option maxRecDepth 100000 in
theorem exec_one {W : World} {n0 : Nat} {P : Ph} {S : ST} (h : SR W n0 P S) (k n : Int) (s : ByteArray) (p : T) (v : Value) (hv : NV W Any (.nd k n s [p]) v) (hk : 44 ≤ k ∧ k ≤ 49) (id : Nat) (hid : S.num p.s = some id) (kp : Int) (hck : CurK S id kp) (hkp : kp ≠ 3)
    (hst : k = 44 ∨ k = 45 → ∃ sid, S.num s = some sid ∧ CurK S sid 3) :
    Calls Try.prog 38 #[.pointer (some ⟨P.sb, 0, none⟩), v] W fun e W' => e = .returned (.int .i64 (exec1 S k s p nil0 (indE S.look p) (0, 0)).1) ∧ ∃ P', SStp n0 P S W P' (exec1 S k s p nil0 (indE S.look p) (0, 0)).2 W' ∧ P'.sb = P.sb := by
  obtain ⟨A, c, rfl, hf, hlk, hlc, hrow⟩ := hv.open_
  simp only [T.k_nd, T.n_nd, T.s_nd, T.ks_nd] at *
  obtain ⟨R, hR⟩ : ∃ R, exec1 S k s p nil0 (indE S.look p) (0, 0) = R := ⟨_, rfl⟩
  rw [hR]
  have HRR := Lib.hid hR
  have HS := Lib.hid h
  have HL := Lib.hid (lookC n0 P S h.wf)
  obtain ⟨a, t0, A2, c2, rfl, _, Ht, ⟨y0, y1, y2, y3⟩, hn0⟩ := hrow.nd (i := 0) (by simp)
  simp only [Nat.zero_mul, Addr.add_zero', List.length_cons, List.length_nil, Nat.zero_add] at *
  have ht0 : t0 = p := Ht.out.symm
  subst ht0
  have hbx := box4 (heap_alloc_new W (.cells #[.int .u8 k, .int .i64 n, .string s, .slice (some a) 1 c] 36))
  have HBK := Lib.hid (heap_alloc_new W (.cells #[.int .u8 k, .int .i64 n, .string s, .slice (some a) 1 c] 36))
  obtain ⟨W0, hW0⟩ : ∃ W0, W.alloc (.cells #[.int .u8 k, .int .i64 n, .string s, .slice (some a) 1 c] 36) = W0 := ⟨_, rfl⟩
  have q0 : Below W.heap.size W W0 := hW0 ▸ bl_al (Below.refl _ _) _
  rw [hW0] at hbx HBK
  have HQ0 := Lib.hid q0
  have z0 := cell_bl q0 y0
  have z1 := cell_bl q0 y1
  have z2 := cell_bl q0 y2
  have z3 := cell_bl q0 y3
  obtain ⟨⟨iv, ie⟩, hiv⟩ : ∃ r, indE S.look t0 = r := ⟨_, rfl⟩
  have HIX := Lib.hid (Index_any HL.out t0 _ W0 (hn0.later q0) (h.later q0))
  rw [hiv] at HIX
  have HRX := Lib.hid (show R = exec1 S k s t0 nil0 (iv, ie) (0, 0) by rw [← hR, hiv])
  have HCE := Lib.hid (fun W' (hb : Below W.heap.size W W') => scell_any (h.later hb) t0.s id hid)
  obtain ⟨x0, x1, x2, x3⟩ := hbx
  have hidn := hck.lt h.wf
  have HCK := Lib.hid hck
  have HID := Lib.hid hid
  clear hR hiv h hv hn0 hrow hlk hlc y0 y1 y2 y3 q0 hf hck hid
  have k40 : (k == 40) = false := by simp; omega
  have k41 : (k == 41) = false := by simp; omega
  have k42 : (k == 42) = false := by simp; omega
  have k43 : (k == 43) = false := by simp; omega
  go_enter Try.func38, Try.ntmps38
  go_wp2_with fail
  refine HIX.out.mono ?_
  rintro e w1 ⟨rfl, bw1⟩
  have HB1 := Lib.hid (bl_tt HQ0.out bw1)
  have HK1 := Lib.hid (blk_bl HBK.out bw1)
  have u0 := cell_bl bw1 z0
  have u1 := cell_bl bw1 z1
  have u2 := cell_bl bw1 z2
  have u3 := cell_bl bw1 z3
  have v0 := cell_bl bw1 x0
  have v2 := cell_bl bw1 x2
  have v3 := cell_bl bw1 x3
  clear bw1 z0 z1 z2 z3 x0 x1 x2 x3
  dsimp only
  by_cases he : ie = 0
  · subst he
    have HR1 := Lib.hid (show R = exec2 S k s t0.s nil0.s iv (0, 0) by rw [HRX.out, exec1, if_neg (by simp)])
    go_wp2_with fail
    refine (HCE.out _ HB1.out).mono ?_
    rintro e w2 ⟨rfl, bw2⟩
    have HB2 := Lib.hid (bl_tt HB1.out bw2)
    have HK2 := Lib.hid (blk_bl HK1.out bw2)
    have r0 := cell_bl bw2 v0
    have r2 := cell_bl bw2 v2
    have HS2 := Lib.hid (HS.out.later HB2.out)
    clear u0 u1 u2 u3 v0 v2 v3 bw2
    have HR2 := Lib.hid (show R = if 0 ≤ iv ∧ iv < (S.cell id).length then exec3 S k s nil0.s 0 id iv.toNat else (12, S) by
      rw [HR1.out, exec2, if_neg (by simp), HID.out])
    by_cases hr : 0 ≤ iv ∧ iv < ((S.cell id).length : Int)
    · obtain ⟨i, rfl⟩ : ∃ i : Nat, iv = i := ⟨iv.toNat, by omega⟩
      have hi : i < (S.cell id).length := by omega
      have HR3 := Lib.hid (show R = exec3 S k s nil0.s 0 id i by rw [HR2.out, if_pos hr]; rfl)
      obtain ⟨⟨c3, hci, hc3⟩, p0, p1⟩ := HS2.out.plc hidn hi
      have w0 : w2.cell? ⟨P.cb id, 0, none⟩ = some (.slice (some ⟨P.gI id, 0, none⟩) (S.cell id).length c3) := by rw [← hci]; exact cell_of_blk (HS2.out.cbox hidn) rfl
      obtain ⟨m, hm⟩ : ∃ m, (S.cell id).length = m := ⟨_, rfl⟩
      have HM := Lib.hid hm
      rw [hm] at w0
      have hi1 : ¬ (i : Int) < 0 := by omega
      have hi2 : ¬ (m : Int) ≤ (i : Int) := by omega
      have hi3 : (i : Int) < (m : Int) := by omega
      clear HR1 HR2 hr hci hc3 hm
      by_cases h45 : k = 44 ∨ k = 45
      · obtain ⟨sid, hs1, hs2⟩ := hst h45
        have hne := HCK.out.ne hs2 HS.out.wf hkp
        have HR4 := Lib.hid (show R = moveE S k id i sid by
          rw [HR3.out, exec3, if_neg (by omega), if_neg (by omega), if_pos h45, hs1])
        have HMV := Lib.hid (fun W' (hb : Below W.heap.size W W') => move_any (HS.out.later hb) k h45 id i sid hidn hi hs2 hne)
        have HSC := Lib.hid (fun W' (hb : Below W.heap.size W W') => scell_any (HS.out.later hb) s sid hs1)
        have kk : (k == 44 || k == 45) = true := by rcases h45 with rfl | rfl <;> rfl
        clear hs1 hs2 HR3 HID
        rcases h45 with rfl | rfl
        · skip
          go_upto_region 34 with fail
          have hSS : (fun w' : World => w'.cell? ⟨W.heap.size, 0, none⟩ = some (.int .u8 44) ∧ w'.cell? ⟨W.heap.size, 2, none⟩ = some (.string s)) w2.drew ∧ (fun _ : World => True) w2.drew := ⟨⟨r0, r2⟩, trivial⟩
          refine wp_region_noPanic ?_
          refine wp_region_G (fun w' : World => w'.cell? ⟨W.heap.size, 0, none⟩ = some (.int .u8 44) ∧ w'.cell? ⟨W.heap.size, 2, none⟩ = some (.string s)) (fun _ : World => True) 7 (by kernel_rfl) ?_
          refine wpG_take1 (i := 0) (v := ?_) rfl (by kernel_rfl) (by kernel_rfl) (by kernel_rfl) (by decide) (fun _ _ _ h => h) (Or.inl ⟨by rfl, ?_⟩) hSS ?_
          rotate_left 1
          · (intro w hSw; (try dsimp only at hSw); (try simp only [List.getElem_toArray, List.getElem_cons_zero]); go_simp; (try with_reducible rfl))
          (try simp only [Act.put, List.getElem_toArray, List.getElem_cons_zero, List.setIfInBounds_toArray, List.set_cons_zero, List.set_cons_succ])
          refine wpG_take1 (i := 1) (v := ?_) rfl (by kernel_rfl) (by kernel_rfl) (by kernel_rfl) (by decide) (fun _ _ _ h => h) (Or.inl ⟨by rfl, ?_⟩) hSS ?_
          rotate_left 1
          · (intro w hSw; (try dsimp only at hSw); (try simp only [List.getElem_toArray, List.getElem_cons_succ, List.getElem_cons_zero]); go_simp; (try with_reducible rfl))
          (try simp only [Act.put, List.getElem_toArray, List.getElem_cons_succ, List.getElem_cons_zero, List.setIfInBounds_toArray, List.set_cons_zero, List.set_cons_succ])
          refine wpG_take1 (i := 2) (v := ?_) rfl (by kernel_rfl) (by kernel_rfl) (by kernel_rfl) (by decide) (fun _ _ _ h => h) (Or.inl ⟨by rfl, ?_⟩) hSS ?_
          rotate_left 1
          · (intro w hSw; (try dsimp only at hSw); (try simp only [List.getElem_toArray, List.getElem_cons_succ, List.getElem_cons_zero]); go_simp; (try with_reducible rfl))
          (try simp only [Act.put, List.getElem_toArray, List.getElem_cons_succ, List.getElem_cons_zero, List.setIfInBounds_toArray, List.set_cons_zero, List.set_cons_succ])
          refine wpG_take1 (i := 3) (v := ?_) rfl (by kernel_rfl) (by kernel_rfl) (by kernel_rfl) (by decide) (fun _ _ _ h => h) (Or.inl ⟨by rfl, ?_⟩) hSS ?_
          rotate_left 1
          · (intro w hSw; (try dsimp only at hSw); (try simp only [List.getElem_toArray, List.getElem_cons_succ, List.getElem_cons_zero]); go_simp; (try with_reducible rfl))
          (try simp only [Act.put, List.getElem_toArray, List.getElem_cons_succ, List.getElem_cons_zero, List.setIfInBounds_toArray, List.set_cons_zero, List.set_cons_succ])
          refine wpG_take1 (i := 4) (v := ?_) rfl (by kernel_rfl) (by kernel_rfl) (by kernel_rfl) (by decide) (fun _ _ _ h => h) (Or.inl ⟨by rfl, ?_⟩) hSS ?_
          rotate_left 1
          · (intro w hSw; (try dsimp only at hSw); (try simp only [List.getElem_toArray, List.getElem_cons_succ, List.getElem_cons_zero]); go_simp; (try with_reducible rfl))
          (try simp only [Act.put, List.getElem_toArray, List.getElem_cons_succ, List.getElem_cons_zero, List.setIfInBounds_toArray, List.set_cons_zero, List.set_cons_succ])
          refine wpG_take1 (i := 5) (v := ?_) rfl (by kernel_rfl) (by kernel_rfl) (by kernel_rfl) (by decide) (fun _ _ _ h => h) (Or.inl ⟨by rfl, ?_⟩) hSS ?_
          rotate_left 1
          · (intro w hSw; (try dsimp only at hSw); (try simp only [List.getElem_toArray, List.getElem_cons_succ, List.getElem_cons_zero]); go_simp; (try with_reducible rfl))
          (try simp only [Act.put, List.getElem_toArray, List.getElem_cons_succ, List.getElem_cons_zero, List.setIfInBounds_toArray, List.set_cons_zero, List.set_cons_succ])
          have had : Calls Try.prog 60 [.pointer (some ⟨P.sb, 0, none⟩), .string s].toArray w2.drew fun e W' => ∃ u, e = .returned u ∧ u = .pointer (some ⟨P.cb sid, 0, none⟩) ∧ Below w2.drew.heap.size w2.drew W' :=
            (HSC.out _ HB2.out.drew).mono fun e W' hh => ⟨_, hh.1, rfl, hh.2⟩
          refine wpG_one (i := 6) (by kernel_rfl) rfl (fun K hK => ?_)
          refine step_callL (by rfl) (.func 60) [.tmp 138, .tmp 140] _ (by rfl) 60 _ fnSCell (by rfl) _ (by rfl) _ had ?_
          rintro v4 w4 ⟨rfl, hb4⟩
          have HB4 := Lib.hid (bl_tt HB2.out.drew hb4)
          have t0' := cell_bl hb4 (show w2.drew.cell? _ = _ from r0)
          have t2' := cell_bl hb4 (show w2.drew.cell? _ = _ from r2)
          refine hK.out _ _ ⟨⟨t0', t2'⟩, trivial⟩ ?_
          clear hK K hSS had hb4
          (try simp only [Act.put, List.getElem_toArray, List.getElem_cons_succ, List.getElem_cons_zero, List.setIfInBounds_toArray, List.set_cons_zero, List.set_cons_succ])
          have had : Calls Try.prog 62 [.int .u8 44, .pointer (some ⟨P.gI id, i, none⟩), .pointer (some ⟨P.cb sid, 0, none⟩)].toArray w4 fun e W' => ∃ u, e = .returned u ∧ u = .int .i64 R.1 ∧ ∃ P', SStp n0 P S w4 P' R.2 W' ∧ P'.sb = P.sb := by
            refine (HMV.out _ HB4.out).mono ?_
            rintro e W' ⟨h1, h2⟩
            rw [← HR4.out] at h1 h2
            exact ⟨_, h1, rfl, h2⟩
          refine wpG_past (i := 7) (by kernel_rfl) rfl (by kernel_rfl) (fun K hK => ?_)
          refine step_callL (by rfl) (.func 62) [.tmp 136, .tmp 137, .tmp 141] _ (by rfl) 62 _ fnMove (by rfl) _ (by rfl) _ had ?_
          rintro v5 w5 ⟨rfl, P', hs5, hp5⟩
          have hno : ¬ OwnB (rows P S) W.heap.size := fun ⟨q, hq⟩ => by have := (HS.out.rws.lt q _ hq).2; omega
          have HF := Lib.hid hs5
          have HP := Lib.hid hp5
          have b0 := chg_cell hs5.st.chg t0' hno
          have b2 := chg_cell hs5.st.chg t2' hno
          refine hK.out _ _ ⟨b0, b2⟩ ?_
          clear hK K had hs5 hp5
          (try simp only [Act.put, List.getElem_toArray, List.getElem_cons_succ, List.getElem_cons_zero, List.setIfInBounds_toArray, List.set_cons_zero, List.set_cons_succ])
          refine wpG_past (i := 8) (by kernel_rfl) rfl (by kernel_rfl) (fun K hK => ?_)
          (try simp only [List.getElem_toArray, List.getElem_cons_succ, List.getElem_cons_zero])
          go_simp
          refine hK.out _ _ ⟨b0, b2⟩ ?_
          clear hK K
          (try simp only [Act.put, List.getElem_toArray, List.getElem_cons_succ, List.getElem_cons_zero, List.setIfInBounds_toArray, List.set_cons_zero, List.set_cons_succ])
          refine wpG_done (by kernel_rfl) ?_
          refine NoPanic.normal ?_
          go_wp2_with fail
          go_ret
          exact ⟨rfl, P', ⟨HF.out.st.after HB4.out HS.out.rws, HF.out.wf⟩, HP.out⟩
        · skip
          go_upto_region 34 with fail
          have hSS : (fun w' : World => w'.cell? ⟨W.heap.size, 0, none⟩ = some (.int .u8 45) ∧ w'.cell? ⟨W.heap.size, 2, none⟩ = some (.string s)) w2.drew ∧ (fun _ : World => True) w2.drew := ⟨⟨r0, r2⟩, trivial⟩
          refine wp_region_noPanic ?_
          refine wp_region_G (fun w' : World => w'.cell? ⟨W.heap.size, 0, none⟩ = some (.int .u8 45) ∧ w'.cell? ⟨W.heap.size, 2, none⟩ = some (.string s)) (fun _ : World => True) 7 (by kernel_rfl) ?_
          refine wpG_take1 (i := 0) (v := ?_) rfl (by kernel_rfl) (by kernel_rfl) (by kernel_rfl) (by decide) (fun _ _ _ h => h) (Or.inl ⟨by rfl, ?_⟩) hSS ?_
          rotate_left 1
          · (intro w hSw; (try dsimp only at hSw); (try simp only [List.getElem_toArray, List.getElem_cons_zero]); go_simp; (try with_reducible rfl))
          (try simp only [Act.put, List.getElem_toArray, List.getElem_cons_zero, List.setIfInBounds_toArray, List.set_cons_zero, List.set_cons_succ])
          refine wpG_take1 (i := 1) (v := ?_) rfl (by kernel_rfl) (by kernel_rfl) (by kernel_rfl) (by decide) (fun _ _ _ h => h) (Or.inl ⟨by rfl, ?_⟩) hSS ?_
          rotate_left 1
          · (intro w hSw; (try dsimp only at hSw); (try simp only [List.getElem_toArray, List.getElem_cons_succ, List.getElem_cons_zero]); go_simp; (try with_reducible rfl))
          (try simp only [Act.put, List.getElem_toArray, List.getElem_cons_succ, List.getElem_cons_zero, List.setIfInBounds_toArray, List.set_cons_zero, List.set_cons_succ])
          refine wpG_take1 (i := 2) (v := ?_) rfl (by kernel_rfl) (by kernel_rfl) (by kernel_rfl) (by decide) (fun _ _ _ h => h) (Or.inl ⟨by rfl, ?_⟩) hSS ?_
          rotate_left 1
          · (intro w hSw; (try dsimp only at hSw); (try simp only [List.getElem_toArray, List.getElem_cons_succ, List.getElem_cons_zero]); go_simp; (try with_reducible rfl))
          (try simp only [Act.put, List.getElem_toArray, List.getElem_cons_succ, List.getElem_cons_zero, List.setIfInBounds_toArray, List.set_cons_zero, List.set_cons_succ])
          refine wpG_take1 (i := 3) (v := ?_) rfl (by kernel_rfl) (by kernel_rfl) (by kernel_rfl) (by decide) (fun _ _ _ h => h) (Or.inl ⟨by rfl, ?_⟩) hSS ?_
          rotate_left 1
          · (intro w hSw; (try dsimp only at hSw); (try simp only [List.getElem_toArray, List.getElem_cons_succ, List.getElem_cons_zero]); go_simp; (try with_reducible rfl))
          (try simp only [Act.put, List.getElem_toArray, List.getElem_cons_succ, List.getElem_cons_zero, List.setIfInBounds_toArray, List.set_cons_zero, List.set_cons_succ])
          refine wpG_take1 (i := 4) (v := ?_) rfl (by kernel_rfl) (by kernel_rfl) (by kernel_rfl) (by decide) (fun _ _ _ h => h) (Or.inl ⟨by rfl, ?_⟩) hSS ?_
          rotate_left 1
          · (intro w hSw; (try dsimp only at hSw); (try simp only [List.getElem_toArray, List.getElem_cons_succ, List.getElem_cons_zero]); go_simp; (try with_reducible rfl))
          (try simp only [Act.put, List.getElem_toArray, List.getElem_cons_succ, List.getElem_cons_zero, List.setIfInBounds_toArray, List.set_cons_zero, List.set_cons_succ])
          refine wpG_take1 (i := 5) (v := ?_) rfl (by kernel_rfl) (by kernel_rfl) (by kernel_rfl) (by decide) (fun _ _ _ h => h) (Or.inl ⟨by rfl, ?_⟩) hSS ?_
          rotate_left 1
          · (intro w hSw; (try dsimp only at hSw); (try simp only [List.getElem_toArray, List.getElem_cons_succ, List.getElem_cons_zero]); go_simp; (try with_reducible rfl))
          (try simp only [Act.put, List.getElem_toArray, List.getElem_cons_succ, List.getElem_cons_zero, List.setIfInBounds_toArray, List.set_cons_zero, List.set_cons_succ])
          have had : Calls Try.prog 60 [.pointer (some ⟨P.sb, 0, none⟩), .string s].toArray w2.drew fun e W' => ∃ u, e = .returned u ∧ u = .pointer (some ⟨P.cb sid, 0, none⟩) ∧ Below w2.drew.heap.size w2.drew W' :=
            (HSC.out _ HB2.out.drew).mono fun e W' hh => ⟨_, hh.1, rfl, hh.2⟩
          refine wpG_one (i := 6) (by kernel_rfl) rfl (fun K hK => ?_)
          refine step_callL (by rfl) (.func 60) [.tmp 138, .tmp 140] _ (by rfl) 60 _ fnSCell (by rfl) _ (by rfl) _ had ?_
          rintro v4 w4 ⟨rfl, hb4⟩
          have HB4 := Lib.hid (bl_tt HB2.out.drew hb4)
          have t0' := cell_bl hb4 (show w2.drew.cell? _ = _ from r0)
          have t2' := cell_bl hb4 (show w2.drew.cell? _ = _ from r2)
          refine hK.out _ _ ⟨⟨t0', t2'⟩, trivial⟩ ?_
          clear hK K hSS had hb4
          (try simp only [Act.put, List.getElem_toArray, List.getElem_cons_succ, List.getElem_cons_zero, List.setIfInBounds_toArray, List.set_cons_zero, List.set_cons_succ])
          have had : Calls Try.prog 62 [.int .u8 45, .pointer (some ⟨P.gI id, i, none⟩), .pointer (some ⟨P.cb sid, 0, none⟩)].toArray w4 fun e W' => ∃ u, e = .returned u ∧ u = .int .i64 R.1 ∧ ∃ P', SStp n0 P S w4 P' R.2 W' ∧ P'.sb = P.sb := by
            refine (HMV.out _ HB4.out).mono ?_
            rintro e W' ⟨h1, h2⟩
            rw [← HR4.out] at h1 h2
            exact ⟨_, h1, rfl, h2⟩
          refine wpG_past (i := 7) (by kernel_rfl) rfl (by kernel_rfl) (fun K hK => ?_)
          refine step_callL (by rfl) (.func 62) [.tmp 136, .tmp 137, .tmp 141] _ (by rfl) 62 _ fnMove (by rfl) _ (by rfl) _ had ?_
          rintro v5 w5 ⟨rfl, P', hs5, hp5⟩
          have hno : ¬ OwnB (rows P S) W.heap.size := fun ⟨q, hq⟩ => by have := (HS.out.rws.lt q _ hq).2; omega
          have HF := Lib.hid hs5
          have HP := Lib.hid hp5
          have b0 := chg_cell hs5.st.chg t0' hno
          have b2 := chg_cell hs5.st.chg t2' hno
          refine hK.out _ _ ⟨b0, b2⟩ ?_
          clear hK K had hs5 hp5
          (try simp only [Act.put, List.getElem_toArray, List.getElem_cons_succ, List.getElem_cons_zero, List.setIfInBounds_toArray, List.set_cons_zero, List.set_cons_succ])
          refine wpG_past (i := 8) (by kernel_rfl) rfl (by kernel_rfl) (fun K hK => ?_)
          (try simp only [List.getElem_toArray, List.getElem_cons_succ, List.getElem_cons_zero])
          go_simp
          refine hK.out _ _ ⟨b0, b2⟩ ?_
          clear hK K
          (try simp only [Act.put, List.getElem_toArray, List.getElem_cons_succ, List.getElem_cons_zero, List.setIfInBounds_toArray, List.set_cons_zero, List.set_cons_succ])
          refine wpG_done (by kernel_rfl) ?_
          refine NoPanic.normal ?_
          go_wp2_with fail
          go_ret
          exact ⟨rfl, P', ⟨HF.out.st.after HB4.out HS.out.rws, HF.out.wf⟩, HP.out⟩
      · have h49 : k = 46 ∨ k = 49 ∨ k = 47 ∨ k = 48 := by omega
        have k44 : (k == 44) = false := by simp; omega
        have k45 : (k == 45) = false := by simp; omega
        have HR4 := Lib.hid (show R = transE S k id i by rw [HR3.out, exec3, if_neg (by omega), if_neg (by omega), if_neg h45])
        have HTR := Lib.hid (transfer_any HS2.out k h49 id i hidn hi)
        rw [← HR4.out] at HTR
        clear HR3 p0 p1
        go_wp2_with fail
        refine HTR.out.mono ?_
        rintro e w3 ⟨rfl, P', hs3, hp3⟩
        have HF := Lib.hid hs3
        have HP := Lib.hid hp3
        clear hs3 hp3
        go_wp2_with fail
        go_ret
        exact ⟨rfl, P', ⟨HF.out.st.after HB2.out HS.out.rws, HF.out.wf⟩, HP.out⟩
    · have HN := Lib.hid (show R = (12, S) by rw [HR2.out, if_neg hr])
      obtain ⟨A3, c3, hci, hc3, hri⟩ := HS2.out.items hidn
      have w0 : w2.cell? ⟨P.cb id, 0, none⟩ = some (.slice A3 (S.cell id).length c3) := by rw [← hci]; exact cell_of_blk (HS2.out.cbox hidn) rfl
      obtain ⟨m, hm⟩ : ∃ m, (S.cell id).length = m := ⟨_, rfl⟩
      rw [hm] at w0 hr
      clear HR1 HR2 hci hc3 hri hm
      by_cases hneg : iv < 0
      · go_wp2_with fail
        go_ret
        exact ⟨by rw [HN.out]; rfl, P, by rw [HN.out]; exact SStp.refl HS.out HB2.out, rfl⟩
      · have hge : (m : Int) ≤ iv := by omega
        go_wp2_with fail
        go_ret
        exact ⟨by rw [HN.out]; rfl, P, by rw [HN.out]; exact SStp.refl HS.out HB2.out, rfl⟩
  · have HN := Lib.hid (show R = (ie, S) by rw [HRX.out, exec1, if_pos he])
    have e1 : (ie == 0) = false := by simpa using he
    have e2 : (ie != 0) = true := by simpa using he
    clear he
    go_wp2_with fail
    go_ret
    exact ⟨by rw [HN.out]; rfl, P, by rw [HN.out]; exact SStp.refl HS.out HB1.out, rfl⟩

end Go.Proofs.Ytekjfbnggfbfhaa
