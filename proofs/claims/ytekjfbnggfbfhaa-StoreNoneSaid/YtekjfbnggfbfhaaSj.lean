/-
  store: the contract of execute, updates and Swap.
-/
import Derived.Test.YtekjfbnggfbfhaaSi
namespace Go.Proofs.Ytekjfbnggfbfhaa
open Go Go.RowKit

theorem fnUpdate : IsFn Try.prog 61 Try.f61 := ⟨Try.func61, by kernel_rfl, by kernel_rfl⟩

theorem add_4 (a : Addr) : a.add (1 * 4) = ⟨a.block, a.off + 4, none⟩ := by unfold Addr.add; split <;> simp_all
set_option maxHeartbeats 8000000 in
set_option maxRecDepth 100000 in
theorem exec_upd {W : World} {n0 : Nat} {P : Ph} {S : ST} (h : SR W n0 P S) (k n : Int) (s : ByteArray) (p q : T) (v : Value) (hv : NV W Any (.nd k n s [p, q]) v) (hk : k = 40 ∨ k = 41 ∨ k = 42) (id : Nat) (hid : S.num p.s = some id) (kp : Int) (hck : CurK S id kp) :
    Calls Try.prog 38 #[.pointer (some ⟨P.sb, 0, none⟩), v] W fun e W' => e = .returned (.int .i64 (exec1 S k s p q (indE S.look p) (exprE S.look q)).1) ∧ ∃ P', SStp n0 P S W P' (exec1 S k s p q (indE S.look p) (exprE S.look q)).2 W' ∧ P'.sb = P.sb := by
  obtain ⟨A, c, rfl, hf, hlk, hlc, hrow⟩ := hv.open_
  simp only [T.k_nd, T.n_nd, T.s_nd, T.ks_nd] at *
  obtain ⟨R, hR⟩ : ∃ R, exec1 S k s p q (indE S.look p) (exprE S.look q) = R := ⟨_, rfl⟩
  rw [hR]
  have HRR := Lib.hid hR
  have HS := Lib.hid h
  have HL := Lib.hid (lookC n0 P S h.wf)
  obtain ⟨a, t0, A2, c2, rfl, _, Ht, h4, hn0⟩ := hrow.nd (i := 0) (by simp)
  obtain ⟨a', t1, A3, c3, ea, _, Hu, h5, hn1⟩ := hrow.nd (i := 1) (by simp)
  injection ea with ea
  subst ea
  have ha : a.add (1 * 4) = ⟨a.block, a.off + 4, none⟩ := add_4 a
  rw [ha] at h5
  have ht0 : t0 = p := Ht.out.symm
  subst ht0
  have ht1 : t1 = q := Hu.out.symm
  subst ht1
  simp only [Nat.zero_mul, Nat.one_mul, Addr.add_zero', List.length_cons, List.length_nil, Nat.zero_add, Nat.reduceAdd] at *
  have hbx := box4 (heap_alloc_new W (.cells #[.int .u8 k, .int .i64 n, .string s, .slice (some a) 2 c] 36))
  have HBK := Lib.hid (heap_alloc_new W (.cells #[.int .u8 k, .int .i64 n, .string s, .slice (some a) 2 c] 36))
  obtain ⟨W0, hW0⟩ : ∃ W0, W.alloc (.cells #[.int .u8 k, .int .i64 n, .string s, .slice (some a) 2 c] 36) = W0 := ⟨_, rfl⟩
  have q0 : Below W.heap.size W W0 := hW0 ▸ bl_al (Below.refl _ _) _
  rw [hW0] at hbx HBK
  have HQ0 := Lib.hid q0
  have H4 := Lib.hid h4
  have H5 := Lib.hid h5
  have g4 := Nd4_bl q0 h4
  obtain ⟨z0, z1, z2, z3⟩ := g4
  obtain ⟨⟨iv, ie⟩, hiv⟩ : ∃ r, indE S.look t0 = r := ⟨_, rfl⟩
  obtain ⟨⟨jv, je⟩, hjv⟩ : ∃ r, exprE S.look t1 = r := ⟨_, rfl⟩
  have HIX := Lib.hid (Index_any HL.out t0 _ W0 (hn0.later q0) (h.later q0))
  rw [hiv] at HIX
  have HJX := Lib.hid (show ∀ W', Below W.heap.size W W' → Calls Try.prog 59 #[nv t1.k t1.n t1.s A3 t1.ks.length c3, .func (.func 40) #[.pointer (some ⟨P.sb, 0, none⟩)] #[]] W' (NumE (jv, je) W') from fun W' hb => hjv ▸ Expr_any HL.out t1 _ W' (hn1.later hb) (h.later hb))
  have HRX := Lib.hid (show R = exec1 S k s t0 t1 (iv, ie) (jv, je) by rw [← hR, hiv, hjv])
  have HCE := Lib.hid (fun W' (hb : Below W.heap.size W W') => scell_any (h.later hb) t0.s id hid)
  obtain ⟨x0, x1, x2, x3⟩ := hbx
  have hidn := hck.lt h.wf
  have HID := Lib.hid hid
  clear hR hiv hjv hv hn0 hn1 hrow hlk hlc q0 hf hck hid h4 h5
  clear h
  have k43 : (k == 43) = false := by simp; omega
  have HUP := Lib.hid (fun x w => Update_any k x jv hk w)
  go_enter Try.func38, Try.ntmps38
  go_wp2_with fail
  refine HIX.out.mono ?_
  rintro e w1 ⟨rfl, bw1⟩
  have HB1 := Lib.hid (bl_tt HQ0.out bw1)
  have HK1 := Lib.hid (blk_bl HBK.out bw1)
  have v0 := cell_bl bw1 x0
  have v3 := cell_bl bw1 x3
  obtain ⟨y0, y1, y2, y3⟩ := Nd4_bl HB1.out H5.out
  clear bw1 z0 z1 z2 z3 x0 x1 x2 x3
  dsimp only
  by_cases he : ie = 0
  · subst he
    have HR1 := Lib.hid (show R = exec2 S k s t0.s t1.s iv (jv, je) by rw [HRX.out, exec1, if_neg (by simp)])
    rcases hk with rfl | rfl | rfl
    · skip
      go_wp2_with fail
      refine (HJX.out _ HB1.out).mono ?_
      rintro e w2 ⟨rfl, bw2⟩
      have HB2 := Lib.hid (bl_tt HB1.out bw2)
      have HK2 := Lib.hid (blk_bl HK1.out bw2)
      have r0 := cell_bl bw2 v0
      have r3 := cell_bl bw2 v3
      obtain ⟨z0, z1, z2, z3⟩ := Nd4_bl HB2.out H4.out
      clear bw2 y0 y1 y2 y3 v0 v3
      dsimp only
      by_cases hje : je = 0
      · subst hje
        go_wp2_with fail
        refine (HCE.out _ HB2.out).mono ?_
        rintro e w3 ⟨rfl, bw3⟩
        have HB3 := Lib.hid (bl_tt HB2.out bw3)
        have H40 := Lib.hid (blk_bl HK2.out bw3)
        have s0 := cell_bl bw3 r0
        have s3 := cell_bl bw3 r3
        have HS2 := Lib.hid (HS.out.later HB3.out)
        clear r0 r3 bw3 z0 z1 z2 z3
        have HR2 := Lib.hid (show R = if 0 ≤ iv ∧ iv < (S.cell id).length then exec3 S 40 s t1.s jv id iv.toNat else (12, S) by
          rw [HR1.out, exec2, if_neg (by simp), HID.out])
        by_cases hr : 0 ≤ iv ∧ iv < ((S.cell id).length : Int)
        · obtain ⟨i, rfl⟩ : ∃ i : Nat, iv = i := ⟨iv.toNat, by omega⟩
          have hi : i < (S.cell id).length := by omega
          have HR3 := Lib.hid (show R = (0, S.put id i (updE 40 (S.el id i) jv)) by rw [HR2.out, if_pos hr, exec3, if_pos (by omega)]; rfl)
          obtain ⟨⟨c4, hci, hc4⟩, p0, p1⟩ := HS2.out.plc hidn hi
          have w0 : w3.cell? ⟨P.cb id, 0, none⟩ = some (.slice (some ⟨P.gI id, 0, none⟩) (S.cell id).length c4) := by rw [← hci]; exact cell_of_blk (HS2.out.cbox hidn) rfl
          have HPT := Lib.hid (fun W' (hb : Below W.heap.size W W') => (HS.out.later hb).put hidn hi (updE 40 (S.el id i) jv) (upd_I64 _ _ _))
          obtain ⟨x, hx⟩ : ∃ x, S.el id i = x := ⟨_, rfl⟩
          rw [hx] at p0 HR3 HPT
          obtain ⟨m, hm⟩ : ∃ m, (S.cell id).length = m := ⟨_, rfl⟩
          rw [hm] at w0
          have hi1 : ¬ (i : Int) < 0 := by omega
          have hi2 : ¬ (m : Int) ≤ (i : Int) := by omega
          have hi3 : (i : Int) < (m : Int) := by omega
          clear HR1 HR2 hr hci hc4 hm hx
          obtain ⟨U, hU⟩ : ∃ U, updE 40 x jv = U := ⟨_, rfl⟩
          rw [hU] at HR3 HPT
          have HUU := Lib.hid (hU ▸ HUP.out x)
          clear hU
          go_upto_region 22 with fail
          have hSS : (fun w' : World => w'.cell? ⟨W.heap.size, 0, none⟩ = some (.int .u8 40) ∧ w'.cell? ⟨P.gI id, i, none⟩ = some (.int .i64 x)) w3.drew ∧ (fun _ : World => True) w3.drew := ⟨⟨s0, p0⟩, trivial⟩
          refine wp_region_noPanic ?_
          refine wp_region_G (fun w' : World => w'.cell? ⟨W.heap.size, 0, none⟩ = some (.int .u8 40) ∧ w'.cell? ⟨P.gI id, i, none⟩ = some (.int .i64 x)) (fun _ : World => True) 11 (by kernel_rfl) ?_
          refine wpG_take1 (i := 0) (v := ?_) rfl (by kernel_rfl) (by kernel_rfl) (by kernel_rfl) (by decide) (fun _ _ _ h => h) (Or.inl ⟨by rfl, ?_⟩) hSS ?_
          rotate_left 1
          · (intro w hSw; (try dsimp only at hSw); (try simp only [List.getElem_toArray, List.getElem_cons_zero]); go_simp; (try with_reducible rfl))
          (try simp only [Act.put, List.getElem_toArray, List.getElem_cons_zero, List.setIfInBounds_toArray, List.set_cons_zero, List.set_cons_succ])
          refine wpG_take1 (i := 1) (v := ?_) rfl (by kernel_rfl) (by kernel_rfl) (by kernel_rfl) (by decide) (fun _ _ _ h => h) (Or.inl ⟨by rfl, ?_⟩) hSS ?_
          rotate_left 1
          · (intro w hSw; (try dsimp only at hSw); (try simp only [List.getElem_toArray, List.getElem_cons_succ, List.getElem_cons_zero]); go_simp; (try with_reducible rfl))
          (try simp only [Act.put, List.getElem_toArray, List.getElem_cons_succ, List.getElem_cons_zero, List.setIfInBounds_toArray, List.set_cons_zero, List.set_cons_succ])
          refine wpG_take1 (i := 2) (v := ?_) rfl (by kernel_rfl) (by kernel_rfl) (by kernel_rfl) (by decide) (fun _ _ _ h => h) (Or.inl ⟨by rfl, ?_⟩) hSS ?_
          rotate_left 1
          · (intro w hSw; (try dsimp only at hSw); (try simp only [List.getElem_toArray, List.getElem_cons_succ, List.getElem_cons_zero]); go_simp; (try with_reducible rfl))
          (try simp only [Act.put, List.getElem_toArray, List.getElem_cons_succ, List.getElem_cons_zero, List.setIfInBounds_toArray, List.set_cons_zero, List.set_cons_succ])
          refine wpG_take1 (i := 3) (v := ?_) rfl (by kernel_rfl) (by kernel_rfl) (by kernel_rfl) (by decide) (fun _ _ _ h => h) (Or.inl ⟨by rfl, ?_⟩) hSS ?_
          rotate_left 1
          · (intro w hSw; (try dsimp only at hSw); (try simp only [List.getElem_toArray, List.getElem_cons_succ, List.getElem_cons_zero]); go_simp; (try with_reducible rfl))
          (try simp only [Act.put, List.getElem_toArray, List.getElem_cons_succ, List.getElem_cons_zero, List.setIfInBounds_toArray, List.set_cons_zero, List.set_cons_succ])
          refine wpG_take1 (i := 4) (v := ?_) rfl (by kernel_rfl) (by kernel_rfl) (by kernel_rfl) (by decide) (fun _ _ _ h => h) (Or.inl ⟨by rfl, ?_⟩) hSS ?_
          rotate_left 1
          · (intro w hSw; (try dsimp only at hSw); (try simp only [List.getElem_toArray, List.getElem_cons_succ, List.getElem_cons_zero]); go_simp; (try with_reducible rfl))
          (try simp only [Act.put, List.getElem_toArray, List.getElem_cons_succ, List.getElem_cons_zero, List.setIfInBounds_toArray, List.set_cons_zero, List.set_cons_succ])
          refine wpG_take1 (i := 5) (v := ?_) rfl (by kernel_rfl) (by kernel_rfl) (by kernel_rfl) (by decide) (fun _ _ _ h => h) (Or.inl ⟨by rfl, ?_⟩) hSS ?_
          rotate_left 1
          · (intro w hSw; (try dsimp only at hSw); (try simp only [List.getElem_toArray, List.getElem_cons_succ, List.getElem_cons_zero]); go_simp; (try with_reducible rfl))
          (try simp only [Act.put, List.getElem_toArray, List.getElem_cons_succ, List.getElem_cons_zero, List.setIfInBounds_toArray, List.set_cons_zero, List.set_cons_succ])
          have had : Calls Try.prog 61 [.int .u8 40, .int .i64 x, .int .i64 jv].toArray w3.drew fun e W' => ∃ u, e = .returned u ∧ u = .tuple #[.int .i64 U, .int .i64 0] ∧ W' = w3.drew :=
            (HUU.out w3.drew).mono fun e W' hh => ⟨_, hh.1, rfl, hh.2⟩
          refine wpG_one (i := 6) (by kernel_rfl) rfl (fun K hK => ?_)
          refine step_callL (by rfl) (.func 61) [.tmp 86, .tmp 89, .tmp 90] _ (by rfl) 61 _ fnUpdate (by rfl) _ (by rfl) _ had ?_
          rintro v4 w4 ⟨rfl, rfl⟩
          refine hK.out _ _ hSS ?_
          clear hK K had
          (try simp only [Act.put, List.getElem_toArray, List.getElem_cons_succ, List.getElem_cons_zero, List.setIfInBounds_toArray, List.set_cons_zero, List.set_cons_succ])
          refine wpG_take1 (i := 7) (v := ?_) rfl (by kernel_rfl) (by kernel_rfl) (by kernel_rfl) (by decide) (fun _ _ _ h => h) (Or.inl ⟨by rfl, ?_⟩) hSS ?_
          rotate_left 1
          · (intro w hSw; (try dsimp only at hSw); (try simp only [List.getElem_toArray, List.getElem_cons_succ, List.getElem_cons_zero]); go_simp; (try with_reducible rfl))
          (try simp only [Act.put, List.getElem_toArray, List.getElem_cons_succ, List.getElem_cons_zero, List.setIfInBounds_toArray, List.set_cons_zero, List.set_cons_succ])
          refine wpG_take1 (i := 8) (v := ?_) rfl (by kernel_rfl) (by kernel_rfl) (by kernel_rfl) (by decide) (fun _ _ _ h => h) (Or.inl ⟨by rfl, ?_⟩) hSS ?_
          rotate_left 1
          · (intro w hSw; (try dsimp only at hSw); (try simp only [List.getElem_toArray, List.getElem_cons_succ, List.getElem_cons_zero]); go_simp; (try with_reducible rfl))
          (try simp only [Act.put, List.getElem_toArray, List.getElem_cons_succ, List.getElem_cons_zero, List.setIfInBounds_toArray, List.set_cons_zero, List.set_cons_succ])
          refine wpG_take1 (i := 9) (v := ?_) rfl (by kernel_rfl) (by kernel_rfl) (by kernel_rfl) (by decide) (fun _ _ _ h => h) (Or.inl ⟨by rfl, ?_⟩) hSS ?_
          rotate_left 1
          · (intro w hSw; (try dsimp only at hSw); (try simp only [List.getElem_toArray, List.getElem_cons_succ, List.getElem_cons_zero]); go_simp; (try with_reducible rfl))
          (try simp only [Act.put, List.getElem_toArray, List.getElem_cons_succ, List.getElem_cons_zero, List.setIfInBounds_toArray, List.set_cons_zero, List.set_cons_succ])
          refine wpG_take1 (i := 10) (v := ?_) rfl (by kernel_rfl) (by kernel_rfl) (by kernel_rfl) (by decide) (fun _ _ _ h => h) (Or.inl ⟨by rfl, ?_⟩) hSS ?_
          rotate_left 1
          · (intro w hSw; (try dsimp only at hSw); (try simp only [List.getElem_toArray, List.getElem_cons_succ, List.getElem_cons_zero]); go_simp; (try with_reducible rfl))
          (try simp only [Act.put, List.getElem_toArray, List.getElem_cons_succ, List.getElem_cons_zero, List.setIfInBounds_toArray, List.set_cons_zero, List.set_cons_succ])
          refine wpG_past (i := 11) (by kernel_rfl) rfl (by kernel_rfl) (fun K hK => ?_)
          (try simp only [List.getElem_toArray, List.getElem_cons_succ, List.getElem_cons_zero])
          go_simp
          refine hK.out _ _ hSS.1 ?_
          clear hK K hSS
          (try simp only [Act.put, List.getElem_toArray, List.getElem_cons_succ, List.getElem_cons_zero, List.setIfInBounds_toArray, List.set_cons_zero, List.set_cons_succ])
          refine wpG_done (by kernel_rfl) ?_
          refine NoPanic.normal ?_
          go_wp2_with fail
          go_ret
          refine ⟨by rw [HR3.out]; rfl, P, ?_, rfl⟩
          rw [HR3.out]
          have := HPT.out _ HB3.out.drew
          exact ⟨this.st.after HB3.out.drew HS.out.rws, this.wf⟩
        · skip
          have HN := Lib.hid (show R = (12, S) by rw [HR2.out, if_neg hr])
          obtain ⟨A3, c3, hci, hc3, hri⟩ := HS2.out.items hidn
          have w0 : w3.cell? ⟨P.cb id, 0, none⟩ = some (.slice A3 (S.cell id).length c3) := by rw [← hci]; exact cell_of_blk (HS2.out.cbox hidn) rfl
          obtain ⟨m, hm⟩ : ∃ m, (S.cell id).length = m := ⟨_, rfl⟩
          rw [hm] at w0 hr
          clear HR2 hci hc3 hri hm
          by_cases hneg : iv < 0
          · go_wp2_with fail
            go_ret
            exact ⟨by rw [HN.out]; rfl, P, by rw [HN.out]; exact SStp.refl HS.out HB3.out, rfl⟩
          · have hge : (m : Int) ≤ iv := by omega
            go_wp2_with fail
            go_ret
            exact ⟨by rw [HN.out]; rfl, P, by rw [HN.out]; exact SStp.refl HS.out HB3.out, rfl⟩
      · skip
        have HN := Lib.hid (show R = (je, S) by rw [HR1.out, exec2, if_pos hje])
        have e1 : (je == 0) = false := by simpa using hje
        have e2 : (je != 0) = true := by simpa using hje
        clear hje
        go_wp2_with fail
        go_ret
        exact ⟨by rw [HN.out]; rfl, P, by rw [HN.out]; exact SStp.refl HS.out HB2.out, rfl⟩
    · skip
      go_wp2_with fail
      refine (HJX.out _ HB1.out).mono ?_
      rintro e w2 ⟨rfl, bw2⟩
      have HB2 := Lib.hid (bl_tt HB1.out bw2)
      have HK2 := Lib.hid (blk_bl HK1.out bw2)
      have r0 := cell_bl bw2 v0
      have r3 := cell_bl bw2 v3
      obtain ⟨z0, z1, z2, z3⟩ := Nd4_bl HB2.out H4.out
      clear bw2 y0 y1 y2 y3 v0 v3
      dsimp only
      by_cases hje : je = 0
      · subst hje
        go_wp2_with fail
        refine (HCE.out _ HB2.out).mono ?_
        rintro e w3 ⟨rfl, bw3⟩
        have HB3 := Lib.hid (bl_tt HB2.out bw3)
        have H41 := Lib.hid (blk_bl HK2.out bw3)
        have s0 := cell_bl bw3 r0
        have s3 := cell_bl bw3 r3
        have HS2 := Lib.hid (HS.out.later HB3.out)
        clear r0 r3 bw3 z0 z1 z2 z3
        have HR2 := Lib.hid (show R = if 0 ≤ iv ∧ iv < (S.cell id).length then exec3 S 41 s t1.s jv id iv.toNat else (12, S) by
          rw [HR1.out, exec2, if_neg (by simp), HID.out])
        by_cases hr : 0 ≤ iv ∧ iv < ((S.cell id).length : Int)
        · obtain ⟨i, rfl⟩ : ∃ i : Nat, iv = i := ⟨iv.toNat, by omega⟩
          have hi : i < (S.cell id).length := by omega
          have HR3 := Lib.hid (show R = (0, S.put id i (updE 41 (S.el id i) jv)) by rw [HR2.out, if_pos hr, exec3, if_pos (by omega)]; rfl)
          obtain ⟨⟨c4, hci, hc4⟩, p0, p1⟩ := HS2.out.plc hidn hi
          have w0 : w3.cell? ⟨P.cb id, 0, none⟩ = some (.slice (some ⟨P.gI id, 0, none⟩) (S.cell id).length c4) := by rw [← hci]; exact cell_of_blk (HS2.out.cbox hidn) rfl
          have HPT := Lib.hid (fun W' (hb : Below W.heap.size W W') => (HS.out.later hb).put hidn hi (updE 41 (S.el id i) jv) (upd_I64 _ _ _))
          obtain ⟨x, hx⟩ : ∃ x, S.el id i = x := ⟨_, rfl⟩
          rw [hx] at p0 HR3 HPT
          obtain ⟨m, hm⟩ : ∃ m, (S.cell id).length = m := ⟨_, rfl⟩
          rw [hm] at w0
          have hi1 : ¬ (i : Int) < 0 := by omega
          have hi2 : ¬ (m : Int) ≤ (i : Int) := by omega
          have hi3 : (i : Int) < (m : Int) := by omega
          clear HR1 HR2 hr hci hc4 hm hx
          obtain ⟨U, hU⟩ : ∃ U, updE 41 x jv = U := ⟨_, rfl⟩
          rw [hU] at HR3 HPT
          have HUU := Lib.hid (hU ▸ HUP.out x)
          clear hU
          go_upto_region 22 with fail
          have hSS : (fun w' : World => w'.cell? ⟨W.heap.size, 0, none⟩ = some (.int .u8 41) ∧ w'.cell? ⟨P.gI id, i, none⟩ = some (.int .i64 x)) w3.drew ∧ (fun _ : World => True) w3.drew := ⟨⟨s0, p0⟩, trivial⟩
          refine wp_region_noPanic ?_
          refine wp_region_G (fun w' : World => w'.cell? ⟨W.heap.size, 0, none⟩ = some (.int .u8 41) ∧ w'.cell? ⟨P.gI id, i, none⟩ = some (.int .i64 x)) (fun _ : World => True) 11 (by kernel_rfl) ?_
          refine wpG_take1 (i := 0) (v := ?_) rfl (by kernel_rfl) (by kernel_rfl) (by kernel_rfl) (by decide) (fun _ _ _ h => h) (Or.inl ⟨by rfl, ?_⟩) hSS ?_
          rotate_left 1
          · (intro w hSw; (try dsimp only at hSw); (try simp only [List.getElem_toArray, List.getElem_cons_zero]); go_simp; (try with_reducible rfl))
          (try simp only [Act.put, List.getElem_toArray, List.getElem_cons_zero, List.setIfInBounds_toArray, List.set_cons_zero, List.set_cons_succ])
          refine wpG_take1 (i := 1) (v := ?_) rfl (by kernel_rfl) (by kernel_rfl) (by kernel_rfl) (by decide) (fun _ _ _ h => h) (Or.inl ⟨by rfl, ?_⟩) hSS ?_
          rotate_left 1
          · (intro w hSw; (try dsimp only at hSw); (try simp only [List.getElem_toArray, List.getElem_cons_succ, List.getElem_cons_zero]); go_simp; (try with_reducible rfl))
          (try simp only [Act.put, List.getElem_toArray, List.getElem_cons_succ, List.getElem_cons_zero, List.setIfInBounds_toArray, List.set_cons_zero, List.set_cons_succ])
          refine wpG_take1 (i := 2) (v := ?_) rfl (by kernel_rfl) (by kernel_rfl) (by kernel_rfl) (by decide) (fun _ _ _ h => h) (Or.inl ⟨by rfl, ?_⟩) hSS ?_
          rotate_left 1
          · (intro w hSw; (try dsimp only at hSw); (try simp only [List.getElem_toArray, List.getElem_cons_succ, List.getElem_cons_zero]); go_simp; (try with_reducible rfl))
          (try simp only [Act.put, List.getElem_toArray, List.getElem_cons_succ, List.getElem_cons_zero, List.setIfInBounds_toArray, List.set_cons_zero, List.set_cons_succ])
          refine wpG_take1 (i := 3) (v := ?_) rfl (by kernel_rfl) (by kernel_rfl) (by kernel_rfl) (by decide) (fun _ _ _ h => h) (Or.inl ⟨by rfl, ?_⟩) hSS ?_
          rotate_left 1
          · (intro w hSw; (try dsimp only at hSw); (try simp only [List.getElem_toArray, List.getElem_cons_succ, List.getElem_cons_zero]); go_simp; (try with_reducible rfl))
          (try simp only [Act.put, List.getElem_toArray, List.getElem_cons_succ, List.getElem_cons_zero, List.setIfInBounds_toArray, List.set_cons_zero, List.set_cons_succ])
          refine wpG_take1 (i := 4) (v := ?_) rfl (by kernel_rfl) (by kernel_rfl) (by kernel_rfl) (by decide) (fun _ _ _ h => h) (Or.inl ⟨by rfl, ?_⟩) hSS ?_
          rotate_left 1
          · (intro w hSw; (try dsimp only at hSw); (try simp only [List.getElem_toArray, List.getElem_cons_succ, List.getElem_cons_zero]); go_simp; (try with_reducible rfl))
          (try simp only [Act.put, List.getElem_toArray, List.getElem_cons_succ, List.getElem_cons_zero, List.setIfInBounds_toArray, List.set_cons_zero, List.set_cons_succ])
          refine wpG_take1 (i := 5) (v := ?_) rfl (by kernel_rfl) (by kernel_rfl) (by kernel_rfl) (by decide) (fun _ _ _ h => h) (Or.inl ⟨by rfl, ?_⟩) hSS ?_
          rotate_left 1
          · (intro w hSw; (try dsimp only at hSw); (try simp only [List.getElem_toArray, List.getElem_cons_succ, List.getElem_cons_zero]); go_simp; (try with_reducible rfl))
          (try simp only [Act.put, List.getElem_toArray, List.getElem_cons_succ, List.getElem_cons_zero, List.setIfInBounds_toArray, List.set_cons_zero, List.set_cons_succ])
          have had : Calls Try.prog 61 [.int .u8 41, .int .i64 x, .int .i64 jv].toArray w3.drew fun e W' => ∃ u, e = .returned u ∧ u = .tuple #[.int .i64 U, .int .i64 0] ∧ W' = w3.drew :=
            (HUU.out w3.drew).mono fun e W' hh => ⟨_, hh.1, rfl, hh.2⟩
          refine wpG_one (i := 6) (by kernel_rfl) rfl (fun K hK => ?_)
          refine step_callL (by rfl) (.func 61) [.tmp 86, .tmp 89, .tmp 90] _ (by rfl) 61 _ fnUpdate (by rfl) _ (by rfl) _ had ?_
          rintro v4 w4 ⟨rfl, rfl⟩
          refine hK.out _ _ hSS ?_
          clear hK K had
          (try simp only [Act.put, List.getElem_toArray, List.getElem_cons_succ, List.getElem_cons_zero, List.setIfInBounds_toArray, List.set_cons_zero, List.set_cons_succ])
          refine wpG_take1 (i := 7) (v := ?_) rfl (by kernel_rfl) (by kernel_rfl) (by kernel_rfl) (by decide) (fun _ _ _ h => h) (Or.inl ⟨by rfl, ?_⟩) hSS ?_
          rotate_left 1
          · (intro w hSw; (try dsimp only at hSw); (try simp only [List.getElem_toArray, List.getElem_cons_succ, List.getElem_cons_zero]); go_simp; (try with_reducible rfl))
          (try simp only [Act.put, List.getElem_toArray, List.getElem_cons_succ, List.getElem_cons_zero, List.setIfInBounds_toArray, List.set_cons_zero, List.set_cons_succ])
          refine wpG_take1 (i := 8) (v := ?_) rfl (by kernel_rfl) (by kernel_rfl) (by kernel_rfl) (by decide) (fun _ _ _ h => h) (Or.inl ⟨by rfl, ?_⟩) hSS ?_
          rotate_left 1
          · (intro w hSw; (try dsimp only at hSw); (try simp only [List.getElem_toArray, List.getElem_cons_succ, List.getElem_cons_zero]); go_simp; (try with_reducible rfl))
          (try simp only [Act.put, List.getElem_toArray, List.getElem_cons_succ, List.getElem_cons_zero, List.setIfInBounds_toArray, List.set_cons_zero, List.set_cons_succ])
          refine wpG_take1 (i := 9) (v := ?_) rfl (by kernel_rfl) (by kernel_rfl) (by kernel_rfl) (by decide) (fun _ _ _ h => h) (Or.inl ⟨by rfl, ?_⟩) hSS ?_
          rotate_left 1
          · (intro w hSw; (try dsimp only at hSw); (try simp only [List.getElem_toArray, List.getElem_cons_succ, List.getElem_cons_zero]); go_simp; (try with_reducible rfl))
          (try simp only [Act.put, List.getElem_toArray, List.getElem_cons_succ, List.getElem_cons_zero, List.setIfInBounds_toArray, List.set_cons_zero, List.set_cons_succ])
          refine wpG_take1 (i := 10) (v := ?_) rfl (by kernel_rfl) (by kernel_rfl) (by kernel_rfl) (by decide) (fun _ _ _ h => h) (Or.inl ⟨by rfl, ?_⟩) hSS ?_
          rotate_left 1
          · (intro w hSw; (try dsimp only at hSw); (try simp only [List.getElem_toArray, List.getElem_cons_succ, List.getElem_cons_zero]); go_simp; (try with_reducible rfl))
          (try simp only [Act.put, List.getElem_toArray, List.getElem_cons_succ, List.getElem_cons_zero, List.setIfInBounds_toArray, List.set_cons_zero, List.set_cons_succ])
          refine wpG_past (i := 11) (by kernel_rfl) rfl (by kernel_rfl) (fun K hK => ?_)
          (try simp only [List.getElem_toArray, List.getElem_cons_succ, List.getElem_cons_zero])
          go_simp
          refine hK.out _ _ hSS.1 ?_
          clear hK K hSS
          (try simp only [Act.put, List.getElem_toArray, List.getElem_cons_succ, List.getElem_cons_zero, List.setIfInBounds_toArray, List.set_cons_zero, List.set_cons_succ])
          refine wpG_done (by kernel_rfl) ?_
          refine NoPanic.normal ?_
          go_wp2_with fail
          go_ret
          refine ⟨by rw [HR3.out]; rfl, P, ?_, rfl⟩
          rw [HR3.out]
          have := HPT.out _ HB3.out.drew
          exact ⟨this.st.after HB3.out.drew HS.out.rws, this.wf⟩
        · skip
          have HN := Lib.hid (show R = (12, S) by rw [HR2.out, if_neg hr])
          obtain ⟨A3, c3, hci, hc3, hri⟩ := HS2.out.items hidn
          have w0 : w3.cell? ⟨P.cb id, 0, none⟩ = some (.slice A3 (S.cell id).length c3) := by rw [← hci]; exact cell_of_blk (HS2.out.cbox hidn) rfl
          obtain ⟨m, hm⟩ : ∃ m, (S.cell id).length = m := ⟨_, rfl⟩
          rw [hm] at w0 hr
          clear HR2 hci hc3 hri hm
          by_cases hneg : iv < 0
          · go_wp2_with fail
            go_ret
            exact ⟨by rw [HN.out]; rfl, P, by rw [HN.out]; exact SStp.refl HS.out HB3.out, rfl⟩
          · have hge : (m : Int) ≤ iv := by omega
            go_wp2_with fail
            go_ret
            exact ⟨by rw [HN.out]; rfl, P, by rw [HN.out]; exact SStp.refl HS.out HB3.out, rfl⟩
      · skip
        have HN := Lib.hid (show R = (je, S) by rw [HR1.out, exec2, if_pos hje])
        have e1 : (je == 0) = false := by simpa using hje
        have e2 : (je != 0) = true := by simpa using hje
        clear hje
        go_wp2_with fail
        go_ret
        exact ⟨by rw [HN.out]; rfl, P, by rw [HN.out]; exact SStp.refl HS.out HB2.out, rfl⟩
    · skip
      go_wp2_with fail
      refine (HJX.out _ HB1.out).mono ?_
      rintro e w2 ⟨rfl, bw2⟩
      have HB2 := Lib.hid (bl_tt HB1.out bw2)
      have HK2 := Lib.hid (blk_bl HK1.out bw2)
      have r0 := cell_bl bw2 v0
      have r3 := cell_bl bw2 v3
      obtain ⟨z0, z1, z2, z3⟩ := Nd4_bl HB2.out H4.out
      clear bw2 y0 y1 y2 y3 v0 v3
      dsimp only
      by_cases hje : je = 0
      · subst hje
        go_wp2_with fail
        refine (HCE.out _ HB2.out).mono ?_
        rintro e w3 ⟨rfl, bw3⟩
        have HB3 := Lib.hid (bl_tt HB2.out bw3)
        have H42 := Lib.hid (blk_bl HK2.out bw3)
        have s0 := cell_bl bw3 r0
        have s3 := cell_bl bw3 r3
        have HS2 := Lib.hid (HS.out.later HB3.out)
        clear r0 r3 bw3 z0 z1 z2 z3
        have HR2 := Lib.hid (show R = if 0 ≤ iv ∧ iv < (S.cell id).length then exec3 S 42 s t1.s jv id iv.toNat else (12, S) by
          rw [HR1.out, exec2, if_neg (by simp), HID.out])
        by_cases hr : 0 ≤ iv ∧ iv < ((S.cell id).length : Int)
        · obtain ⟨i, rfl⟩ : ∃ i : Nat, iv = i := ⟨iv.toNat, by omega⟩
          have hi : i < (S.cell id).length := by omega
          have HR3 := Lib.hid (show R = (0, S.put id i (updE 42 (S.el id i) jv)) by rw [HR2.out, if_pos hr, exec3, if_pos (by omega)]; rfl)
          obtain ⟨⟨c4, hci, hc4⟩, p0, p1⟩ := HS2.out.plc hidn hi
          have w0 : w3.cell? ⟨P.cb id, 0, none⟩ = some (.slice (some ⟨P.gI id, 0, none⟩) (S.cell id).length c4) := by rw [← hci]; exact cell_of_blk (HS2.out.cbox hidn) rfl
          have HPT := Lib.hid (fun W' (hb : Below W.heap.size W W') => (HS.out.later hb).put hidn hi (updE 42 (S.el id i) jv) (upd_I64 _ _ _))
          obtain ⟨x, hx⟩ : ∃ x, S.el id i = x := ⟨_, rfl⟩
          rw [hx] at p0 HR3 HPT
          obtain ⟨m, hm⟩ : ∃ m, (S.cell id).length = m := ⟨_, rfl⟩
          rw [hm] at w0
          have hi1 : ¬ (i : Int) < 0 := by omega
          have hi2 : ¬ (m : Int) ≤ (i : Int) := by omega
          have hi3 : (i : Int) < (m : Int) := by omega
          clear HR1 HR2 hr hci hc4 hm hx
          obtain ⟨U, hU⟩ : ∃ U, updE 42 x jv = U := ⟨_, rfl⟩
          rw [hU] at HR3 HPT
          have HUU := Lib.hid (hU ▸ HUP.out x)
          clear hU
          go_upto_region 22 with fail
          have hSS : (fun w' : World => w'.cell? ⟨W.heap.size, 0, none⟩ = some (.int .u8 42) ∧ w'.cell? ⟨P.gI id, i, none⟩ = some (.int .i64 x)) w3.drew ∧ (fun _ : World => True) w3.drew := ⟨⟨s0, p0⟩, trivial⟩
          refine wp_region_noPanic ?_
          refine wp_region_G (fun w' : World => w'.cell? ⟨W.heap.size, 0, none⟩ = some (.int .u8 42) ∧ w'.cell? ⟨P.gI id, i, none⟩ = some (.int .i64 x)) (fun _ : World => True) 11 (by kernel_rfl) ?_
          refine wpG_take1 (i := 0) (v := ?_) rfl (by kernel_rfl) (by kernel_rfl) (by kernel_rfl) (by decide) (fun _ _ _ h => h) (Or.inl ⟨by rfl, ?_⟩) hSS ?_
          rotate_left 1
          · (intro w hSw; (try dsimp only at hSw); (try simp only [List.getElem_toArray, List.getElem_cons_zero]); go_simp; (try with_reducible rfl))
          (try simp only [Act.put, List.getElem_toArray, List.getElem_cons_zero, List.setIfInBounds_toArray, List.set_cons_zero, List.set_cons_succ])
          refine wpG_take1 (i := 1) (v := ?_) rfl (by kernel_rfl) (by kernel_rfl) (by kernel_rfl) (by decide) (fun _ _ _ h => h) (Or.inl ⟨by rfl, ?_⟩) hSS ?_
          rotate_left 1
          · (intro w hSw; (try dsimp only at hSw); (try simp only [List.getElem_toArray, List.getElem_cons_succ, List.getElem_cons_zero]); go_simp; (try with_reducible rfl))
          (try simp only [Act.put, List.getElem_toArray, List.getElem_cons_succ, List.getElem_cons_zero, List.setIfInBounds_toArray, List.set_cons_zero, List.set_cons_succ])
          refine wpG_take1 (i := 2) (v := ?_) rfl (by kernel_rfl) (by kernel_rfl) (by kernel_rfl) (by decide) (fun _ _ _ h => h) (Or.inl ⟨by rfl, ?_⟩) hSS ?_
          rotate_left 1
          · (intro w hSw; (try dsimp only at hSw); (try simp only [List.getElem_toArray, List.getElem_cons_succ, List.getElem_cons_zero]); go_simp; (try with_reducible rfl))
          (try simp only [Act.put, List.getElem_toArray, List.getElem_cons_succ, List.getElem_cons_zero, List.setIfInBounds_toArray, List.set_cons_zero, List.set_cons_succ])
          refine wpG_take1 (i := 3) (v := ?_) rfl (by kernel_rfl) (by kernel_rfl) (by kernel_rfl) (by decide) (fun _ _ _ h => h) (Or.inl ⟨by rfl, ?_⟩) hSS ?_
          rotate_left 1
          · (intro w hSw; (try dsimp only at hSw); (try simp only [List.getElem_toArray, List.getElem_cons_succ, List.getElem_cons_zero]); go_simp; (try with_reducible rfl))
          (try simp only [Act.put, List.getElem_toArray, List.getElem_cons_succ, List.getElem_cons_zero, List.setIfInBounds_toArray, List.set_cons_zero, List.set_cons_succ])
          refine wpG_take1 (i := 4) (v := ?_) rfl (by kernel_rfl) (by kernel_rfl) (by kernel_rfl) (by decide) (fun _ _ _ h => h) (Or.inl ⟨by rfl, ?_⟩) hSS ?_
          rotate_left 1
          · (intro w hSw; (try dsimp only at hSw); (try simp only [List.getElem_toArray, List.getElem_cons_succ, List.getElem_cons_zero]); go_simp; (try with_reducible rfl))
          (try simp only [Act.put, List.getElem_toArray, List.getElem_cons_succ, List.getElem_cons_zero, List.setIfInBounds_toArray, List.set_cons_zero, List.set_cons_succ])
          refine wpG_take1 (i := 5) (v := ?_) rfl (by kernel_rfl) (by kernel_rfl) (by kernel_rfl) (by decide) (fun _ _ _ h => h) (Or.inl ⟨by rfl, ?_⟩) hSS ?_
          rotate_left 1
          · (intro w hSw; (try dsimp only at hSw); (try simp only [List.getElem_toArray, List.getElem_cons_succ, List.getElem_cons_zero]); go_simp; (try with_reducible rfl))
          (try simp only [Act.put, List.getElem_toArray, List.getElem_cons_succ, List.getElem_cons_zero, List.setIfInBounds_toArray, List.set_cons_zero, List.set_cons_succ])
          have had : Calls Try.prog 61 [.int .u8 42, .int .i64 x, .int .i64 jv].toArray w3.drew fun e W' => ∃ u, e = .returned u ∧ u = .tuple #[.int .i64 U, .int .i64 0] ∧ W' = w3.drew :=
            (HUU.out w3.drew).mono fun e W' hh => ⟨_, hh.1, rfl, hh.2⟩
          refine wpG_one (i := 6) (by kernel_rfl) rfl (fun K hK => ?_)
          refine step_callL (by rfl) (.func 61) [.tmp 86, .tmp 89, .tmp 90] _ (by rfl) 61 _ fnUpdate (by rfl) _ (by rfl) _ had ?_
          rintro v4 w4 ⟨rfl, rfl⟩
          refine hK.out _ _ hSS ?_
          clear hK K had
          (try simp only [Act.put, List.getElem_toArray, List.getElem_cons_succ, List.getElem_cons_zero, List.setIfInBounds_toArray, List.set_cons_zero, List.set_cons_succ])
          refine wpG_take1 (i := 7) (v := ?_) rfl (by kernel_rfl) (by kernel_rfl) (by kernel_rfl) (by decide) (fun _ _ _ h => h) (Or.inl ⟨by rfl, ?_⟩) hSS ?_
          rotate_left 1
          · (intro w hSw; (try dsimp only at hSw); (try simp only [List.getElem_toArray, List.getElem_cons_succ, List.getElem_cons_zero]); go_simp; (try with_reducible rfl))
          (try simp only [Act.put, List.getElem_toArray, List.getElem_cons_succ, List.getElem_cons_zero, List.setIfInBounds_toArray, List.set_cons_zero, List.set_cons_succ])
          refine wpG_take1 (i := 8) (v := ?_) rfl (by kernel_rfl) (by kernel_rfl) (by kernel_rfl) (by decide) (fun _ _ _ h => h) (Or.inl ⟨by rfl, ?_⟩) hSS ?_
          rotate_left 1
          · (intro w hSw; (try dsimp only at hSw); (try simp only [List.getElem_toArray, List.getElem_cons_succ, List.getElem_cons_zero]); go_simp; (try with_reducible rfl))
          (try simp only [Act.put, List.getElem_toArray, List.getElem_cons_succ, List.getElem_cons_zero, List.setIfInBounds_toArray, List.set_cons_zero, List.set_cons_succ])
          refine wpG_take1 (i := 9) (v := ?_) rfl (by kernel_rfl) (by kernel_rfl) (by kernel_rfl) (by decide) (fun _ _ _ h => h) (Or.inl ⟨by rfl, ?_⟩) hSS ?_
          rotate_left 1
          · (intro w hSw; (try dsimp only at hSw); (try simp only [List.getElem_toArray, List.getElem_cons_succ, List.getElem_cons_zero]); go_simp; (try with_reducible rfl))
          (try simp only [Act.put, List.getElem_toArray, List.getElem_cons_succ, List.getElem_cons_zero, List.setIfInBounds_toArray, List.set_cons_zero, List.set_cons_succ])
          refine wpG_take1 (i := 10) (v := ?_) rfl (by kernel_rfl) (by kernel_rfl) (by kernel_rfl) (by decide) (fun _ _ _ h => h) (Or.inl ⟨by rfl, ?_⟩) hSS ?_
          rotate_left 1
          · (intro w hSw; (try dsimp only at hSw); (try simp only [List.getElem_toArray, List.getElem_cons_succ, List.getElem_cons_zero]); go_simp; (try with_reducible rfl))
          (try simp only [Act.put, List.getElem_toArray, List.getElem_cons_succ, List.getElem_cons_zero, List.setIfInBounds_toArray, List.set_cons_zero, List.set_cons_succ])
          refine wpG_past (i := 11) (by kernel_rfl) rfl (by kernel_rfl) (fun K hK => ?_)
          (try simp only [List.getElem_toArray, List.getElem_cons_succ, List.getElem_cons_zero])
          go_simp
          refine hK.out _ _ hSS.1 ?_
          clear hK K hSS
          (try simp only [Act.put, List.getElem_toArray, List.getElem_cons_succ, List.getElem_cons_zero, List.setIfInBounds_toArray, List.set_cons_zero, List.set_cons_succ])
          refine wpG_done (by kernel_rfl) ?_
          refine NoPanic.normal ?_
          go_wp2_with fail
          go_ret
          refine ⟨by rw [HR3.out]; rfl, P, ?_, rfl⟩
          rw [HR3.out]
          have := HPT.out _ HB3.out.drew
          exact ⟨this.st.after HB3.out.drew HS.out.rws, this.wf⟩
        · skip
          have HN := Lib.hid (show R = (12, S) by rw [HR2.out, if_neg hr])
          obtain ⟨A3, c3, hci, hc3, hri⟩ := HS2.out.items hidn
          have w0 : w3.cell? ⟨P.cb id, 0, none⟩ = some (.slice A3 (S.cell id).length c3) := by rw [← hci]; exact cell_of_blk (HS2.out.cbox hidn) rfl
          obtain ⟨m, hm⟩ : ∃ m, (S.cell id).length = m := ⟨_, rfl⟩
          rw [hm] at w0 hr
          clear HR2 hci hc3 hri hm
          by_cases hneg : iv < 0
          · go_wp2_with fail
            go_ret
            exact ⟨by rw [HN.out]; rfl, P, by rw [HN.out]; exact SStp.refl HS.out HB3.out, rfl⟩
          · have hge : (m : Int) ≤ iv := by omega
            go_wp2_with fail
            go_ret
            exact ⟨by rw [HN.out]; rfl, P, by rw [HN.out]; exact SStp.refl HS.out HB3.out, rfl⟩
      · skip
        have HN := Lib.hid (show R = (je, S) by rw [HR1.out, exec2, if_pos hje])
        have e1 : (je == 0) = false := by simpa using hje
        have e2 : (je != 0) = true := by simpa using hje
        clear hje
        go_wp2_with fail
        go_ret
        exact ⟨by rw [HN.out]; rfl, P, by rw [HN.out]; exact SStp.refl HS.out HB2.out, rfl⟩
  · skip
    have HN := Lib.hid (show R = (ie, S) by rw [HRX.out, exec1, if_pos he])
    have e1 : (ie == 0) = false := by simpa using he
    have e2 : (ie != 0) = true := by simpa using he
    clear he
    go_wp2_with fail
    go_ret
    exact ⟨by rw [HN.out]; rfl, P, by rw [HN.out]; exact SStp.refl HS.out HB1.out, rfl⟩

set_option maxHeartbeats 8000000 in
set_option maxRecDepth 100000 in
theorem exec_swap {W : World} {n0 : Nat} {P : Ph} {S : ST} (h : SR W n0 P S) (k n : Int) (s : ByteArray) (p q : T) (v : Value) (hv : NV W Any (.nd k n s [p, q]) v) (hk : k = 43) (id : Nat) (hid : S.num p.s = some id) (kp : Int) (hck : CurK S id kp) (jd : Nat) (hjd : S.num q.s = some jd) (kq : Int) (hcq : CurK S jd kq) :
    Calls Try.prog 38 #[.pointer (some ⟨P.sb, 0, none⟩), v] W fun e W' => e = .returned (.int .i64 (exec1 S k s p q (indE S.look p) (indE S.look q)).1) ∧ ∃ P', SStp n0 P S W P' (exec1 S k s p q (indE S.look p) (indE S.look q)).2 W' ∧ P'.sb = P.sb := by
  obtain ⟨A, c, rfl, hf, hlk, hlc, hrow⟩ := hv.open_
  simp only [T.k_nd, T.n_nd, T.s_nd, T.ks_nd] at *
  obtain ⟨R, hR⟩ : ∃ R, exec1 S k s p q (indE S.look p) (indE S.look q) = R := ⟨_, rfl⟩
  rw [hR]
  have HRR := Lib.hid hR
  have HS := Lib.hid h
  have HL := Lib.hid (lookC n0 P S h.wf)
  obtain ⟨a, t0, A2, c2, rfl, _, Ht, h4, hn0⟩ := hrow.nd (i := 0) (by simp)
  obtain ⟨a', t1, A3, c3, ea, _, Hu, h5, hn1⟩ := hrow.nd (i := 1) (by simp)
  injection ea with ea
  subst ea
  have ha : a.add (1 * 4) = ⟨a.block, a.off + 4, none⟩ := add_4 a
  rw [ha] at h5
  have ht0 : t0 = p := Ht.out.symm
  subst ht0
  have ht1 : t1 = q := Hu.out.symm
  subst ht1
  simp only [Nat.zero_mul, Nat.one_mul, Addr.add_zero', List.length_cons, List.length_nil, Nat.zero_add, Nat.reduceAdd] at *
  have hbx := box4 (heap_alloc_new W (.cells #[.int .u8 k, .int .i64 n, .string s, .slice (some a) 2 c] 36))
  have HBK := Lib.hid (heap_alloc_new W (.cells #[.int .u8 k, .int .i64 n, .string s, .slice (some a) 2 c] 36))
  obtain ⟨W0, hW0⟩ : ∃ W0, W.alloc (.cells #[.int .u8 k, .int .i64 n, .string s, .slice (some a) 2 c] 36) = W0 := ⟨_, rfl⟩
  have q0 : Below W.heap.size W W0 := hW0 ▸ bl_al (Below.refl _ _) _
  rw [hW0] at hbx HBK
  have HQ0 := Lib.hid q0
  have H4 := Lib.hid h4
  have H5 := Lib.hid h5
  have g4 := Nd4_bl q0 h4
  obtain ⟨z0, z1, z2, z3⟩ := g4
  obtain ⟨⟨iv, ie⟩, hiv⟩ : ∃ r, indE S.look t0 = r := ⟨_, rfl⟩
  obtain ⟨⟨jv, je⟩, hjv⟩ : ∃ r, indE S.look t1 = r := ⟨_, rfl⟩
  have HIX := Lib.hid (Index_any HL.out t0 _ W0 (hn0.later q0) (h.later q0))
  rw [hiv] at HIX
  have HJX := Lib.hid (show ∀ W', Below W.heap.size W W' → Calls Try.prog 58 #[nv t1.k t1.n t1.s A3 t1.ks.length c3, .func (.func 40) #[.pointer (some ⟨P.sb, 0, none⟩)] #[]] W' (NumE (jv, je) W') from fun W' hb => hjv ▸ Index_any HL.out t1 _ W' (hn1.later hb) (h.later hb))
  have HRX := Lib.hid (show R = exec1 S k s t0 t1 (iv, ie) (jv, je) by rw [← hR, hiv, hjv])
  have HCE := Lib.hid (fun W' (hb : Below W.heap.size W W') => scell_any (h.later hb) t0.s id hid)
  obtain ⟨x0, x1, x2, x3⟩ := hbx
  have hidn := hck.lt h.wf
  have HID := Lib.hid hid
  clear hR hiv hjv hv hn0 hn1 hrow hlk hlc q0 hf hck hid h4 h5
  have hjdn := hcq.lt h.wf
  have HCQ := Lib.hid (fun W' (hb : Below W.heap.size W W') => scell_any (h.later hb) t1.s jd hjd)
  have HJD := Lib.hid hjd
  subst hk
  clear h hcq hjd
  go_enter Try.func38, Try.ntmps38
  go_wp2_with fail
  refine HIX.out.mono ?_
  rintro e w1 ⟨rfl, bw1⟩
  have HB1 := Lib.hid (bl_tt HQ0.out bw1)
  have HK1 := Lib.hid (blk_bl HBK.out bw1)
  have v0 := cell_bl bw1 x0
  have v3 := cell_bl bw1 x3
  obtain ⟨y0, y1, y2, y3⟩ := Nd4_bl HB1.out H5.out
  clear bw1 z0 z1 z2 z3 x0 x1 x2 x3
  dsimp only
  by_cases he : ie = 0
  · subst he
    have HR1 := Lib.hid (show R = exec2 S 43 s t0.s t1.s iv (jv, je) by rw [HRX.out, exec1, if_neg (by simp)])
    go_wp2_with fail
    refine (HJX.out _ HB1.out).mono ?_
    rintro e w2 ⟨rfl, bw2⟩
    have HB2 := Lib.hid (bl_tt HB1.out bw2)
    have HK2 := Lib.hid (blk_bl HK1.out bw2)
    have r0 := cell_bl bw2 v0
    have r3 := cell_bl bw2 v3
    obtain ⟨z0, z1, z2, z3⟩ := Nd4_bl HB2.out H4.out
    clear bw2 y0 y1 y2 y3 v0 v3
    dsimp only
    by_cases hje : je = 0
    · subst hje
      go_wp2_with fail
      refine (HCE.out _ HB2.out).mono ?_
      rintro e w3 ⟨rfl, bw3⟩
      have HB3 := Lib.hid (bl_tt HB2.out bw3)
      have H43 := Lib.hid (blk_bl HK2.out bw3)
      have s0 := cell_bl bw3 r0
      have s3 := cell_bl bw3 r3
      have HS2 := Lib.hid (HS.out.later HB3.out)
      clear r0 r3 bw3 z0 z1 z2 z3
      have HR2 := Lib.hid (show R = if 0 ≤ iv ∧ iv < (S.cell id).length then exec3 S 43 s t1.s jv id iv.toNat else (12, S) by
        rw [HR1.out, exec2, if_neg (by simp), HID.out])
      by_cases hr : 0 ≤ iv ∧ iv < ((S.cell id).length : Int)
      · obtain ⟨i, rfl⟩ : ∃ i : Nat, iv = i := ⟨iv.toNat, by omega⟩
        have hi : i < (S.cell id).length := by omega
        have HR3 := Lib.hid (show R = if 0 ≤ jv ∧ jv < (S.cell jd).length then (0, swapS S id i jd jv.toNat) else (12, S) by
          rw [HR2.out, if_pos hr, exec3, if_neg (by decide), if_pos rfl, HJD.out]
          rfl)
        obtain ⟨⟨c4, hci, hc4⟩, p0, p1⟩ := HS2.out.plc hidn hi
        have w0 : w3.cell? ⟨P.cb id, 0, none⟩ = some (.slice (some ⟨P.gI id, 0, none⟩) (S.cell id).length c4) := by rw [← hci]; exact cell_of_blk (HS2.out.cbox hidn) rfl
        obtain ⟨m, hm⟩ : ∃ m, (S.cell id).length = m := ⟨_, rfl⟩
        rw [hm] at w0
        have hi1 : ¬ (i : Int) < 0 := by omega
        have hi2 : ¬ (m : Int) ≤ (i : Int) := by omega
        have hi3 : (i : Int) < (m : Int) := by omega
        obtain ⟨y0, y1, y2, y3⟩ := Nd4_bl HB3.out H5.out
        clear HR1 HR2 hr hci hc4 hm p0 p1
        go_wp2_with fail
        refine (HCQ.out _ HB3.out).mono ?_
        rintro e w4 ⟨rfl, bw4⟩
        have HB4 := Lib.hid (bl_tt HB3.out bw4)
        have HS4 := Lib.hid (HS.out.later HB4.out)
        clear bw4 y0 y1 y2 y3 w0
        by_cases hr2 : 0 ≤ jv ∧ jv < ((S.cell jd).length : Int)
        · obtain ⟨j, rfl⟩ : ∃ j : Nat, jv = j := ⟨jv.toNat, by omega⟩
          have hj : j < (S.cell jd).length := by omega
          have HR4 := Lib.hid (show R = (0, swapS S id i jd j) by rw [HR3.out, if_pos hr2]; rfl)
          obtain ⟨-, p0, p1⟩ := HS4.out.plc hidn hi
          obtain ⟨⟨c5, hcj, hc5⟩, q0, q1⟩ := HS4.out.plc hjdn hj
          have w5 : w4.cell? ⟨P.cb jd, 0, none⟩ = some (.slice (some ⟨P.gI jd, 0, none⟩) (S.cell jd).length c5) := by rw [← hcj]; exact cell_of_blk (HS4.out.cbox hjdn) rfl
          have s1 := (HS4.out.later (Below.refl _ _).drew).put hidn hi (S.el jd j) (el_I64 HS.out.wf hjdn j)
          have hj' : j < ((S.put id i (S.el jd j)).cell jd).length := by
            simp only [ST.put, ST.setL]
            split
            · next e => rw [List.length_set, ← e]; exact hj
            · exact hj
          obtain ⟨-, g0, g1⟩ := s1.sr.plc (id := jd) (i := j) hjdn hj'
          have s2 := s1.sr.put (id := jd) (i := j) hjdn hj' (S.el id i) (el_I64 HS.out.wf hidn i)
          have HFIN := Lib.hid (s1.trans s2)
          obtain ⟨xi, hxi⟩ : ∃ x, S.el id i = x := ⟨_, rfl⟩
          obtain ⟨xj, hxj⟩ : ∃ x, S.el jd j = x := ⟨_, rfl⟩
          rw [hxi] at p0 HFIN
          rw [hxj] at q0 g0 g1 HFIN
          have HR5 := Lib.hid (show R = (0, (S.put id i xj).put jd j xi) by rw [HR4.out, swapS, hxi, hxj])
          obtain ⟨y, hy⟩ : ∃ y, (S.put id i xj).el jd j = y := ⟨_, rfl⟩
          rw [hy] at g0
          obtain ⟨m2, hm2⟩ : ∃ m, (S.cell jd).length = m := ⟨_, rfl⟩
          rw [hm2] at w5
          have hj1 : ¬ (j : Int) < 0 := by omega
          have hj2 : ¬ (m2 : Int) ≤ (j : Int) := by omega
          have hj3 : (j : Int) < (m2 : Int) := by omega
          clear HR3 HR4 hr2 hcj hc5 hm2 s1 s2 hxi hxj hy
          go_upto_region 30 with fail
          have hSS : (fun _ : World => True) w4.drew ∧ (fun w' : World => w'.cell? ⟨P.gI id, i, none⟩ = some (.int .i64 xi) ∧ w'.cell? ⟨P.gI jd, j, none⟩ = some (.int .i64 xj)) w4.drew := ⟨trivial, p0, q0⟩
          refine wp_region_noPanic ?_
          refine wp_region_G (fun _ : World => True) (fun w' : World => w'.cell? ⟨P.gI id, i, none⟩ = some (.int .i64 xi) ∧ w'.cell? ⟨P.gI jd, j, none⟩ = some (.int .i64 xj)) 11 (by kernel_rfl) ?_
          refine wpG_take1 (i := 0) (v := ?_) rfl (by kernel_rfl) (by kernel_rfl) (by kernel_rfl) (by decide) (fun _ _ _ h => h) (Or.inl ⟨by rfl, ?_⟩) hSS ?_
          rotate_left 1
          · (intro w hSw; (try dsimp only at hSw); (try simp only [List.getElem_toArray, List.getElem_cons_zero]); go_simp; (try with_reducible rfl))
          (try simp only [Act.put, List.getElem_toArray, List.getElem_cons_zero, List.setIfInBounds_toArray, List.set_cons_zero, List.set_cons_succ])
          refine wpG_take1 (i := 1) (v := ?_) rfl (by kernel_rfl) (by kernel_rfl) (by kernel_rfl) (by decide) (fun _ _ _ h => h) (Or.inl ⟨by rfl, ?_⟩) hSS ?_
          rotate_left 1
          · (intro w hSw; (try dsimp only at hSw); (try simp only [List.getElem_toArray, List.getElem_cons_succ, List.getElem_cons_zero]); go_simp; (try with_reducible rfl))
          (try simp only [Act.put, List.getElem_toArray, List.getElem_cons_succ, List.getElem_cons_zero, List.setIfInBounds_toArray, List.set_cons_zero, List.set_cons_succ])
          refine wpG_take1 (i := 2) (v := ?_) rfl (by kernel_rfl) (by kernel_rfl) (by kernel_rfl) (by decide) (fun _ _ _ h => h) (Or.inl ⟨by rfl, ?_⟩) hSS ?_
          rotate_left 1
          · (intro w hSw; (try dsimp only at hSw); (try simp only [List.getElem_toArray, List.getElem_cons_succ, List.getElem_cons_zero]); go_simp; (try with_reducible rfl))
          (try simp only [Act.put, List.getElem_toArray, List.getElem_cons_succ, List.getElem_cons_zero, List.setIfInBounds_toArray, List.set_cons_zero, List.set_cons_succ])
          refine wpG_take1 (i := 3) (v := ?_) rfl (by kernel_rfl) (by kernel_rfl) (by kernel_rfl) (by decide) (fun _ _ _ h => h) (Or.inl ⟨by rfl, ?_⟩) hSS ?_
          rotate_left 1
          · (intro w hSw; (try dsimp only at hSw); (try simp only [List.getElem_toArray, List.getElem_cons_succ, List.getElem_cons_zero]); go_simp; (try with_reducible rfl))
          (try simp only [Act.put, List.getElem_toArray, List.getElem_cons_succ, List.getElem_cons_zero, List.setIfInBounds_toArray, List.set_cons_zero, List.set_cons_succ])
          refine wpG_take1 (i := 4) (v := ?_) rfl (by kernel_rfl) (by kernel_rfl) (by kernel_rfl) (by decide) (fun _ _ _ h => h) (Or.inl ⟨by rfl, ?_⟩) hSS ?_
          rotate_left 1
          · (intro w hSw; (try dsimp only at hSw); (try simp only [List.getElem_toArray, List.getElem_cons_succ, List.getElem_cons_zero]); go_simp; (try with_reducible rfl))
          (try simp only [Act.put, List.getElem_toArray, List.getElem_cons_succ, List.getElem_cons_zero, List.setIfInBounds_toArray, List.set_cons_zero, List.set_cons_succ])
          refine wpG_take1 (i := 5) (v := ?_) rfl (by kernel_rfl) (by kernel_rfl) (by kernel_rfl) (by decide) (fun _ _ _ h => h) (Or.inl ⟨by rfl, ?_⟩) hSS ?_
          rotate_left 1
          · (intro w hSw; (try dsimp only at hSw); (try simp only [List.getElem_toArray, List.getElem_cons_succ, List.getElem_cons_zero]); go_simp; (try with_reducible rfl))
          (try simp only [Act.put, List.getElem_toArray, List.getElem_cons_succ, List.getElem_cons_zero, List.setIfInBounds_toArray, List.set_cons_zero, List.set_cons_succ])
          refine wpG_take2 (i := 6) (v := ?_) rfl (by kernel_rfl) (by kernel_rfl) (by kernel_rfl) (by decide) rfl (by kernel_rfl) (by kernel_rfl) (fun _ _ _ h => h) (Or.inl ⟨by rfl, ?_⟩) hSS ?_
          rotate_left 1
          · (intro w hSw; (try dsimp only at hSw); (try simp only [List.getElem_toArray, List.getElem_cons_succ, List.getElem_cons_zero]); go_simp; (try with_reducible rfl))
          (try simp only [Act.put, List.getElem_toArray, List.getElem_cons_succ, List.getElem_cons_zero, List.setIfInBounds_toArray, List.set_cons_zero, List.set_cons_succ])
          refine wpG_take1 (i := 7) (v := ?_) rfl (by kernel_rfl) (by kernel_rfl) (by kernel_rfl) (by decide) (fun _ _ _ h => h) (Or.inl ⟨by rfl, ?_⟩) hSS ?_
          rotate_left 1
          · (intro w hSw; (try dsimp only at hSw); (try simp only [List.getElem_toArray, List.getElem_cons_succ, List.getElem_cons_zero]); go_simp; (try with_reducible rfl))
          (try simp only [Act.put, List.getElem_toArray, List.getElem_cons_succ, List.getElem_cons_zero, List.setIfInBounds_toArray, List.set_cons_zero, List.set_cons_succ])
          refine wpG_take1 (i := 8) (v := ?_) rfl (by kernel_rfl) (by kernel_rfl) (by kernel_rfl) (by decide) (fun _ _ _ h => h) (Or.inl ⟨by rfl, ?_⟩) hSS ?_
          rotate_left 1
          · (intro w hSw; (try dsimp only at hSw); (try simp only [List.getElem_toArray, List.getElem_cons_succ, List.getElem_cons_zero]); go_simp; (try with_reducible rfl))
          (try simp only [Act.put, List.getElem_toArray, List.getElem_cons_succ, List.getElem_cons_zero, List.setIfInBounds_toArray, List.set_cons_zero, List.set_cons_succ])
          refine wpG_take2 (i := 9) (v := ?_) rfl (by kernel_rfl) (by kernel_rfl) (by kernel_rfl) (by decide) rfl (by kernel_rfl) (by kernel_rfl) (fun _ _ _ h => h) (Or.inl ⟨by rfl, ?_⟩) hSS ?_
          rotate_left 1
          · (intro w hSw; (try dsimp only at hSw); (try simp only [List.getElem_toArray, List.getElem_cons_succ, List.getElem_cons_zero]); go_simp; (try with_reducible rfl))
          (try simp only [Act.put, List.getElem_toArray, List.getElem_cons_succ, List.getElem_cons_zero, List.setIfInBounds_toArray, List.set_cons_zero, List.set_cons_succ])
          refine wpG_one (i := 10) (by kernel_rfl) rfl (fun K hK => ?_)
          (try simp only [List.getElem_toArray, List.getElem_cons_succ, List.getElem_cons_zero])
          go_simp
          refine hK.out _ _ hSS ?_
          clear hK K
          (try simp only [Act.put, List.getElem_toArray, List.getElem_cons_succ, List.getElem_cons_zero, List.setIfInBounds_toArray, List.set_cons_zero, List.set_cons_succ])
          refine wpG_past (i := 11) (by kernel_rfl) rfl (by kernel_rfl) (fun K hK => ?_)
          (try simp only [List.getElem_toArray, List.getElem_cons_succ, List.getElem_cons_zero])
          have p1' : w4.drew.frozen? ⟨P.gI id, i, none⟩ = false := p1
          have p0' : w4.drew.cell? ⟨P.gI id, i, none⟩ = some (.int .i64 xi) := p0
          go_simp
          refine hK.out _ _ trivial ?_
          clear hK K hSS
          (try simp only [Act.put, List.getElem_toArray, List.getElem_cons_succ, List.getElem_cons_zero, List.setIfInBounds_toArray, List.set_cons_zero, List.set_cons_succ])
          have g0' : (w4.setCell ⟨P.gI id, i, none⟩ (.int .i64 xj)).cell? ⟨P.gI jd, j, none⟩ = some (.int .i64 y) := g0
          have g1' : (w4.setCell ⟨P.gI id, i, none⟩ (.int .i64 xj)).frozen? ⟨P.gI jd, j, none⟩ = false := g1
          refine wpG_past (i := 12) (by kernel_rfl) rfl (by kernel_rfl) (fun K hK => ?_)
          (try simp only [List.getElem_toArray, List.getElem_cons_succ, List.getElem_cons_zero])
          go_simp
          refine hK.out _ _ trivial ?_
          clear hK K
          (try simp only [Act.put, List.getElem_toArray, List.getElem_cons_succ, List.getElem_cons_zero, List.setIfInBounds_toArray, List.set_cons_zero, List.set_cons_succ])
          refine wpG_past (i := 13) (by kernel_rfl) rfl (by kernel_rfl) (fun K hK => ?_)
          (try simp only [List.getElem_toArray, List.getElem_cons_succ, List.getElem_cons_zero])
          go_simp
          refine hK.out _ _ trivial ?_
          clear hK K
          (try simp only [Act.put, List.getElem_toArray, List.getElem_cons_succ, List.getElem_cons_zero, List.setIfInBounds_toArray, List.set_cons_zero, List.set_cons_succ])
          refine wpG_done (by kernel_rfl) ?_
          refine NoPanic.normal ?_
          clear p0 p1 p0' p1' q0 q1 g0 g1 g0' g1'
          go_wp2_with fail
          go_ret
          refine ⟨by rw [HR5.out]; rfl, P, ?_, rfl⟩
          rw [HR5.out]
          exact ⟨HFIN.out.st.after HB4.out.drew HS.out.rws, HFIN.out.wf⟩
        · have HN := Lib.hid (show R = (12, S) by rw [HR3.out, if_neg hr2])
          obtain ⟨A5, c5, hcj, hc5, hrj⟩ := HS4.out.items hjdn
          have w5 : w4.cell? ⟨P.cb jd, 0, none⟩ = some (.slice A5 (S.cell jd).length c5) := by rw [← hcj]; exact cell_of_blk (HS4.out.cbox hjdn) rfl
          obtain ⟨m2, hm2⟩ : ∃ m, (S.cell jd).length = m := ⟨_, rfl⟩
          rw [hm2] at w5 hr2
          clear HR3 hcj hc5 hrj hm2
          by_cases hneg : jv < 0
          · go_wp2_with fail
            go_ret
            exact ⟨by rw [HN.out]; rfl, P, by rw [HN.out]; exact SStp.refl HS.out HB4.out, rfl⟩
          · have hge : (m2 : Int) ≤ jv := by omega
            go_wp2_with fail
            go_ret
            exact ⟨by rw [HN.out]; rfl, P, by rw [HN.out]; exact SStp.refl HS.out HB4.out, rfl⟩
      · skip
        have HN := Lib.hid (show R = (12, S) by rw [HR2.out, if_neg hr])
        obtain ⟨A3, c3, hci, hc3, hri⟩ := HS2.out.items hidn
        have w0 : w3.cell? ⟨P.cb id, 0, none⟩ = some (.slice A3 (S.cell id).length c3) := by rw [← hci]; exact cell_of_blk (HS2.out.cbox hidn) rfl
        obtain ⟨m, hm⟩ : ∃ m, (S.cell id).length = m := ⟨_, rfl⟩
        rw [hm] at w0 hr
        clear HR2 hci hc3 hri hm
        by_cases hneg : iv < 0
        · go_wp2_with fail
          go_ret
          exact ⟨by rw [HN.out]; rfl, P, by rw [HN.out]; exact SStp.refl HS.out HB3.out, rfl⟩
        · have hge : (m : Int) ≤ iv := by omega
          go_wp2_with fail
          go_ret
          exact ⟨by rw [HN.out]; rfl, P, by rw [HN.out]; exact SStp.refl HS.out HB3.out, rfl⟩
    · skip
      have HN := Lib.hid (show R = (je, S) by rw [HR1.out, exec2, if_pos hje])
      have e1 : (je == 0) = false := by simpa using hje
      have e2 : (je != 0) = true := by simpa using hje
      clear hje
      go_wp2_with fail
      go_ret
      exact ⟨by rw [HN.out]; rfl, P, by rw [HN.out]; exact SStp.refl HS.out HB2.out, rfl⟩
  · skip
    have HN := Lib.hid (show R = (ie, S) by rw [HRX.out, exec1, if_pos he])
    have e1 : (ie == 0) = false := by simpa using he
    have e2 : (ie != 0) = true := by simpa using he
    clear he
    go_wp2_with fail
    go_ret
    exact ⟨by rw [HN.out]; rfl, P, by rw [HN.out]; exact SStp.refl HS.out HB1.out, rfl⟩

end Go.Proofs.Ytekjfbnggfbfhaa
