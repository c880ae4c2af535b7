/-
  store: the contract of transfer.
-/
import Derived.Test.YtekjfbnggfbfhaaSd
namespace Go.Proofs.Ytekjfbnggfbfhaa
open Go Go.RowKit

theorem fnTUnread : IsFn Try.prog 67 Try.f67 := ⟨Try.func67, by kernel_rfl, by kernel_rfl⟩
theorem fnTWrite : IsFn Try.prog 69 Try.f69 := ⟨Try.func69, by kernel_rfl, by kernel_rfl⟩
theorem SR.tp {W : World} {n0 : Nat} {P : Ph} {S : ST} (h : SR W n0 P S) : W.cell? ⟨P.sb, 4, none⟩ = some (.pointer (some ⟨P.tb, 0, none⟩)) := cell_of_blk h.box rfl

set_option maxHeartbeats 4000000 in
set_option maxRecDepth 100000 in
theorem transfer_any {W : World} {n0 : Nat} {P : Ph} {S : ST} (h : SR W n0 P S) (k : Int) (hk : k = 46 ∨ k = 49 ∨ k = 47 ∨ k = 48) (id i : Nat) (hid : id < S.nc) (hi : i < (S.cell id).length) :
    Calls Try.prog 63 #[.pointer (some ⟨P.sb, 0, none⟩), .int .u8 k, .pointer (some ⟨P.gI id, i, none⟩)] W fun e W' => e = .returned (.int .i64 (transE S k id i).1) ∧ ∃ P', SStp n0 P S W P' (transE S k id i).2 W' ∧ P'.sb = P.sb := by
  obtain ⟨R, hR⟩ : ∃ R, transE S k id i = R := ⟨_, rfl⟩
  rw [hR]
  have HRR := Lib.hid hR
  have HS := Lib.hid h
  have x4 := h.tp
  obtain ⟨-, p0, p1⟩ := h.plc hid hi
  obtain ⟨x, hx⟩ : ∃ x, S.el id i = x := ⟨_, rfl⟩
  rw [hx] at p0
  have HX := Lib.hid hx
  have hxI : I64 x := by rw [← hx]; exact el_I64 h.wf hid i
  clear hR hx h
  rcases hk with rfl | rfl | rfl | rfl
  · have HRD := Lib.hid (Read_any HS.out)
    go_enter Try.func63, Try.ntmps63
    go_wp2_with fail
    refine HRD.out.mono ?_
    rintro e w1 hh
    rcases hh with ⟨h0, rfl, hb⟩ | ⟨y, r, h0, rfl, vv, hst⟩
    · have HN := Lib.hid (show R = (17, S) by rw [← HRR.out, transE, if_pos rfl, h0])
      have HB := Lib.hid hb
      clear h0 hb
      go_wp2_with fail
      go_ret
      exact ⟨by rw [HN.out]; rfl, P, by rw [HN.out]; exact SStp.refl HS.out HB.out, rfl⟩
    · have ht := HS.out.wf.tin
      rw [h0] at ht
      have hyI : I64 y := ht.2 y (List.mem_cons_self ..)
      have y4 : w1.cell? ⟨P.sb, 4, none⟩ = some (.pointer (some ⟨P.tb, 0, none⟩)) := hst.sr.tp
      obtain ⟨-, r0, r1⟩ := hst.sr.plc (id := id) (i := i) hid hi
      have r0' : w1.cell? ⟨P.gI id, i, none⟩ = some (.int .i64 x) := by rw [← HX.out]; exact r0
      have r1' : w1.frozen? ⟨P.gI id, i, none⟩ = false := r1
      by_cases hx0 : x = 0
      · subst hx0
        have HN := Lib.hid (show R = (0, ({ S with tin := r } : ST).put id i y) by rw [← HRR.out, transE, if_pos rfl, h0]; dsimp only; rw [HX.out]; simp)
        have HPT := Lib.hid (hst.trans (hst.sr.put (id := id) (i := i) hid hi y hyI))
        clear h0 hst ht r0 r1
        go_wp2_with fail
        go_ret
        exact ⟨by rw [HN.out]; rfl, { P with vI := vv }, by rw [HN.out]; exact HPT.out, rfl⟩
      · have HN := Lib.hid (show R = (14, S) by rw [← HRR.out, transE, if_pos rfl, h0]; dsimp only; rw [HX.out, if_pos hx0])
        have hx1 : (x != 0) = true := by simpa using hx0
        have hx2 : (x == 0) = false := by simpa using hx0
        have HUR := Lib.hid (Unread_any hst.sr y hyI)
        have hrl : ¬ 4096 ≤ r.length := by have := ht.1; simp at this; omega
        have HST := Lib.hid hst
        have H0 := Lib.hid h0
        clear h0 hst ht r0 r1
        go_wp2_with fail
        refine HUR.out.mono ?_
        rintro e w2 hh
        rcases hh with ⟨h1, rfl, hb⟩ | ⟨h1, rfl, vv2, hst2⟩
        · exact absurd h1 hrl
        · have HS2 := Lib.hid hst2
          clear h1 hst2
          go_wp2_with fail
          go_ret
          refine ⟨by rw [HN.out]; rfl, { P with vI := vv2 }, ?_, rfl⟩
          rw [HN.out]
          have h3 := HST.out.trans HS2.out
          have e3 : ({ { S with tin := r } with tin := y :: ({ S with tin := r } : ST).tin } : ST) = S := by
            show ({ S with tin := y :: r } : ST) = S
            rw [← H0.out]
          rw [e3] at h3
          exact h3
  · have HRD := Lib.hid (Unwrite_any HS.out)
    go_enter Try.func63, Try.ntmps63
    go_wp2_with fail
    refine HRD.out.mono ?_
    rintro e w1 hh
    rcases hh with ⟨h0, rfl, hb⟩ | ⟨r, y, h0, rfl, vv, hst⟩
    · have HN := Lib.hid (show R = (17, S) by rw [← HRR.out, transE, if_neg (by decide), if_pos rfl, if_pos h0])
      have HB := Lib.hid hb
      clear h0 hb
      go_wp2_with fail
      go_ret
      exact ⟨by rw [HN.out]; rfl, P, by rw [HN.out]; exact SStp.refl HS.out HB.out, rfl⟩
    · have ht := HS.out.wf.tout
      rw [h0] at ht
      have hyI : I64 y := ht.2 y (by simp)
      have hne : S.tout ≠ [] := by rw [h0]; simp
      have hdl : S.tout.dropLast = r := by rw [h0]; simp
      have hgl : S.tout.getLast?.getD 0 = y := by rw [h0]; simp
      have y4 : w1.cell? ⟨P.sb, 4, none⟩ = some (.pointer (some ⟨P.tb, 0, none⟩)) := hst.sr.tp
      obtain ⟨-, r0, r1⟩ := hst.sr.plc (id := id) (i := i) hid hi
      have r0' : w1.cell? ⟨P.gI id, i, none⟩ = some (.int .i64 x) := by rw [← HX.out]; exact r0
      have r1' : w1.frozen? ⟨P.gI id, i, none⟩ = false := r1
      by_cases hx0 : x = 0
      · subst hx0
        have HN := Lib.hid (show R = (0, ({ S with tout := r } : ST).put id i y) by rw [← HRR.out, transE, if_neg (by decide), if_pos rfl, if_neg hne, hdl, hgl, HX.out]; simp)
        have HPT := Lib.hid (hst.trans (hst.sr.put (id := id) (i := i) hid hi y hyI))
        clear h0 hst ht r0 r1 hne hdl hgl
        go_wp2_with fail
        go_ret
        exact ⟨by rw [HN.out]; rfl, { P with vO := vv }, by rw [HN.out]; exact HPT.out, rfl⟩
      · have HN := Lib.hid (show R = (14, S) by rw [← HRR.out, transE, if_neg (by decide), if_pos rfl, if_neg hne, HX.out, if_pos hx0])
        have hx1 : (x != 0) = true := by simpa using hx0
        have hx2 : (x == 0) = false := by simpa using hx0
        have HUR := Lib.hid (Write_any hst.sr y hyI)
        have hrl : ¬ 4096 ≤ r.length := by have := ht.1; simp at this; omega
        have HST := Lib.hid hst
        have H0 := Lib.hid h0
        clear h0 hst ht r0 r1 hne hdl hgl
        go_wp2_with fail
        refine HUR.out.mono ?_
        rintro e w2 hh
        rcases hh with ⟨h1, rfl, hb⟩ | ⟨h1, rfl, vv2, hst2⟩
        · exact absurd h1 hrl
        · have HS2 := Lib.hid hst2
          clear h1 hst2
          go_wp2_with fail
          go_ret
          refine ⟨by rw [HN.out]; rfl, { P with vO := vv2 }, ?_, rfl⟩
          rw [HN.out]
          have h3 := HST.out.trans HS2.out
          have e3 : ({ { S with tout := r } with tout := ({ S with tout := r } : ST).tout ++ [y] } : ST) = S := by
            show ({ S with tout := r ++ [y] } : ST) = S
            rw [← H0.out]
          rw [e3] at h3
          exact h3
  · skip
    have had : Calls Try.prog 67 [.pointer (some ⟨P.tb, 0, none⟩), .int .i64 x].toArray W.drew fun e W' => ∃ u, e = .returned u ∧ ∃ y, u = .int .i64 y ∧
        ((y = 5 ∧ R = (5, S) ∧ Below W.heap.size W W') ∨ (y = 0 ∧ R = (0, ({ S with tin := x :: S.tin } : ST).put id i 0) ∧ ∃ vv, SStp n0 P S W { P with vI := vv } ({ S with tin := x :: S.tin } : ST) W')) := by
      refine (Unread_any (HS.out.later (Below.refl _ _).drew) x hxI).mono ?_
      rintro e W' hh
      rcases hh with ⟨h0, rfl, hb⟩ | ⟨h0, rfl, vv, hst⟩
      · exact ⟨_, rfl, 5, rfl, .inl ⟨rfl, by rw [← HRR.out, transE, if_neg (by decide), if_neg (by decide), if_pos rfl, if_pos h0], bl_tt (Below.refl _ _).drew hb⟩⟩
      · exact ⟨_, rfl, 0, rfl, .inr ⟨rfl, by rw [← HRR.out, transE, if_neg (by decide), if_neg (by decide), if_pos rfl, if_neg (by omega), HX.out], vv, ⟨hst.st.after (Below.refl _ _).drew HS.out.rws, hst.wf⟩⟩⟩
    go_enter Try.func63, Try.ntmps63
    go_upto_region 17 with fail
    have hSS : (fun w' : World => w'.cell? ⟨P.sb, 4, none⟩ = some (.pointer (some ⟨P.tb, 0, none⟩)) ∧ w'.cell? ⟨P.gI id, i, none⟩ = some (.int .i64 x)) W.drew ∧ (fun _ : World => True) W.drew := ⟨⟨x4, p0⟩, trivial⟩
    refine wp_region_noPanic ?_
    refine wp_region_G (fun w' : World => w'.cell? ⟨P.sb, 4, none⟩ = some (.pointer (some ⟨P.tb, 0, none⟩)) ∧ w'.cell? ⟨P.gI id, i, none⟩ = some (.int .i64 x)) (fun _ : World => True) 7 (by kernel_rfl) ?_
    refine wpG_take1 (i := 0) (v := ?_) rfl (by kernel_rfl) (by kernel_rfl) (by kernel_rfl) (by decide) (fun _ _ _ h => h) (Or.inl ⟨by rfl, ?_⟩) hSS ?_
    rotate_left 1
    · (intro w hSw; (try dsimp only at hSw); (try simp only [List.getElem_toArray, List.getElem_cons_zero]); go_simp; (try with_reducible rfl))
    (try simp only [Act.put, List.getElem_toArray, List.getElem_cons_zero, List.setIfInBounds_toArray, List.set_cons_zero, List.set_cons_succ])
    refine wpG_take1 (i := 1) (v := ?_) rfl (by kernel_rfl) (by kernel_rfl) (by kernel_rfl) (by decide) (fun _ _ _ h => h) (Or.inl ⟨by rfl, ?_⟩) hSS ?_
    rotate_left 1
    · (intro w hSw; (try dsimp only at hSw); (try simp only [List.getElem_toArray, List.getElem_cons_succ, List.getElem_cons_zero]); go_simp; (try with_reducible rfl))
    (try simp only [Act.put, List.getElem_toArray, List.getElem_cons_succ, List.getElem_cons_zero, List.setIfInBounds_toArray, List.set_cons_zero, List.set_cons_succ])
    refine wpG_take1 (i := 2) (v := ?_) rfl (by kernel_rfl) (by kernel_rfl) (by kernel_rfl) (by decide) (fun _ _ _ h => h) (Or.inl ⟨by rfl, ?_⟩) hSS ?_
    rotate_left 1
    · (intro w hSw; (try dsimp only at hSw); (try simp only [List.getElem_toArray, List.getElem_cons_succ, List.getElem_cons_zero]); go_simp; (try with_reducible rfl))
    (try simp only [Act.put, List.getElem_toArray, List.getElem_cons_succ, List.getElem_cons_zero, List.setIfInBounds_toArray, List.set_cons_zero, List.set_cons_succ])
    refine wpG_take1 (i := 3) (v := ?_) rfl (by kernel_rfl) (by kernel_rfl) (by kernel_rfl) (by decide) (fun _ _ _ h => h) (Or.inl ⟨by rfl, ?_⟩) hSS ?_
    rotate_left 1
    · (intro w hSw; (try dsimp only at hSw); (try simp only [List.getElem_toArray, List.getElem_cons_succ, List.getElem_cons_zero]); go_simp; (try with_reducible rfl))
    (try simp only [Act.put, List.getElem_toArray, List.getElem_cons_succ, List.getElem_cons_zero, List.setIfInBounds_toArray, List.set_cons_zero, List.set_cons_succ])
    refine wpG_take1 (i := 4) (v := ?_) rfl (by kernel_rfl) (by kernel_rfl) (by kernel_rfl) (by decide) (fun _ _ _ h => h) (Or.inl ⟨by rfl, ?_⟩) hSS ?_
    rotate_left 1
    · (intro w hSw; (try dsimp only at hSw); (try simp only [List.getElem_toArray, List.getElem_cons_succ, List.getElem_cons_zero]); go_simp; (try with_reducible rfl))
    (try simp only [Act.put, List.getElem_toArray, List.getElem_cons_succ, List.getElem_cons_zero, List.setIfInBounds_toArray, List.set_cons_zero, List.set_cons_succ])
    refine wpG_take1 (i := 5) (v := ?_) rfl (by kernel_rfl) (by kernel_rfl) (by kernel_rfl) (by decide) (fun _ _ _ h => h) (Or.inl ⟨by rfl, ?_⟩) hSS ?_
    rotate_left 1
    · (intro w hSw; (try dsimp only at hSw); (try simp only [List.getElem_toArray, List.getElem_cons_succ, List.getElem_cons_zero]); go_simp; (try with_reducible rfl))
    (try simp only [Act.put, List.getElem_toArray, List.getElem_cons_succ, List.getElem_cons_zero, List.setIfInBounds_toArray, List.set_cons_zero, List.set_cons_succ])
    refine wpG_take1 (i := 6) (v := ?_) rfl (by kernel_rfl) (by kernel_rfl) (by kernel_rfl) (by decide) (fun _ _ _ h => h) (Or.inl ⟨by rfl, ?_⟩) hSS ?_
    rotate_left 1
    · (intro w hSw; (try dsimp only at hSw); (try simp only [List.getElem_toArray, List.getElem_cons_succ, List.getElem_cons_zero]); go_simp; (try with_reducible rfl))
    (try simp only [Act.put, List.getElem_toArray, List.getElem_cons_succ, List.getElem_cons_zero, List.setIfInBounds_toArray, List.set_cons_zero, List.set_cons_succ])
    refine wpG_past (i := 7) (by kernel_rfl) rfl (by kernel_rfl) (fun K hK => ?_)
    refine step_callL (by rfl) (.func 67) [.tmp 72, .tmp 75] _ (by rfl) 67 _ fnTUnread (by rfl) _ (by rfl) _ had ?_
    rintro v4 w4 ⟨y, rfl, hh⟩
    have HH := Lib.hid hh
    have hS4 : w4.cell? ⟨P.sb, 4, none⟩ = some (.pointer (some ⟨P.tb, 0, none⟩)) ∧ w4.cell? ⟨P.gI id, i, none⟩ = some (.int .i64 x) ∧ w4.frozen? ⟨P.gI id, i, none⟩ = false := by
      rcases hh with ⟨_, _, hb⟩ | ⟨_, _, vv, hst⟩
      · exact ⟨cell_bl hb x4, cell_bl hb p0, ((HS.out.later hb).plc hid hi).2.2⟩
      · have h9 := hst.sr.plc (id := id) (i := i) hid hi
        exact ⟨hst.sr.tp, by rw [← HX.out]; exact h9.2.1, h9.2.2⟩
    obtain ⟨b4, b5, b6⟩ := hS4
    refine hK.out _ _ ⟨b4, b5⟩ ?_
    clear hK K hSS had hh
    (try simp only [Act.put, List.getElem_toArray, List.getElem_cons_succ, List.getElem_cons_zero, List.setIfInBounds_toArray, List.set_cons_zero, List.set_cons_succ])
    refine wpG_past (i := 8) (by kernel_rfl) rfl (by kernel_rfl) (fun K hK => ?_)
    (try simp only [List.getElem_toArray, List.getElem_cons_succ, List.getElem_cons_zero])
    go_simp
    refine hK.out _ _ ⟨b4, b5⟩ ?_
    clear hK K
    (try simp only [Act.put, List.getElem_toArray, List.getElem_cons_succ, List.getElem_cons_zero, List.setIfInBounds_toArray, List.set_cons_zero, List.set_cons_succ])
    refine wpG_done (by kernel_rfl) ?_
    refine NoPanic.normal ?_
    rcases HH.out with ⟨rfl, h1, hb⟩ | ⟨rfl, h1, vv, hst⟩
    · have HN := Lib.hid h1
      have HB := Lib.hid hb
      clear HH h1 hb
      go_wp2_with fail
      go_ret
      exact ⟨by rw [HN.out]; rfl, P, by rw [HN.out]; exact SStp.refl HS.out HB.out, rfl⟩
    · have HN := Lib.hid h1
      have HPT := Lib.hid (hst.trans (hst.sr.put (id := id) (i := i) hid hi 0 ⟨by decide, by decide⟩))
      clear HH h1 hst
      go_wp2_with fail
      go_ret
      exact ⟨by rw [HN.out]; rfl, { P with vI := vv }, by rw [HN.out]; exact HPT.out, rfl⟩
  · skip
    have had : Calls Try.prog 69 [.pointer (some ⟨P.tb, 0, none⟩), .int .i64 x].toArray W.drew fun e W' => ∃ u, e = .returned u ∧ ∃ y, u = .int .i64 y ∧
        ((y = 5 ∧ R = (5, S) ∧ Below W.heap.size W W') ∨ (y = 0 ∧ R = (0, ({ S with tout := S.tout ++ [x] } : ST).put id i 0) ∧ ∃ vv, SStp n0 P S W { P with vO := vv } ({ S with tout := S.tout ++ [x] } : ST) W')) := by
      refine (Write_any (HS.out.later (Below.refl _ _).drew) x hxI).mono ?_
      rintro e W' hh
      rcases hh with ⟨h0, rfl, hb⟩ | ⟨h0, rfl, vv, hst⟩
      · exact ⟨_, rfl, 5, rfl, .inl ⟨rfl, by rw [← HRR.out, transE, if_neg (by decide), if_neg (by decide), if_neg (by decide), if_pos h0], bl_tt (Below.refl _ _).drew hb⟩⟩
      · exact ⟨_, rfl, 0, rfl, .inr ⟨rfl, by rw [← HRR.out, transE, if_neg (by decide), if_neg (by decide), if_neg (by decide), if_neg (by omega), HX.out], vv, ⟨hst.st.after (Below.refl _ _).drew HS.out.rws, hst.wf⟩⟩⟩
    go_enter Try.func63, Try.ntmps63
    go_upto_region 19 with fail
    have hSS : (fun w' : World => w'.cell? ⟨P.sb, 4, none⟩ = some (.pointer (some ⟨P.tb, 0, none⟩)) ∧ w'.cell? ⟨P.gI id, i, none⟩ = some (.int .i64 x)) W.drew ∧ (fun _ : World => True) W.drew := ⟨⟨x4, p0⟩, trivial⟩
    refine wp_region_noPanic ?_
    refine wp_region_G (fun w' : World => w'.cell? ⟨P.sb, 4, none⟩ = some (.pointer (some ⟨P.tb, 0, none⟩)) ∧ w'.cell? ⟨P.gI id, i, none⟩ = some (.int .i64 x)) (fun _ : World => True) 7 (by kernel_rfl) ?_
    refine wpG_take1 (i := 0) (v := ?_) rfl (by kernel_rfl) (by kernel_rfl) (by kernel_rfl) (by decide) (fun _ _ _ h => h) (Or.inl ⟨by rfl, ?_⟩) hSS ?_
    rotate_left 1
    · (intro w hSw; (try dsimp only at hSw); (try simp only [List.getElem_toArray, List.getElem_cons_zero]); go_simp; (try with_reducible rfl))
    (try simp only [Act.put, List.getElem_toArray, List.getElem_cons_zero, List.setIfInBounds_toArray, List.set_cons_zero, List.set_cons_succ])
    refine wpG_take1 (i := 1) (v := ?_) rfl (by kernel_rfl) (by kernel_rfl) (by kernel_rfl) (by decide) (fun _ _ _ h => h) (Or.inl ⟨by rfl, ?_⟩) hSS ?_
    rotate_left 1
    · (intro w hSw; (try dsimp only at hSw); (try simp only [List.getElem_toArray, List.getElem_cons_succ, List.getElem_cons_zero]); go_simp; (try with_reducible rfl))
    (try simp only [Act.put, List.getElem_toArray, List.getElem_cons_succ, List.getElem_cons_zero, List.setIfInBounds_toArray, List.set_cons_zero, List.set_cons_succ])
    refine wpG_take1 (i := 2) (v := ?_) rfl (by kernel_rfl) (by kernel_rfl) (by kernel_rfl) (by decide) (fun _ _ _ h => h) (Or.inl ⟨by rfl, ?_⟩) hSS ?_
    rotate_left 1
    · (intro w hSw; (try dsimp only at hSw); (try simp only [List.getElem_toArray, List.getElem_cons_succ, List.getElem_cons_zero]); go_simp; (try with_reducible rfl))
    (try simp only [Act.put, List.getElem_toArray, List.getElem_cons_succ, List.getElem_cons_zero, List.setIfInBounds_toArray, List.set_cons_zero, List.set_cons_succ])
    refine wpG_take1 (i := 3) (v := ?_) rfl (by kernel_rfl) (by kernel_rfl) (by kernel_rfl) (by decide) (fun _ _ _ h => h) (Or.inl ⟨by rfl, ?_⟩) hSS ?_
    rotate_left 1
    · (intro w hSw; (try dsimp only at hSw); (try simp only [List.getElem_toArray, List.getElem_cons_succ, List.getElem_cons_zero]); go_simp; (try with_reducible rfl))
    (try simp only [Act.put, List.getElem_toArray, List.getElem_cons_succ, List.getElem_cons_zero, List.setIfInBounds_toArray, List.set_cons_zero, List.set_cons_succ])
    refine wpG_take1 (i := 4) (v := ?_) rfl (by kernel_rfl) (by kernel_rfl) (by kernel_rfl) (by decide) (fun _ _ _ h => h) (Or.inl ⟨by rfl, ?_⟩) hSS ?_
    rotate_left 1
    · (intro w hSw; (try dsimp only at hSw); (try simp only [List.getElem_toArray, List.getElem_cons_succ, List.getElem_cons_zero]); go_simp; (try with_reducible rfl))
    (try simp only [Act.put, List.getElem_toArray, List.getElem_cons_succ, List.getElem_cons_zero, List.setIfInBounds_toArray, List.set_cons_zero, List.set_cons_succ])
    refine wpG_take1 (i := 5) (v := ?_) rfl (by kernel_rfl) (by kernel_rfl) (by kernel_rfl) (by decide) (fun _ _ _ h => h) (Or.inl ⟨by rfl, ?_⟩) hSS ?_
    rotate_left 1
    · (intro w hSw; (try dsimp only at hSw); (try simp only [List.getElem_toArray, List.getElem_cons_succ, List.getElem_cons_zero]); go_simp; (try with_reducible rfl))
    (try simp only [Act.put, List.getElem_toArray, List.getElem_cons_succ, List.getElem_cons_zero, List.setIfInBounds_toArray, List.set_cons_zero, List.set_cons_succ])
    refine wpG_take1 (i := 6) (v := ?_) rfl (by kernel_rfl) (by kernel_rfl) (by kernel_rfl) (by decide) (fun _ _ _ h => h) (Or.inl ⟨by rfl, ?_⟩) hSS ?_
    rotate_left 1
    · (intro w hSw; (try dsimp only at hSw); (try simp only [List.getElem_toArray, List.getElem_cons_succ, List.getElem_cons_zero]); go_simp; (try with_reducible rfl))
    (try simp only [Act.put, List.getElem_toArray, List.getElem_cons_succ, List.getElem_cons_zero, List.setIfInBounds_toArray, List.set_cons_zero, List.set_cons_succ])
    refine wpG_past (i := 7) (by kernel_rfl) rfl (by kernel_rfl) (fun K hK => ?_)
    refine step_callL (by rfl) (.func 69) [.tmp 82, .tmp 85] _ (by rfl) 69 _ fnTWrite (by rfl) _ (by rfl) _ had ?_
    rintro v4 w4 ⟨y, rfl, hh⟩
    have HH := Lib.hid hh
    have hS4 : w4.cell? ⟨P.sb, 4, none⟩ = some (.pointer (some ⟨P.tb, 0, none⟩)) ∧ w4.cell? ⟨P.gI id, i, none⟩ = some (.int .i64 x) ∧ w4.frozen? ⟨P.gI id, i, none⟩ = false := by
      rcases hh with ⟨_, _, hb⟩ | ⟨_, _, vv, hst⟩
      · exact ⟨cell_bl hb x4, cell_bl hb p0, ((HS.out.later hb).plc hid hi).2.2⟩
      · have h9 := hst.sr.plc (id := id) (i := i) hid hi
        exact ⟨hst.sr.tp, by rw [← HX.out]; exact h9.2.1, h9.2.2⟩
    obtain ⟨b4, b5, b6⟩ := hS4
    refine hK.out _ _ ⟨b4, b5⟩ ?_
    clear hK K hSS had hh
    (try simp only [Act.put, List.getElem_toArray, List.getElem_cons_succ, List.getElem_cons_zero, List.setIfInBounds_toArray, List.set_cons_zero, List.set_cons_succ])
    refine wpG_past (i := 8) (by kernel_rfl) rfl (by kernel_rfl) (fun K hK => ?_)
    (try simp only [List.getElem_toArray, List.getElem_cons_succ, List.getElem_cons_zero])
    go_simp
    refine hK.out _ _ ⟨b4, b5⟩ ?_
    clear hK K
    (try simp only [Act.put, List.getElem_toArray, List.getElem_cons_succ, List.getElem_cons_zero, List.setIfInBounds_toArray, List.set_cons_zero, List.set_cons_succ])
    refine wpG_done (by kernel_rfl) ?_
    refine NoPanic.normal ?_
    rcases HH.out with ⟨rfl, h1, hb⟩ | ⟨rfl, h1, vv, hst⟩
    · have HN := Lib.hid h1
      have HB := Lib.hid hb
      clear HH h1 hb
      go_wp2_with fail
      go_ret
      exact ⟨by rw [HN.out]; rfl, P, by rw [HN.out]; exact SStp.refl HS.out HB.out, rfl⟩
    · have HN := Lib.hid h1
      have HPT := Lib.hid (hst.trans (hst.sr.put (id := id) (i := i) hid hi 0 ⟨by decide, by decide⟩))
      clear HH h1 hst
      go_wp2_with fail
      go_ret
      exact ⟨by rw [HN.out]; rfl, { P with vO := vv }, by rw [HN.out]; exact HPT.out, rfl⟩

end Go.Proofs.Ytekjfbnggfbfhaa
