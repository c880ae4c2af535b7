/-
  store: the contract of Open.
-/
import Derived.Test.YtekjfbnggfbfhaaSo
namespace Go.Proofs.Ytekjfbnggfbfhaa
open Go Go.RowKit

/-- Store.Open. -/
def openE (S : ST) (v : VD) (x : Int) : Int × ST :=
  if ¬ ((v.k = 1 ∨ v.k = 3) ∧ v.n = 0) then (7, S)
  else if (S.cur.at v.s).isSome = true then (22, S)
  else (0, (S.newCell (if v.k = 1 then [x] else [])).setCur (S.cur.push v S.nc))

/-- frame.add at the current frame, ahead of 'locals++'. -/
theorem add_local {W : World} {n0 : Nat} {P : Ph} {S : ST} (h : SR W n0 P S) (v : VD) (id b B O : Nat) (hb : P.cb id = b) (hcp : curP P S = ⟨B, O, none⟩) (hlim : S.cur.vs.length ≤ 4398046511000) (hwf : (S.setCur (S.cur.push v id)).WF) :
    Calls Try.prog 32 #[.pointer (some ⟨B, O, none⟩), .agg #[.string v.s, .int .u8 v.k, .int .i64 v.n], .pointer (some ⟨b, 0, none⟩)] W fun e W' => (∃ u, e = .returned u) ∧
      W'.cell? ⟨B, O + 2, none⟩ = some (.int .i64 S.cur.loc) ∧ W'.frozen? ⟨B, O + 2, none⟩ = false ∧ ∃ P', SStp n0 P S W P' (S.setCur (S.cur.push v id)) (W'.setCell ⟨B, O + 2, none⟩ (.int .i64 ((S.cur.loc : Int) + 1))) ∧ P'.sb = P.sb := by
  obtain ⟨e0, hob, ho⟩ := cur_holder h
  obtain ⟨g1, g2, g3⟩ := hold_get P S
  rw [hcp] at e0 hob
  dsimp only at e0 hob
  have eO : O = oI S := by injection e0
  subst eO
  have hadd := add_cur h v (some ⟨P.cb id, 0, none⟩) hlim
  rw [hcp, hb] at hadd
  refine hadd.mono ?_
  rintro e W' ⟨hu, vv, vc, hst⟩
  have hr := hst.rws
  refine ⟨hu, hr.cell (hI S) (by rw [updR_same]; exact hob) ?_, hr.frozen (hI S) (by rw [updR_same]; exact hob) _, P.setCur S vv vc, ?_, ?_⟩
  · rw [updR_same]
    show (((rows P S (hI S)).xs.set (oI S) vv).set (oI S + 1) vc)[oI S + 2]? = _
    rw [List.getElem?_set_ne (by omega), List.getElem?_set_ne (by omega)]
    exact g3
  · have := push_fin h v id vv vc hwf (by rw [hb]; exact hst)
    rw [hcp] at this
    exact this
  · unfold Ph.setCur; split <;> rfl

set_option maxHeartbeats 4000000 in
set_option maxRecDepth 100000 in
theorem Open_any {W : World} {n0 : Nat} {P : Ph} {S : ST} (h : SR W n0 P S) (v : VD) (hfv : FldV v) (x : Int) (hx : I64 x) (hlim : S.cur.vs.length + 1 ≤ 4398046511000) : Calls Try.prog 22 #[.pointer (some ⟨P.sb, 0, none⟩), .agg #[.string v.s, .int .u8 v.k, .int .i64 v.n], .int .i64 x] W fun e W' => e = .returned (.int .i64 (openE S v x).1) ∧ ∃ P', SStp n0 P S W P' (openE S v x).2 W' ∧ P'.sb = P.sb := by
  have HS := Lib.hid h
  obtain ⟨kd, hw⟩ := h.curWF
  obtain ⟨A, c, hcv, hc, hrow⟩ := h.curVs
  obtain ⟨h3, h4, h5⟩ := h.cur3
  rw [hcv] at h3
  have HLOC := Lib.hid (show S.cur.loc ≤ 4398046511000 by have := hw.loc; have := hw.lim; omega)
  obtain ⟨R, hR⟩ : ∃ R, openE S v x = R := ⟨_, rfl⟩
  rw [hR]
  have HRR := Lib.hid hR
  have HCU := Lib.hid (fun W' (hb : Below W.heap.size W W') => current_any (h.later hb))
  have HFI := Lib.hid (fun W' (hb : Below W.heap.size W W') => find_any S.cur.vs A c v.s (curP P S) W' (cell_bl hb h3) (hrow.later hb) hw.lim)
  obtain ⟨vm, vk, vn⟩ := v
  dsimp only at HFI ⊢
  clear h hw hcv hrow h3 h4 h5 hR
  by_cases k13 : vk = 1 ∨ vk = 3
  · by_cases hn : vn = 0
    · subst hn
      obtain ⟨r, hr⟩ : ∃ r, S.cur.at vm = r := ⟨_, rfl⟩
      have hr' : lastI S.cur.vs vm S.cur.vs.length = r := hr
      rw [hr'] at HFI
      have HR2 := Lib.hid (show R = if r.isSome = true then (22, S) else (0, (S.newCell (if vk = 1 then [x] else [])).setCur (S.cur.push ⟨vm, vk, 0⟩ S.nc)) by
        rw [← HRR.out, openE, if_neg (by simp [k13]), hr])
      obtain ⟨B, O, hcp⟩ : ∃ B O, curP P S = ⟨B, O, none⟩ := ⟨_, _, (cur_holder HS.out).1⟩
      rw [hcp] at HFI HCU
      have HCP := Lib.hid hcp
      clear HRR hr hr' hcp
      rcases r with _ | i
      · rcases k13 with rfl | rfl
        · simp only [idxZ] at HFI
          go_enter Try.func22, Try.ntmps22
          go_wp2_with fail
          refine (HCU.out _ (bl_al (Below.refl _ _) _)).mono ?_
          rintro e w1 ⟨rfl, rfl⟩
          go_wp2_with fail
          refine (HFI.out _ (bl_al (Below.refl _ _) _)).mono ?_
          rintro e w2 ⟨rfl, bw2⟩
          have hvb := blk_bl (heap_alloc_new W (.cells #[.string vm, .int .u8 1, .int .i64 0] 24)) bw2
          have hva := fun o => blk_al hvb o
          have u0 : ∀ o, (w2.alloc o).cell? ⟨W.heap.size, 0, none⟩ = some (.string vm) := fun o => cell_of_blk (hva o) rfl
          have u1 : ∀ o, (w2.alloc o).cell? ⟨W.heap.size, 1, none⟩ = some (.int .u8 1) := fun o => cell_of_blk (hva o) rfl
          have u2 : ∀ o, (w2.alloc o).cell? ⟨W.heap.size, 2, none⟩ = some (.int .i64 0) := fun o => cell_of_blk (hva o) rfl
          have hvc := fun o o' => blk_al (hva o) o'
          have t0 : ∀ o o', ((w2.alloc o).alloc o').cell? ⟨W.heap.size, 0, none⟩ = some (.string vm) := fun o o' => cell_of_blk (hvc o o') rfl
          have t1 : ∀ o o', ((w2.alloc o).alloc o').cell? ⟨W.heap.size, 1, none⟩ = some (.int .u8 1) := fun o o' => cell_of_blk (hvc o o') rfl
          have t2 : ∀ o o', ((w2.alloc o).alloc o').cell? ⟨W.heap.size, 2, none⟩ = some (.int .i64 0) := fun o o' => cell_of_blk (hvc o o') rfl
          have s1 := newCell_int HS.out (bl_tt (bl_al (Below.refl _ _) _) bw2) x hx
          have hwf := WF_open HS.out.wf ⟨vm, 1, 0⟩ hfv [x] (by simp) (by simpa using hx) (by simp) hlim
          have HX := Lib.hid (show R = (0, (S.newCell [x]).setCur (S.cur.push ⟨vm, 1, 0⟩ S.nc)) by rw [HR2.out]; simp)
          have HAD := Lib.hid (add_local s1.sr ⟨vm, 1, 0⟩ S.nc w2.heap.size B O (by simp [Ph.newCell]) HCP.out (by show S.cur.vs.length ≤ _; omega) hwf)
          have HS1 := Lib.hid s1
          dsimp only [newCell_cur] at HAD
          have hl1 := HLOC.out
          clear hva hvc s1 hwf HR2
          go_wp2_with fail
          refine HAD.out.mono ?_
          rintro e w4 ⟨⟨u, rfl⟩, y0, y1, P2, hs2, hp2⟩
          have HS2 := Lib.hid hs2
          have HP2 := Lib.hid hp2
          obtain ⟨lc, hlc⟩ : ∃ lc, S.cur.loc = lc := ⟨_, rfl⟩
          rw [hlc] at y0 HS2 hl1
          clear hs2 hp2 hlc
          go_wp2_with fail
          go_ret
          refine ⟨by rw [HX.out]; rfl, P2, ?_, HP2.out⟩
          rw [HX.out]
          exact HS1.out.trans HS2.out
        · simp only [idxZ] at HFI
          go_enter Try.func22, Try.ntmps22
          go_wp2_with fail
          refine (HCU.out _ (bl_al (Below.refl _ _) _)).mono ?_
          rintro e w1 ⟨rfl, rfl⟩
          go_wp2_with fail
          refine (HFI.out _ (bl_al (Below.refl _ _) _)).mono ?_
          rintro e w2 ⟨rfl, bw2⟩
          have hvb := blk_bl (heap_alloc_new W (.cells #[.string vm, .int .u8 3, .int .i64 0] 24)) bw2
          have hva := fun o => blk_al hvb o
          have u0 : ∀ o, (w2.alloc o).cell? ⟨W.heap.size, 0, none⟩ = some (.string vm) := fun o => cell_of_blk (hva o) rfl
          have u1 : ∀ o, (w2.alloc o).cell? ⟨W.heap.size, 1, none⟩ = some (.int .u8 3) := fun o => cell_of_blk (hva o) rfl
          have u2 : ∀ o, (w2.alloc o).cell? ⟨W.heap.size, 2, none⟩ = some (.int .i64 0) := fun o => cell_of_blk (hva o) rfl
          have hvc := fun o o' => blk_al (hva o) o'
          have t0 : ∀ o o', ((w2.alloc o).alloc o').cell? ⟨W.heap.size, 0, none⟩ = some (.string vm) := fun o o' => cell_of_blk (hvc o o') rfl
          have t1 : ∀ o o', ((w2.alloc o).alloc o').cell? ⟨W.heap.size, 1, none⟩ = some (.int .u8 3) := fun o o' => cell_of_blk (hvc o o') rfl
          have t2 : ∀ o o', ((w2.alloc o).alloc o').cell? ⟨W.heap.size, 2, none⟩ = some (.int .i64 0) := fun o o' => cell_of_blk (hvc o o') rfl
          have s1 := newCell_stack HS.out (bl_tt (bl_al (Below.refl _ _) _) bw2)
          have hwf := WF_open HS.out.wf ⟨vm, 3, 0⟩ hfv [] (by simp) (by simp) (by simp) hlim
          have HX := Lib.hid (show R = (0, (S.newCell []).setCur (S.cur.push ⟨vm, 3, 0⟩ S.nc)) by rw [HR2.out]; simp)
          have HAD := Lib.hid (add_local s1.sr ⟨vm, 3, 0⟩ S.nc w2.heap.size B O (by simp [Ph.newCell]) HCP.out (by show S.cur.vs.length ≤ _; omega) hwf)
          have HS1 := Lib.hid s1
          dsimp only [newCell_cur] at HAD
          have hl1 := HLOC.out
          clear hva hvc s1 hwf HR2
          go_wp2_with fail
          refine HAD.out.mono ?_
          rintro e w4 ⟨⟨u, rfl⟩, y0, y1, P2, hs2, hp2⟩
          have HS2 := Lib.hid hs2
          have HP2 := Lib.hid hp2
          obtain ⟨lc, hlc⟩ : ∃ lc, S.cur.loc = lc := ⟨_, rfl⟩
          rw [hlc] at y0 HS2 hl1
          clear hs2 hp2 hlc
          go_wp2_with fail
          go_ret
          refine ⟨by rw [HX.out]; rfl, P2, ?_, HP2.out⟩
          rw [HX.out]
          exact HS1.out.trans HS2.out
      · have HX := Lib.hid (show R = (22, S) by rw [HR2.out]; rfl)
        simp only [idxZ] at HFI
        have hi0 : ¬ (i : Int) < 0 := by omega
        clear HR2
        rcases k13 with rfl | rfl
        all_goals
          go_enter Try.func22, Try.ntmps22
          go_wp2_with fail
          refine (HCU.out _ (bl_al (Below.refl _ _) _)).mono ?_
          rintro e w1 ⟨rfl, rfl⟩
          go_wp2_with fail
          refine (HFI.out _ (bl_al (Below.refl _ _) _)).mono ?_
          rintro e w2 ⟨rfl, bw2⟩
          have q2 := bl_tt (bl_al (Below.refl _ _) _) bw2
          clear bw2
          go_wp2_with fail
          go_ret
          exact ⟨by rw [HX.out]; rfl, P, by rw [HX.out]; exact SStp.refl HS.out q2, rfl⟩
    · have HX := Lib.hid (show R = (7, S) by rw [← HRR.out, openE, if_pos (by simp [hn])])
      have e1 : (vn == 0) = false := by simpa using hn
      have e2 : (vn != 0) = true := by simpa using hn
      clear hn HRR
      rcases k13 with rfl | rfl
      all_goals
        go_enter Try.func22, Try.ntmps22
        go_wp2_with fail
        go_ret
        exact ⟨by rw [HX.out]; rfl, P, by rw [HX.out]; exact SStp.refl HS.out (bl_al (Below.refl _ _) _), rfl⟩
  · have HX := Lib.hid (show R = (7, S) by rw [← HRR.out, openE, if_pos (by simp [k13])])
    have x1 : (vk == 1) = false := by simp; omega
    have x3 : (vk == 3) = false := by simp; omega
    have y1 : (vk != 1) = true := by simp; omega
    have y3 : (vk != 3) = true := by simp; omega
    clear k13 HRR
    go_enter Try.func22, Try.ntmps22
    go_wp2_with fail
    go_ret
    exact ⟨by rw [HX.out]; rfl, P, by rw [HX.out]; exact SStp.refl HS.out (bl_al (Below.refl _ _) _), rfl⟩

end Go.Proofs.Ytekjfbnggfbfhaa
