/-
  store: the contract of Close.
-/
import Derived.Test.YtekjfbnggfbfhaaSa
namespace Go.Proofs.Ytekjfbnggfbfhaa
open Go Go.RowKit

/-- The last variable of a frame, the number of its cell. -/
def lastV (f : FR) : VD := f.vs.getD (f.vs.length - 1) ⟨⟨#[]⟩, 0, 0⟩
def lastC (f : FR) : Nat := f.cs.getD (f.vs.length - 1) 0
/-- The frame without its last variable, which is a local. -/
def FR.pop (f : FR) : FR := ⟨f.vs.take (f.vs.length - 1), f.cs.take (f.vs.length - 1), f.loc - 1⟩
/-- Store.Close. -/
def closeE (S : ST) (name : ByteArray) (x : Int) : Int × ST :=
  if S.cur.loc = 0 ∨ ((lastV S.cur).s.toList == name.toList) = false then (6, S)
  else if ((lastV S.cur).k = 1 ∧ (S.cell (lastC S.cur)).getD 0 0 ≠ x) ∨ ((lastV S.cur).k = 3 ∧ 0 < (S.cell (lastC S.cur)).length) then (16, S)
  else (0, S.setCur S.cur.pop)

theorem ST.WF.cur2 {S : ST} (h : S.WF) : ∃ kd : Nat → Int × Int, S.cur.WF kd S.nc ∧ ∀ i, i < S.nc → ((kd i).1 = 1 → (S.cell i).length = 1) ∧ ((kd i).1 = 2 → ((S.cell i).length : Int) = (kd i).2) ∧ ((kd i).1 = 1 ∨ (kd i).1 = 2 ∨ (kd i).1 = 3) := by
  obtain ⟨kd, h1, h2, h3⟩ := h.ex
  refine ⟨kd, ?_, h3⟩
  rcases Nat.eq_zero_or_pos S.calls.length with h0 | h0
  · rw [cur_0 h0]; exact h1
  · rw [cur_1 h0]; exact h2 _ (List.getElem_mem _)
/-- The last variable's cell has the elements that its kind asks for. -/
theorem last_kind {S : ST} (h : S.WF) {m : Nat} (hm : m < S.cur.vs.length) (hc : m < S.cur.cs.length) (hk : S.cur.vs[m].k = 1) : (S.cell S.cur.cs[m]).length = 1 := by
  obtain ⟨kd, h1, h2⟩ := h.cur2
  refine (h2 _ (h1.num _ (List.getElem_mem hc))).1 ?_
  rw [h1.kind m hm hc]
  exact hk
theorem cur_holder {W : World} {n0 : Nat} {P : Ph} {S : ST} (h : SR W n0 P S) : curP P S = ⟨(curP P S).block, oI S, none⟩ ∧ (rows P S (hI S)).v.ownBlock = some (curP P S).block ∧ oI S + 2 < (rows P S (hI S)).xs.length := by
  by_cases h0 : S.calls.length = 0
  · simp [curP, oI, hI, h0, rows, Value.ownBlock]
  · obtain ⟨A, c, hv, _, h2⟩ := h.calls
    obtain ⟨rfl, -⟩ := h2 (by omega)
    simp only [curP, oI, hI, h0, if_false, rows]
    refine ⟨by first | rfl | trivial, by rw [hv]; rfl, ?_⟩
    rw [flatF_len]
    omega
theorem ptrs_take (cb : Nat → Nat) (cs : List Nat) (m : Nat) : ptrs cb (cs.take m) = (ptrs cb cs).take m := by simp [ptrs]
theorem flatV_take : ∀ (vs : List VD) (m : Nat), flatV (vs.take m) = (flatV vs).take (m * 3)
  | [], m => by simp [flatV]
  | v :: vs, 0 => by simp [flatV]
  | v :: vs, m + 1 => by
    have := flatV_take vs m
    rw [show (m + 1) * 3 = m * 3 + 1 + 1 + 1 by omega]
    simp only [flatV, List.take_succ_cons, List.flatMap_cons, List.cons_append, List.nil_append] at *
    rw [this]
theorem rows_vI (P : Ph) (S : ST) : rows P S (vI S) = ⟨curV P S, 24, 3, S.cur.vs.length, flatV S.cur.vs⟩ ∧ rows P S (cI S) = ⟨curC P S, 79, 1, S.cur.cs.length, ptrs P.cb S.cur.cs⟩ := by
  by_cases h0 : S.calls.length = 0
  · simp [vI, cI, curV, curC, h0, rows, cur_0 h0]
  · have hl : S.calls.length - 1 < S.calls.length := by omega
    simp [vI, cI, curV, curC, h0, rows, cur_1 (show 0 < S.calls.length by omega), List.getElem?_eq_getElem hl]
theorem hI_ne (S : ST) : hI S ≠ vI S ∧ hI S ≠ cI S ∧ vI S ≠ cI S := by
  unfold hI vI cI
  split <;> simp
/-- The two rows of the current frame turn, and its three cells are stored anew. -/
theorem cur_rows {W : World} {n0 : Nat} {P : Ph} {S : ST} (h : SR W n0 P S) (f : FR) (hwf : (S.setCur f).WF) (W2 : World) (vv vc : Value)
    (hst : Stp n0 (rows P S) W (updR (updR (rows P S) (vI S) ⟨vv, 24, 3, f.vs.length, flatV f.vs⟩) (cI S) ⟨vc, 79, 1, f.cs.length, ptrs P.cb f.cs⟩) W2) :
    SStp n0 P S W (P.setCur S vv vc) (S.setCur f) (((W2.setCell ⟨(curP P S).block, oI S, none⟩ vv).setCell ⟨(curP P S).block, oI S + 1, none⟩ vc).setCell ⟨(curP P S).block, oI S + 2, none⟩ (.int .i64 f.loc)) := by
  refine ⟨?_, hwf⟩
  obtain ⟨_, hb, ho⟩ := cur_holder h
  obtain ⟨n1, n2, _⟩ := hI_ne S
  have hd : updR (updR (rows P S) (vI S) ⟨vv, 24, 3, f.vs.length, flatV f.vs⟩) (cI S) ⟨vc, 79, 1, f.cs.length, ptrs P.cb f.cs⟩ (hI S) = rows P S (hI S) := by rw [updR_other n2, updR_other n1]
  have s1 := Stp.set (i := hI S) hst.rws (g := (curP P S).block) (by rw [hd]; exact hb) (o := oI S) (by rw [hd]; omega) vv
  rw [hd] at s1
  have s2 := Stp.set (i := hI S) s1.rws (g := (curP P S).block) (by rw [updR_same]; exact hb) (o := oI S + 1) (by rw [updR_same]; simp; omega) vc
  rw [updR_same] at s2
  have s3 := Stp.set (i := hI S) s2.rws (g := (curP P S).block) (by rw [updR_same]; exact hb) (o := oI S + 2) (by rw [updR_same]; simp; omega) (.int .i64 f.loc)
  rw [updR_same] at s3
  refine ((((hst.trans s1).trans s2).trans s3)).cast ?_
  rw [rows_setCur]
  funext r
  by_cases e : r = hI S
  · subst e; simp
  · simp only [updR, e, if_false]

theorem WF_setCur {S : ST} (h : S.WF) (f : FR) (hf : ∀ kd, S.cur.WF kd S.nc → f.WF kd S.nc) : (S.setCur f).WF := by
  obtain ⟨kd, h1, h2, h3⟩ := h.ex
  by_cases h0 : S.calls.length = 0
  · have hc : S.calls = [] := List.length_eq_zero_iff.1 h0
    simp only [ST.setCur, h0, if_true]
    refine ⟨⟨kd, hf kd (by rw [cur_0 h0]; exact h1), fun g hg => ?_, h3⟩, h.ncalls, h.cells, h.tin, h.tout⟩
    rw [hc] at hg
    cases hg
  · simp only [ST.setCur, h0, if_false]
    refine ⟨⟨kd, h1, fun g hg => ?_, h3⟩, by simpa using h.ncalls, h.cells, h.tin, h.tout⟩
    rcases List.mem_or_eq_of_mem_set hg with hg | rfl
    · exact h2 g hg
    · exact hf kd (by rw [cur_1 (by omega)]; exact h2 _ (List.getElem_mem _))
theorem WF_pop {f : FR} {kd : Nat → Int × Int} {nc : Nat} (h : f.WF kd nc) : f.pop.WF kd nc := by
  refine ⟨?_, ?_, ?_, fun v hv => h.fld v (List.mem_of_mem_take hv), fun c hc => h.num c (List.mem_of_mem_take hc), fun i hi hi' => ?_⟩
  · have := h.len; simp [FR.pop, this]
  · have := h.loc; simp [FR.pop]; omega
  · have := h.lim; simp [FR.pop]; omega
  · have h1 : i < f.vs.length := by simp [FR.pop] at hi; omega
    have h2 : i < f.cs.length := by rw [h.len]; exact h1
    have := h.kind i h1 h2
    simpa [FR.pop] using this
theorem pop_rows {W : World} {n0 : Nat} {P : Ph} {S : ST} (h : SR W n0 P S) (m : Nat) (hm : S.cur.vs.length = m + 1) (ga c g c2 : Nat) (hv : curV P S = .slice (some ⟨ga, 0, none⟩) (m + 1) c) (hc : curC P S = .slice (some ⟨g, 0, none⟩) (m + 1) c2) :
    Stp n0 (rows P S) W (updR (updR (rows P S) (vI S) ⟨.slice (some ⟨ga, 0, none⟩) m c, 24, 3, S.cur.pop.vs.length, flatV S.cur.pop.vs⟩) (cI S) ⟨.slice (some ⟨g, 0, none⟩) m c2, 79, 1, S.cur.pop.cs.length, ptrs P.cb S.cur.pop.cs⟩) W := by
  obtain ⟨kd, hw⟩ := h.curWF
  have hcl : S.cur.cs.length = m + 1 := by rw [hw.len]; exact hm
  obtain ⟨r1, r2⟩ := rows_vI P S
  obtain ⟨n1, n2, n3⟩ := hI_ne S
  have e1 : S.cur.pop.vs.length = m := by simp [FR.pop, hm]
  have e2 : S.cur.pop.cs.length = m := by simp [FR.pop, hm, hcl]
  have o1 : W.ownsRow n0 24 3 (.slice (some ⟨ga, 0, none⟩) m c) m (flatV S.cur.pop.vs) := by
    have := h.rws.row (vI S)
    rw [r1, hv, hm] at this
    have e : flatV S.cur.vs = flatV S.cur.pop.vs ++ (flatV S.cur.vs).drop (m * 3) := by
      simp only [FR.pop, hm, Nat.add_sub_cancel]
      rw [flatV_take, List.take_append_drop]
    dsimp only at this
    rw [e] at this
    exact ownsRow_pop (by rw [flatV_len, e1]) this
  have o2 : W.ownsRow n0 79 1 (.slice (some ⟨g, 0, none⟩) m c2) m (ptrs P.cb S.cur.pop.cs) := by
    have := h.rws.row (cI S)
    rw [r2, hc, hcl] at this
    have e : ptrs P.cb S.cur.cs = ptrs P.cb S.cur.pop.cs ++ (ptrs P.cb S.cur.cs).drop m := by
      simp only [FR.pop, hm, Nat.add_sub_cancel]
      rw [ptrs_take, List.take_append_drop]
    dsimp only at this
    rw [e] at this
    exact ownsRow_pop (by simp [ptrs, e2]) this
  rw [e1, e2]
  have s1 := Stp.upd (i := vI S) (r := ⟨.slice (some ⟨ga, 0, none⟩) m c, 24, 3, m, flatV S.cur.pop.vs⟩) h.rws (Chg.refl _ _) o1 (fun b hb => .inl (by rw [r1]; show (curV P S).ownBlock = some b; rw [hv]; exact hb))
  refine s1.trans (Stp.upd (i := cI S) s1.rws (Chg.refl _ _) o2 (fun b hb => .inl ?_))
  rw [updR_other (Ne.symm n3), r2]
  show (curC P S).ownBlock = some b
  rw [hc]
  exact hb

theorem close_fin {W : World} {n0 : Nat} {P : Ph} {S : ST} (h : SR W n0 P S) (m c g c2 lc B O : Nat) (a : Addr) (hm : S.cur.vs.length = m + 1) (hv : curV P S = .slice (some a) (m + 1) c) (hc : curC P S = .slice (some ⟨g, 0, none⟩) (m + 1) c2) (hB : (curP P S).block = B) (hO : oI S = O) (hlc : S.cur.loc = lc) (h0 : lc ≠ 0) :
    ∃ P', SStp n0 P S W P' (S.setCur S.cur.pop) (((W.setCell ⟨B, O, none⟩ (.slice (some a) m c)).setCell ⟨B, O + 1, none⟩ (.slice (some ⟨g, 0, none⟩) m c2)).setCell ⟨B, O + 2, none⟩ (.int .i64 ((lc : Int) - 1))).drew ∧ P'.sb = P.sb := by
  have hr := h.rws.row (vI S)
  rw [(rows_vI P S).1] at hr
  obtain ⟨ga, ca, hga, _⟩ := row_some hr (by dsimp only; omega)
  dsimp only at hga
  have ha : a = ⟨ga, 0, none⟩ := by
    have := hv.symm.trans hga
    injection this with e1
    injection e1
  subst ha
  have key := cur_rows h S.cur.pop (WF_setCur h.wf _ fun kd hk => WF_pop hk) W _ _ (pop_rows h m hm ga c g c2 hv hc)
  have el : ((S.cur.pop.loc : Nat) : Int) = (lc : Int) - 1 := by simp only [FR.pop, hlc]; omega
  rw [hB, hO, el] at key
  exact ⟨_, ⟨key.st.below (Below.refl _ _).drew, key.wf⟩, by unfold Ph.setCur; split <;> rfl⟩

set_option maxHeartbeats 4000000 in
set_option maxRecDepth 100000 in
theorem Close_any {W : World} {n0 : Nat} {P : Ph} {S : ST} (h : SR W n0 P S) (name : ByteArray) (x : Int) : Calls Try.prog 23 #[.pointer (some ⟨P.sb, 0, none⟩), .string name, .int .i64 x] W fun e W' => e = .returned (.int .i64 (closeE S name x).1) ∧ ∃ P', SStp n0 P S W P' (closeE S name x).2 W' ∧ P'.sb = P.sb := by
  have HS := Lib.hid h
  have HCU := Lib.hid (current_any h)
  obtain ⟨kd, hw⟩ := h.curWF
  obtain ⟨A, c, hcv, hc, hrow⟩ := h.curVs
  obtain ⟨h3, h4, h5⟩ := h.cur3
  obtain ⟨A2, c2, hcc, hc2, _⟩ := row_slice h.curCs
  rw [hcv] at h3
  rw [hcc, hw.len] at h4
  obtain ⟨hh1, hh2, hh3⟩ := cur_holder h
  obtain ⟨B, hB⟩ : ∃ B, (curP P S).block = B := ⟨_, rfl⟩
  obtain ⟨O, hO⟩ : ∃ O, oI S = O := ⟨_, rfl⟩
  have hcp : curP P S = ⟨B, O, none⟩ := by rw [hh1, hB, hO]
  have HB9 := Lib.hid hB
  have HO9 := Lib.hid hO
  rw [hcp] at h3 h4 h5 HCU
  dsimp only at h3 h4 h5
  obtain ⟨R, hR⟩ : ∃ R, closeE S name x = R := ⟨_, rfl⟩
  rw [hR]
  obtain ⟨lc, hlc⟩ : ∃ lc, S.cur.loc = lc := ⟨_, rfl⟩
  obtain ⟨L, hL⟩ : ∃ L, S.cur.vs.length = L := ⟨_, rfl⟩
  have hlim := hw.lim
  have hloc := hw.loc
  rw [hlc] at h5 hloc
  rw [hL] at h3 h4 hlim hloc
  have HROW := Lib.hid hrow
  have HWF := Lib.hid hw
  have HLC := Lib.hid hlc
  have HL := Lib.hid hL
  have HRR := Lib.hid hR
  have HCC := Lib.hid hcc
  have HCV := Lib.hid hcv
  have HC2 := Lib.hid hc2
  have hfz : ∀ i, W.frozen? ⟨B, i, none⟩ = false := fun i => h.rws.frozen (hI S) (by rw [← hB]; exact hh2) i
  clear h hw hcv hrow hcp hR hlc hL hcc hc2 hh1 hh2 hh3 hB hO
  by_cases hl0 : lc = 0
  · subst hl0
    have HX := Lib.hid (show R = (6, S) by rw [← HRR.out, closeE, if_pos (.inl HLC.out)])
    go_enter Try.func23, Try.ntmps23
    go_wp2_with fail
    refine HCU.out.mono ?_
    rintro e w1 ⟨rfl, rfl⟩
    go_wp2_with fail
    go_ret
    exact ⟨by rw [HX.out]; rfl, P, by rw [HX.out]; exact SStp.refl HS.out (Below.refl _ _), rfl⟩
  · obtain ⟨m, rfl⟩ : ∃ m, L = m + 1 := ⟨L - 1, by omega⟩
    have hml : m < S.cur.vs.length := by rw [HL.out]; omega
    obtain ⟨a, rfl, -, ⟨y0, y1, y2⟩, -⟩ := HROW.out m hml
    obtain ⟨v, hv⟩ : ∃ v, S.cur.vs[m] = v := ⟨_, rfl⟩
    rw [hv] at y0 y1 y2
    have hlv : lastV S.cur = v := by rw [← hv, lastV, HL.out]; simp [hml]
    have HLV := Lib.hid hlv
    obtain ⟨b, hb⟩ : ∃ b, (v.s.toList == name.toList) = b := ⟨_, rfl⟩
    have e1 : ((lc : Int) == 0) = false := by simp; omega
    have HB := Lib.hid hb
    have hml2 : (m : Int) < ((m + 1 : Nat) : Int) := by omega
    clear hlv hb
    cases b
    · have HX := Lib.hid (show R = (6, S) by rw [← HRR.out, closeE, if_pos (.inr (by rw [HLV.out]; exact HB.out))])
      have hbn := HB.out
      clear hv
      go_enter Try.func23, Try.ntmps23
      go_wp2_with fail
      refine HCU.out.mono ?_
      rintro e w1 ⟨rfl, rfl⟩
      go_wp2_with fail
      go_ret
      exact ⟨by rw [HX.out]; rfl, P, by rw [HX.out]; exact SStp.refl HS.out (Below.refl _ _), rfl⟩
    · have hbn := HB.out
      have hmc : m < S.cur.cs.length := by rw [HWF.out.len]; exact hml
      obtain ⟨id, hid⟩ : ∃ id, S.cur.cs[m] = id := ⟨_, rfl⟩
      have hidn : id < S.nc := by rw [← hid]; exact HWF.out.num _ (List.getElem_mem hmc)
      have hlcc : lastC S.cur = id := by rw [← hid, lastC, HL.out]; simp [hmc]
      obtain ⟨g, c2', hcc', _, _, hcell⟩ := row_some HS.out.curCs (by omega)
      obtain ⟨rfl, rfl⟩ : A2 = some ⟨g, 0, none⟩ ∧ c2 = c2' := by
        have := HCC.out.symm.trans hcc'
        injection this with e1 _ e3
        exact ⟨e1, e3⟩
      have z0 : W.cell? ⟨g, m, none⟩ = some (.pointer (some ⟨P.cb id, 0, none⟩)) := by rw [hcell m (by omega)]; simp [ptrs, hmc, hid]
      obtain ⟨A3, c3, hci, hc3, hri⟩ := HS.out.items hidn
      have z1 : W.cell? ⟨P.cb id, 0, none⟩ = some (.slice A3 (S.cell id).length c3) := by rw [← hci]; exact cell_of_blk (HS.out.cbox hidn) rfl
      obtain ⟨l, hl⟩ : ∃ l, S.cell id = l := ⟨_, rfl⟩
      have hll := (HS.out.wf.cells id hidn).1
      have hk1 : v.k = 1 → l.length = 1 := fun hk => by
        have := last_kind HS.out.wf hml hmc (by rw [hv]; exact hk)
        rw [hid, hl] at this
        exact this
      rw [hl] at z1 hri hll
      have HCL := Lib.hid hl
      have HR2 := Lib.hid (show R = if (v.k = 1 ∧ l.getD 0 0 ≠ x) ∨ (v.k = 3 ∧ 0 < l.length) then (16, S) else (0, S.setCur S.cur.pop) by
        rw [← HRR.out, closeE, if_neg (by rw [HLV.out, HB.out, HLC.out]; simp; omega), HLV.out, hlcc, hl])
      have HRI := Lib.hid hri
      clear hcell hcc' hci hri hl hlcc hid HRR hv
      by_cases k1 : v.k = 1
      · have hl1 := hk1 k1
        obtain ⟨a3, rfl, hx0⟩ := HRI.out.nd (i := 0) (by omega)
        simp only [Addr.add_zero'] at hx0
        obtain ⟨x0, hx0'⟩ : ∃ x0, l.getD 0 0 = x0 := ⟨_, rfl⟩
        rw [hx0'] at hx0 HR2
        rw [k1] at y1 HR2
        rw [hl1] at z1
        by_cases hxx : x0 = x
        · subst hxx
          have HX := Lib.hid (show R = (0, S.setCur S.cur.pop) by rw [HR2.out, if_neg (by simp)])
          have HFIN := Lib.hid (close_fin HS.out m c g c2 lc B O a HL.out (by rw [HCV.out, HL.out]) (by rw [HCC.out, HWF.out.len, HL.out]) HB9.out HO9.out HLC.out hl0)
          clear HR2 hx0' hk1 k1 hl1
          go_enter Try.func23, Try.ntmps23
          go_wp2_with fail
          refine HCU.out.mono ?_
          rintro e w1 ⟨rfl, rfl⟩
          go_upto_region 10 with fail
          have hSS : (fun _ : World => True) w1.drew ∧ (fun w' : World => w'.cell? ⟨B, O, none⟩ = some (.slice (some a) (m + 1) c) ∧ w'.cell? ⟨B, O + 1, none⟩ = some (.slice (some ⟨g, 0, none⟩) (m + 1) c2)) w1.drew := ⟨trivial, h3, h4⟩
          have hm1 : (m : Int) ≤ (c : Int) := by omega
          have hm2 : (m : Int) ≤ (c2 : Int) := by omega
          have hm0 : (0 : Int) ≤ (m : Int) := by omega
          refine wp_region_noPanic ?_
          refine wp_region_G (fun _ : World => True) (fun w' : World => w'.cell? ⟨B, O, none⟩ = some (.slice (some a) (m + 1) c) ∧ w'.cell? ⟨B, O + 1, none⟩ = some (.slice (some ⟨g, 0, none⟩) (m + 1) c2)) 16 (by kernel_rfl) ?_
          refine wpG_take1 (i := 0) (v := ?_) rfl (by kernel_rfl) (by kernel_rfl) (by kernel_rfl) (by decide) (fun _ _ _ h => h) (Or.inl ⟨by rfl, ?_⟩) hSS ?_
          rotate_left 1
          · (intro w hSw; (try dsimp only at hSw); (try simp only [List.getElem_toArray, List.getElem_cons_succ, List.getElem_cons_zero]); go_simp; (try with_reducible rfl))
          (try simp only [Act.put, List.getElem_toArray, List.getElem_cons_succ, List.getElem_cons_zero, List.setIfInBounds_toArray, List.set_cons_zero, List.set_cons_succ])
          refine wpG_take1 (i := 1) (v := ?_) rfl (by kernel_rfl) (by kernel_rfl) (by kernel_rfl) (by decide) (fun _ _ _ h => h) (Or.inl ⟨by rfl, ?_⟩) hSS ?_
          rotate_left 1
          · (intro w hSw; (try dsimp only at hSw); (try simp only [List.getElem_toArray, List.getElem_cons_succ, List.getElem_cons_zero]); go_simp; (try with_reducible rfl))
          (try simp only [Act.put, List.getElem_toArray, List.getElem_cons_succ, List.getElem_cons_zero, List.setIfInBounds_toArray, List.set_cons_zero, List.set_cons_succ])
          refine wpG_take1 (i := 2) (v := ?_) rfl (by kernel_rfl) (by kernel_rfl) (by kernel_rfl) (by decide) (fun _ _ _ h => h) (Or.inl ⟨by rfl, ?_⟩) hSS ?_
          rotate_left 1
          · (intro w hSw; (try dsimp only at hSw); (try simp only [List.getElem_toArray, List.getElem_cons_succ, List.getElem_cons_zero]); go_simp; (try with_reducible rfl))
          (try simp only [Act.put, List.getElem_toArray, List.getElem_cons_succ, List.getElem_cons_zero, List.setIfInBounds_toArray, List.set_cons_zero, List.set_cons_succ])
          refine wpG_take1 (i := 3) (v := ?_) rfl (by kernel_rfl) (by kernel_rfl) (by kernel_rfl) (by decide) (fun _ _ _ h => h) (Or.inl ⟨by rfl, ?_⟩) hSS ?_
          rotate_left 1
          · (intro w hSw; (try dsimp only at hSw); (try simp only [List.getElem_toArray, List.getElem_cons_succ, List.getElem_cons_zero]); go_simp; (try with_reducible rfl))
          (try simp only [Act.put, List.getElem_toArray, List.getElem_cons_succ, List.getElem_cons_zero, List.setIfInBounds_toArray, List.set_cons_zero, List.set_cons_succ])
          refine wpG_take1 (i := 4) (v := ?_) rfl (by kernel_rfl) (by kernel_rfl) (by kernel_rfl) (by decide) (fun _ _ _ h => h) (Or.inl ⟨by rfl, ?_⟩) hSS ?_
          rotate_left 1
          · (intro w hSw; (try dsimp only at hSw); (try simp only [List.getElem_toArray, List.getElem_cons_succ, List.getElem_cons_zero]); go_simp; (try with_reducible rfl))
          (try simp only [Act.put, List.getElem_toArray, List.getElem_cons_succ, List.getElem_cons_zero, List.setIfInBounds_toArray, List.set_cons_zero, List.set_cons_succ])
          refine wpG_take2 (i := 5) (v := ?_) rfl (by kernel_rfl) (by kernel_rfl) (by kernel_rfl) (by decide) rfl (by kernel_rfl) (by kernel_rfl) (fun _ _ _ h => h) (Or.inl ⟨by rfl, ?_⟩) hSS ?_
          rotate_left 1
          · (intro w hSw; (try dsimp only at hSw); (try simp only [List.getElem_toArray, List.getElem_cons_succ, List.getElem_cons_zero]); go_simp; (try with_reducible rfl))
          (try simp only [Act.put, List.getElem_toArray, List.getElem_cons_succ, List.getElem_cons_zero, List.setIfInBounds_toArray, List.set_cons_zero, List.set_cons_succ])
          refine wpG_take1 (i := 6) (v := ?_) rfl (by kernel_rfl) (by kernel_rfl) (by kernel_rfl) (by decide) (fun _ _ _ h => h) (Or.inl ⟨by rfl, ?_⟩) hSS ?_
          rotate_left 1
          · (intro w hSw; (try dsimp only at hSw); (try simp only [List.getElem_toArray, List.getElem_cons_succ, List.getElem_cons_zero]); go_simp; (try with_reducible rfl))
          (try simp only [Act.put, List.getElem_toArray, List.getElem_cons_succ, List.getElem_cons_zero, List.setIfInBounds_toArray, List.set_cons_zero, List.set_cons_succ])
          refine wpG_take1 (i := 7) (v := ?_) rfl (by kernel_rfl) (by kernel_rfl) (by kernel_rfl) (by decide) (fun _ _ _ h => h) (Or.inl ⟨by rfl, ?_⟩) hSS ?_
          rotate_left 1
          · (intro w hSw; (try dsimp only at hSw); (try simp only [List.getElem_toArray, List.getElem_cons_succ, List.getElem_cons_zero]); go_simp; (try with_reducible rfl))
          (try simp only [Act.put, List.getElem_toArray, List.getElem_cons_succ, List.getElem_cons_zero, List.setIfInBounds_toArray, List.set_cons_zero, List.set_cons_succ])
          refine wpG_take1 (i := 8) (v := ?_) rfl (by kernel_rfl) (by kernel_rfl) (by kernel_rfl) (by decide) (fun _ _ _ h => h) (Or.inl ⟨by rfl, ?_⟩) hSS ?_
          rotate_left 1
          · (intro w hSw; (try dsimp only at hSw); (try simp only [List.getElem_toArray, List.getElem_cons_succ, List.getElem_cons_zero]); go_simp; (try with_reducible rfl))
          (try simp only [Act.put, List.getElem_toArray, List.getElem_cons_succ, List.getElem_cons_zero, List.setIfInBounds_toArray, List.set_cons_zero, List.set_cons_succ])
          refine wpG_take1 (i := 9) (v := ?_) rfl (by kernel_rfl) (by kernel_rfl) (by kernel_rfl) (by decide) (fun _ _ _ h => h) (Or.inl ⟨by rfl, ?_⟩) hSS ?_
          rotate_left 1
          · (intro w hSw; (try dsimp only at hSw); (try simp only [List.getElem_toArray, List.getElem_cons_succ, List.getElem_cons_zero]); go_simp; (try with_reducible rfl))
          (try simp only [Act.put, List.getElem_toArray, List.getElem_cons_succ, List.getElem_cons_zero, List.setIfInBounds_toArray, List.set_cons_zero, List.set_cons_succ])
          refine wpG_take1 (i := 10) (v := ?_) rfl (by kernel_rfl) (by kernel_rfl) (by kernel_rfl) (by decide) (fun _ _ _ h => h) (Or.inl ⟨by rfl, ?_⟩) hSS ?_
          rotate_left 1
          · (intro w hSw; (try dsimp only at hSw); (try simp only [List.getElem_toArray, List.getElem_cons_succ, List.getElem_cons_zero]); go_simp; (try with_reducible rfl))
          (try simp only [Act.put, List.getElem_toArray, List.getElem_cons_succ, List.getElem_cons_zero, List.setIfInBounds_toArray, List.set_cons_zero, List.set_cons_succ])
          refine wpG_take2 (i := 11) (v := ?_) rfl (by kernel_rfl) (by kernel_rfl) (by kernel_rfl) (by decide) rfl (by kernel_rfl) (by kernel_rfl) (fun _ _ _ h => h) (Or.inl ⟨by rfl, ?_⟩) hSS ?_
          rotate_left 1
          · (intro w hSw; (try dsimp only at hSw); (try simp only [List.getElem_toArray, List.getElem_cons_succ, List.getElem_cons_zero]); go_simp; (try with_reducible rfl))
          (try simp only [Act.put, List.getElem_toArray, List.getElem_cons_succ, List.getElem_cons_zero, List.setIfInBounds_toArray, List.set_cons_zero, List.set_cons_succ])
          refine wpG_take1 (i := 12) (v := ?_) rfl (by kernel_rfl) (by kernel_rfl) (by kernel_rfl) (by decide) (fun _ _ _ h => h) (Or.inl ⟨by rfl, ?_⟩) hSS ?_
          rotate_left 1
          · (intro w hSw; (try dsimp only at hSw); (try simp only [List.getElem_toArray, List.getElem_cons_succ, List.getElem_cons_zero]); go_simp; (try with_reducible rfl))
          (try simp only [Act.put, List.getElem_toArray, List.getElem_cons_succ, List.getElem_cons_zero, List.setIfInBounds_toArray, List.set_cons_zero, List.set_cons_succ])
          refine wpG_take1 (i := 13) (v := ?_) rfl (by kernel_rfl) (by kernel_rfl) (by kernel_rfl) (by decide) (fun _ _ _ h => h) (Or.inl ⟨by rfl, ?_⟩) hSS ?_
          rotate_left 1
          · (intro w hSw; (try dsimp only at hSw); (try simp only [List.getElem_toArray, List.getElem_cons_succ, List.getElem_cons_zero]); go_simp; (try with_reducible rfl))
          (try simp only [Act.put, List.getElem_toArray, List.getElem_cons_succ, List.getElem_cons_zero, List.setIfInBounds_toArray, List.set_cons_zero, List.set_cons_succ])
          refine wpG_take1 (i := 14) (v := ?_) rfl (by kernel_rfl) (by kernel_rfl) (by kernel_rfl) (by decide) (fun _ _ _ h => h) (Or.inl ⟨by rfl, ?_⟩) hSS ?_
          rotate_left 1
          · (intro w hSw; (try dsimp only at hSw); (try simp only [List.getElem_toArray, List.getElem_cons_succ, List.getElem_cons_zero]); go_simp; (try with_reducible rfl))
          (try simp only [Act.put, List.getElem_toArray, List.getElem_cons_succ, List.getElem_cons_zero, List.setIfInBounds_toArray, List.set_cons_zero, List.set_cons_succ])
          refine wpG_take1 (i := 15) (v := ?_) rfl (by kernel_rfl) (by kernel_rfl) (by kernel_rfl) (by decide) (fun _ _ _ h => h) (Or.inl ⟨by rfl, ?_⟩) hSS ?_
          rotate_left 1
          · (intro w hSw; (try dsimp only at hSw); (try simp only [List.getElem_toArray, List.getElem_cons_succ, List.getElem_cons_zero]); go_simp; (try with_reducible rfl))
          (try simp only [Act.put, List.getElem_toArray, List.getElem_cons_succ, List.getElem_cons_zero, List.setIfInBounds_toArray, List.set_cons_zero, List.set_cons_succ])
          refine wpG_past (i := 16) (by kernel_rfl) rfl (by kernel_rfl) (fun K hK => ?_)
          (try simp only [List.getElem_toArray, List.getElem_cons_succ, List.getElem_cons_zero])
          have g3 : w1.drew.cell? ⟨B, O, none⟩ = some (.slice (some a) (m + 1) c) := h3
          have gf : w1.drew.frozen? ⟨B, O, none⟩ = false := hfz O
          go_simp
          refine hK.out _ _ trivial ?_
          clear hK K hSS
          (try simp only [Act.put, List.getElem_toArray, List.getElem_cons_succ, List.getElem_cons_zero, List.setIfInBounds_toArray, List.set_cons_zero, List.set_cons_succ])
          have j4 : (w1.setCell ⟨B, O, none⟩ (.slice (some a) m c)).drew.cell? ⟨B, O + 1, none⟩ = some (.slice (some ⟨g, 0, none⟩) (m + 1) c2) := (World.cell?_setCell_other w1 ⟨B, O, none⟩ ⟨B, O + 1, none⟩ _ (by simp)).trans h4
          have j5 : ((w1.setCell ⟨B, O, none⟩ (.slice (some a) m c)).setCell ⟨B, O + 1, none⟩ (.slice (some ⟨g, 0, none⟩) m c2)).cell? ⟨B, O + 2, none⟩ = some (.int .i64 lc) := (World.cell?_setCell_other _ ⟨B, O + 1, none⟩ ⟨B, O + 2, none⟩ _ (by simp)).trans ((World.cell?_setCell_other w1 ⟨B, O, none⟩ ⟨B, O + 2, none⟩ _ (by simp)).trans h5)
          refine wpG_past (i := 17) (by kernel_rfl) rfl (by kernel_rfl) (fun K hK => ?_)
          (try simp only [List.getElem_toArray, List.getElem_cons_succ, List.getElem_cons_zero])
          go_simp
          refine hK.out _ _ trivial ?_
          clear hK K
          (try simp only [Act.put, List.getElem_toArray, List.getElem_cons_succ, List.getElem_cons_zero, List.setIfInBounds_toArray, List.set_cons_zero, List.set_cons_succ])
          refine wpG_past (i := 18) (by kernel_rfl) rfl (by kernel_rfl) (fun K hK => ?_)
          (try simp only [List.getElem_toArray, List.getElem_cons_succ, List.getElem_cons_zero])
          go_simp
          refine hK.out _ _ trivial ?_
          clear hK K
          (try simp only [Act.put, List.getElem_toArray, List.getElem_cons_succ, List.getElem_cons_zero, List.setIfInBounds_toArray, List.set_cons_zero, List.set_cons_succ])
          refine wpG_past (i := 19) (by kernel_rfl) rfl (by kernel_rfl) (fun K hK => ?_)
          (try simp only [List.getElem_toArray, List.getElem_cons_succ, List.getElem_cons_zero])
          go_simp
          refine hK.out _ _ trivial ?_
          clear hK K
          (try simp only [Act.put, List.getElem_toArray, List.getElem_cons_succ, List.getElem_cons_zero, List.setIfInBounds_toArray, List.set_cons_zero, List.set_cons_succ])
          refine wpG_done (by kernel_rfl) ?_
          refine NoPanic.normal ?_
          clear g3 gf h3 h4 h5
          go_wp2_with fail
          go_ret
          refine ⟨by rw [HX.out]; rfl, ?_⟩
          rw [HX.out]
          exact HFIN.out
        · have HX := Lib.hid (show R = (16, S) by rw [HR2.out, if_pos (.inl ⟨rfl, hxx⟩)])
          have e5 : (x0 == x) = false := by simpa using hxx
          have e6 : (x0 != x) = true := by simpa using hxx
          clear HR2 hxx hx0' hk1 k1 hl1
          go_enter Try.func23, Try.ntmps23
          go_wp2_with fail
          refine HCU.out.mono ?_
          rintro e w1 ⟨rfl, rfl⟩
          go_wp2_with fail
          go_ret
          exact ⟨by rw [HX.out]; rfl, P, by rw [HX.out]; exact SStp.refl HS.out (Below.refl _ _), rfl⟩
      · have x1 : (v.k == 1) = false := by simpa using k1
        have hk1' := k1
        by_cases k3 : v.k = 3
        · rw [k3] at y1 HR2 x1
          have hk3 : True := trivial
          by_cases hl0' : l.length = 0
          · have HX := Lib.hid (show R = (0, S.setCur S.cur.pop) by rw [HR2.out, if_neg (by simp [hl0'])])
            rw [hl0'] at z1
            have HFIN := Lib.hid (close_fin HS.out m c g c2 lc B O a HL.out (by rw [HCV.out, HL.out]) (by rw [HCC.out, HWF.out.len, HL.out]) HB9.out HO9.out HLC.out hl0)
            clear HR2 hk1 k1 hk1' k3 hl0' x1
            go_enter Try.func23, Try.ntmps23
            go_wp2_with fail
            refine HCU.out.mono ?_
            rintro e w1 ⟨rfl, rfl⟩
            go_upto_region 10 with fail
            have hSS : (fun _ : World => True) w1.drew ∧ (fun w' : World => w'.cell? ⟨B, O, none⟩ = some (.slice (some a) (m + 1) c) ∧ w'.cell? ⟨B, O + 1, none⟩ = some (.slice (some ⟨g, 0, none⟩) (m + 1) c2)) w1.drew := ⟨trivial, h3, h4⟩
            have hm1 : (m : Int) ≤ (c : Int) := by omega
            have hm2 : (m : Int) ≤ (c2 : Int) := by omega
            have hm0 : (0 : Int) ≤ (m : Int) := by omega
            refine wp_region_noPanic ?_
            refine wp_region_G (fun _ : World => True) (fun w' : World => w'.cell? ⟨B, O, none⟩ = some (.slice (some a) (m + 1) c) ∧ w'.cell? ⟨B, O + 1, none⟩ = some (.slice (some ⟨g, 0, none⟩) (m + 1) c2)) 16 (by kernel_rfl) ?_
            refine wpG_take1 (i := 0) (v := ?_) rfl (by kernel_rfl) (by kernel_rfl) (by kernel_rfl) (by decide) (fun _ _ _ h => h) (Or.inl ⟨by rfl, ?_⟩) hSS ?_
            rotate_left 1
            · (intro w hSw; (try dsimp only at hSw); (try simp only [List.getElem_toArray, List.getElem_cons_succ, List.getElem_cons_zero]); go_simp; (try with_reducible rfl))
            (try simp only [Act.put, List.getElem_toArray, List.getElem_cons_succ, List.getElem_cons_zero, List.setIfInBounds_toArray, List.set_cons_zero, List.set_cons_succ])
            refine wpG_take1 (i := 1) (v := ?_) rfl (by kernel_rfl) (by kernel_rfl) (by kernel_rfl) (by decide) (fun _ _ _ h => h) (Or.inl ⟨by rfl, ?_⟩) hSS ?_
            rotate_left 1
            · (intro w hSw; (try dsimp only at hSw); (try simp only [List.getElem_toArray, List.getElem_cons_succ, List.getElem_cons_zero]); go_simp; (try with_reducible rfl))
            (try simp only [Act.put, List.getElem_toArray, List.getElem_cons_succ, List.getElem_cons_zero, List.setIfInBounds_toArray, List.set_cons_zero, List.set_cons_succ])
            refine wpG_take1 (i := 2) (v := ?_) rfl (by kernel_rfl) (by kernel_rfl) (by kernel_rfl) (by decide) (fun _ _ _ h => h) (Or.inl ⟨by rfl, ?_⟩) hSS ?_
            rotate_left 1
            · (intro w hSw; (try dsimp only at hSw); (try simp only [List.getElem_toArray, List.getElem_cons_succ, List.getElem_cons_zero]); go_simp; (try with_reducible rfl))
            (try simp only [Act.put, List.getElem_toArray, List.getElem_cons_succ, List.getElem_cons_zero, List.setIfInBounds_toArray, List.set_cons_zero, List.set_cons_succ])
            refine wpG_take1 (i := 3) (v := ?_) rfl (by kernel_rfl) (by kernel_rfl) (by kernel_rfl) (by decide) (fun _ _ _ h => h) (Or.inl ⟨by rfl, ?_⟩) hSS ?_
            rotate_left 1
            · (intro w hSw; (try dsimp only at hSw); (try simp only [List.getElem_toArray, List.getElem_cons_succ, List.getElem_cons_zero]); go_simp; (try with_reducible rfl))
            (try simp only [Act.put, List.getElem_toArray, List.getElem_cons_succ, List.getElem_cons_zero, List.setIfInBounds_toArray, List.set_cons_zero, List.set_cons_succ])
            refine wpG_take1 (i := 4) (v := ?_) rfl (by kernel_rfl) (by kernel_rfl) (by kernel_rfl) (by decide) (fun _ _ _ h => h) (Or.inl ⟨by rfl, ?_⟩) hSS ?_
            rotate_left 1
            · (intro w hSw; (try dsimp only at hSw); (try simp only [List.getElem_toArray, List.getElem_cons_succ, List.getElem_cons_zero]); go_simp; (try with_reducible rfl))
            (try simp only [Act.put, List.getElem_toArray, List.getElem_cons_succ, List.getElem_cons_zero, List.setIfInBounds_toArray, List.set_cons_zero, List.set_cons_succ])
            refine wpG_take2 (i := 5) (v := ?_) rfl (by kernel_rfl) (by kernel_rfl) (by kernel_rfl) (by decide) rfl (by kernel_rfl) (by kernel_rfl) (fun _ _ _ h => h) (Or.inl ⟨by rfl, ?_⟩) hSS ?_
            rotate_left 1
            · (intro w hSw; (try dsimp only at hSw); (try simp only [List.getElem_toArray, List.getElem_cons_succ, List.getElem_cons_zero]); go_simp; (try with_reducible rfl))
            (try simp only [Act.put, List.getElem_toArray, List.getElem_cons_succ, List.getElem_cons_zero, List.setIfInBounds_toArray, List.set_cons_zero, List.set_cons_succ])
            refine wpG_take1 (i := 6) (v := ?_) rfl (by kernel_rfl) (by kernel_rfl) (by kernel_rfl) (by decide) (fun _ _ _ h => h) (Or.inl ⟨by rfl, ?_⟩) hSS ?_
            rotate_left 1
            · (intro w hSw; (try dsimp only at hSw); (try simp only [List.getElem_toArray, List.getElem_cons_succ, List.getElem_cons_zero]); go_simp; (try with_reducible rfl))
            (try simp only [Act.put, List.getElem_toArray, List.getElem_cons_succ, List.getElem_cons_zero, List.setIfInBounds_toArray, List.set_cons_zero, List.set_cons_succ])
            refine wpG_take1 (i := 7) (v := ?_) rfl (by kernel_rfl) (by kernel_rfl) (by kernel_rfl) (by decide) (fun _ _ _ h => h) (Or.inl ⟨by rfl, ?_⟩) hSS ?_
            rotate_left 1
            · (intro w hSw; (try dsimp only at hSw); (try simp only [List.getElem_toArray, List.getElem_cons_succ, List.getElem_cons_zero]); go_simp; (try with_reducible rfl))
            (try simp only [Act.put, List.getElem_toArray, List.getElem_cons_succ, List.getElem_cons_zero, List.setIfInBounds_toArray, List.set_cons_zero, List.set_cons_succ])
            refine wpG_take1 (i := 8) (v := ?_) rfl (by kernel_rfl) (by kernel_rfl) (by kernel_rfl) (by decide) (fun _ _ _ h => h) (Or.inl ⟨by rfl, ?_⟩) hSS ?_
            rotate_left 1
            · (intro w hSw; (try dsimp only at hSw); (try simp only [List.getElem_toArray, List.getElem_cons_succ, List.getElem_cons_zero]); go_simp; (try with_reducible rfl))
            (try simp only [Act.put, List.getElem_toArray, List.getElem_cons_succ, List.getElem_cons_zero, List.setIfInBounds_toArray, List.set_cons_zero, List.set_cons_succ])
            refine wpG_take1 (i := 9) (v := ?_) rfl (by kernel_rfl) (by kernel_rfl) (by kernel_rfl) (by decide) (fun _ _ _ h => h) (Or.inl ⟨by rfl, ?_⟩) hSS ?_
            rotate_left 1
            · (intro w hSw; (try dsimp only at hSw); (try simp only [List.getElem_toArray, List.getElem_cons_succ, List.getElem_cons_zero]); go_simp; (try with_reducible rfl))
            (try simp only [Act.put, List.getElem_toArray, List.getElem_cons_succ, List.getElem_cons_zero, List.setIfInBounds_toArray, List.set_cons_zero, List.set_cons_succ])
            refine wpG_take1 (i := 10) (v := ?_) rfl (by kernel_rfl) (by kernel_rfl) (by kernel_rfl) (by decide) (fun _ _ _ h => h) (Or.inl ⟨by rfl, ?_⟩) hSS ?_
            rotate_left 1
            · (intro w hSw; (try dsimp only at hSw); (try simp only [List.getElem_toArray, List.getElem_cons_succ, List.getElem_cons_zero]); go_simp; (try with_reducible rfl))
            (try simp only [Act.put, List.getElem_toArray, List.getElem_cons_succ, List.getElem_cons_zero, List.setIfInBounds_toArray, List.set_cons_zero, List.set_cons_succ])
            refine wpG_take2 (i := 11) (v := ?_) rfl (by kernel_rfl) (by kernel_rfl) (by kernel_rfl) (by decide) rfl (by kernel_rfl) (by kernel_rfl) (fun _ _ _ h => h) (Or.inl ⟨by rfl, ?_⟩) hSS ?_
            rotate_left 1
            · (intro w hSw; (try dsimp only at hSw); (try simp only [List.getElem_toArray, List.getElem_cons_succ, List.getElem_cons_zero]); go_simp; (try with_reducible rfl))
            (try simp only [Act.put, List.getElem_toArray, List.getElem_cons_succ, List.getElem_cons_zero, List.setIfInBounds_toArray, List.set_cons_zero, List.set_cons_succ])
            refine wpG_take1 (i := 12) (v := ?_) rfl (by kernel_rfl) (by kernel_rfl) (by kernel_rfl) (by decide) (fun _ _ _ h => h) (Or.inl ⟨by rfl, ?_⟩) hSS ?_
            rotate_left 1
            · (intro w hSw; (try dsimp only at hSw); (try simp only [List.getElem_toArray, List.getElem_cons_succ, List.getElem_cons_zero]); go_simp; (try with_reducible rfl))
            (try simp only [Act.put, List.getElem_toArray, List.getElem_cons_succ, List.getElem_cons_zero, List.setIfInBounds_toArray, List.set_cons_zero, List.set_cons_succ])
            refine wpG_take1 (i := 13) (v := ?_) rfl (by kernel_rfl) (by kernel_rfl) (by kernel_rfl) (by decide) (fun _ _ _ h => h) (Or.inl ⟨by rfl, ?_⟩) hSS ?_
            rotate_left 1
            · (intro w hSw; (try dsimp only at hSw); (try simp only [List.getElem_toArray, List.getElem_cons_succ, List.getElem_cons_zero]); go_simp; (try with_reducible rfl))
            (try simp only [Act.put, List.getElem_toArray, List.getElem_cons_succ, List.getElem_cons_zero, List.setIfInBounds_toArray, List.set_cons_zero, List.set_cons_succ])
            refine wpG_take1 (i := 14) (v := ?_) rfl (by kernel_rfl) (by kernel_rfl) (by kernel_rfl) (by decide) (fun _ _ _ h => h) (Or.inl ⟨by rfl, ?_⟩) hSS ?_
            rotate_left 1
            · (intro w hSw; (try dsimp only at hSw); (try simp only [List.getElem_toArray, List.getElem_cons_succ, List.getElem_cons_zero]); go_simp; (try with_reducible rfl))
            (try simp only [Act.put, List.getElem_toArray, List.getElem_cons_succ, List.getElem_cons_zero, List.setIfInBounds_toArray, List.set_cons_zero, List.set_cons_succ])
            refine wpG_take1 (i := 15) (v := ?_) rfl (by kernel_rfl) (by kernel_rfl) (by kernel_rfl) (by decide) (fun _ _ _ h => h) (Or.inl ⟨by rfl, ?_⟩) hSS ?_
            rotate_left 1
            · (intro w hSw; (try dsimp only at hSw); (try simp only [List.getElem_toArray, List.getElem_cons_succ, List.getElem_cons_zero]); go_simp; (try with_reducible rfl))
            (try simp only [Act.put, List.getElem_toArray, List.getElem_cons_succ, List.getElem_cons_zero, List.setIfInBounds_toArray, List.set_cons_zero, List.set_cons_succ])
            refine wpG_past (i := 16) (by kernel_rfl) rfl (by kernel_rfl) (fun K hK => ?_)
            (try simp only [List.getElem_toArray, List.getElem_cons_succ, List.getElem_cons_zero])
            have g3 : w1.drew.cell? ⟨B, O, none⟩ = some (.slice (some a) (m + 1) c) := h3
            have gf : w1.drew.frozen? ⟨B, O, none⟩ = false := hfz O
            go_simp
            refine hK.out _ _ trivial ?_
            clear hK K hSS
            (try simp only [Act.put, List.getElem_toArray, List.getElem_cons_succ, List.getElem_cons_zero, List.setIfInBounds_toArray, List.set_cons_zero, List.set_cons_succ])
            have j4 : (w1.setCell ⟨B, O, none⟩ (.slice (some a) m c)).drew.cell? ⟨B, O + 1, none⟩ = some (.slice (some ⟨g, 0, none⟩) (m + 1) c2) := (World.cell?_setCell_other w1 ⟨B, O, none⟩ ⟨B, O + 1, none⟩ _ (by simp)).trans h4
            have j5 : ((w1.setCell ⟨B, O, none⟩ (.slice (some a) m c)).setCell ⟨B, O + 1, none⟩ (.slice (some ⟨g, 0, none⟩) m c2)).cell? ⟨B, O + 2, none⟩ = some (.int .i64 lc) := (World.cell?_setCell_other _ ⟨B, O + 1, none⟩ ⟨B, O + 2, none⟩ _ (by simp)).trans ((World.cell?_setCell_other w1 ⟨B, O, none⟩ ⟨B, O + 2, none⟩ _ (by simp)).trans h5)
            refine wpG_past (i := 17) (by kernel_rfl) rfl (by kernel_rfl) (fun K hK => ?_)
            (try simp only [List.getElem_toArray, List.getElem_cons_succ, List.getElem_cons_zero])
            go_simp
            refine hK.out _ _ trivial ?_
            clear hK K
            (try simp only [Act.put, List.getElem_toArray, List.getElem_cons_succ, List.getElem_cons_zero, List.setIfInBounds_toArray, List.set_cons_zero, List.set_cons_succ])
            refine wpG_past (i := 18) (by kernel_rfl) rfl (by kernel_rfl) (fun K hK => ?_)
            (try simp only [List.getElem_toArray, List.getElem_cons_succ, List.getElem_cons_zero])
            go_simp
            refine hK.out _ _ trivial ?_
            clear hK K
            (try simp only [Act.put, List.getElem_toArray, List.getElem_cons_succ, List.getElem_cons_zero, List.setIfInBounds_toArray, List.set_cons_zero, List.set_cons_succ])
            refine wpG_past (i := 19) (by kernel_rfl) rfl (by kernel_rfl) (fun K hK => ?_)
            (try simp only [List.getElem_toArray, List.getElem_cons_succ, List.getElem_cons_zero])
            go_simp
            refine hK.out _ _ trivial ?_
            clear hK K
            (try simp only [Act.put, List.getElem_toArray, List.getElem_cons_succ, List.getElem_cons_zero, List.setIfInBounds_toArray, List.set_cons_zero, List.set_cons_succ])
            refine wpG_done (by kernel_rfl) ?_
            refine NoPanic.normal ?_
            clear g3 gf h3 h4 h5
            go_wp2_with fail
            go_ret
            refine ⟨by rw [HX.out]; rfl, ?_⟩
            rw [HX.out]
            exact HFIN.out
          · have HX := Lib.hid (show R = (16, S) by rw [HR2.out, if_pos (.inr ⟨rfl, by omega⟩)])
            have e5 : (0 : Int) < (l.length : Int) := by omega
            clear HR2 hk1 k1 hk1' k3 hl0' x1
            go_enter Try.func23, Try.ntmps23
            go_wp2_with fail
            refine HCU.out.mono ?_
            rintro e w1 ⟨rfl, rfl⟩
            go_wp2_with fail
            go_ret
            exact ⟨by rw [HX.out]; rfl, P, by rw [HX.out]; exact SStp.refl HS.out (Below.refl _ _), rfl⟩
        · have x3 : (v.k == 3) = false := by simpa using k3
          have HX := Lib.hid (show R = (0, S.setCur S.cur.pop) by rw [HR2.out, if_neg (by simp [k1, k3])])
          have HFIN := Lib.hid (close_fin HS.out m c g c2 lc B O a HL.out (by rw [HCV.out, HL.out]) (by rw [HCC.out, HWF.out.len, HL.out]) HB9.out HO9.out HLC.out hl0)
          clear HR2 hk1 k1 hk1' k3
          go_enter Try.func23, Try.ntmps23
          go_wp2_with fail
          refine HCU.out.mono ?_
          rintro e w1 ⟨rfl, rfl⟩
          go_upto_region 10 with fail
          have hSS : (fun _ : World => True) w1.drew ∧ (fun w' : World => w'.cell? ⟨B, O, none⟩ = some (.slice (some a) (m + 1) c) ∧ w'.cell? ⟨B, O + 1, none⟩ = some (.slice (some ⟨g, 0, none⟩) (m + 1) c2)) w1.drew := ⟨trivial, h3, h4⟩
          have hm1 : (m : Int) ≤ (c : Int) := by omega
          have hm2 : (m : Int) ≤ (c2 : Int) := by omega
          have hm0 : (0 : Int) ≤ (m : Int) := by omega
          refine wp_region_noPanic ?_
          refine wp_region_G (fun _ : World => True) (fun w' : World => w'.cell? ⟨B, O, none⟩ = some (.slice (some a) (m + 1) c) ∧ w'.cell? ⟨B, O + 1, none⟩ = some (.slice (some ⟨g, 0, none⟩) (m + 1) c2)) 16 (by kernel_rfl) ?_
          refine wpG_take1 (i := 0) (v := ?_) rfl (by kernel_rfl) (by kernel_rfl) (by kernel_rfl) (by decide) (fun _ _ _ h => h) (Or.inl ⟨by rfl, ?_⟩) hSS ?_
          rotate_left 1
          · (intro w hSw; (try dsimp only at hSw); (try simp only [List.getElem_toArray, List.getElem_cons_succ, List.getElem_cons_zero]); go_simp; (try with_reducible rfl))
          (try simp only [Act.put, List.getElem_toArray, List.getElem_cons_succ, List.getElem_cons_zero, List.setIfInBounds_toArray, List.set_cons_zero, List.set_cons_succ])
          refine wpG_take1 (i := 1) (v := ?_) rfl (by kernel_rfl) (by kernel_rfl) (by kernel_rfl) (by decide) (fun _ _ _ h => h) (Or.inl ⟨by rfl, ?_⟩) hSS ?_
          rotate_left 1
          · (intro w hSw; (try dsimp only at hSw); (try simp only [List.getElem_toArray, List.getElem_cons_succ, List.getElem_cons_zero]); go_simp; (try with_reducible rfl))
          (try simp only [Act.put, List.getElem_toArray, List.getElem_cons_succ, List.getElem_cons_zero, List.setIfInBounds_toArray, List.set_cons_zero, List.set_cons_succ])
          refine wpG_take1 (i := 2) (v := ?_) rfl (by kernel_rfl) (by kernel_rfl) (by kernel_rfl) (by decide) (fun _ _ _ h => h) (Or.inl ⟨by rfl, ?_⟩) hSS ?_
          rotate_left 1
          · (intro w hSw; (try dsimp only at hSw); (try simp only [List.getElem_toArray, List.getElem_cons_succ, List.getElem_cons_zero]); go_simp; (try with_reducible rfl))
          (try simp only [Act.put, List.getElem_toArray, List.getElem_cons_succ, List.getElem_cons_zero, List.setIfInBounds_toArray, List.set_cons_zero, List.set_cons_succ])
          refine wpG_take1 (i := 3) (v := ?_) rfl (by kernel_rfl) (by kernel_rfl) (by kernel_rfl) (by decide) (fun _ _ _ h => h) (Or.inl ⟨by rfl, ?_⟩) hSS ?_
          rotate_left 1
          · (intro w hSw; (try dsimp only at hSw); (try simp only [List.getElem_toArray, List.getElem_cons_succ, List.getElem_cons_zero]); go_simp; (try with_reducible rfl))
          (try simp only [Act.put, List.getElem_toArray, List.getElem_cons_succ, List.getElem_cons_zero, List.setIfInBounds_toArray, List.set_cons_zero, List.set_cons_succ])
          refine wpG_take1 (i := 4) (v := ?_) rfl (by kernel_rfl) (by kernel_rfl) (by kernel_rfl) (by decide) (fun _ _ _ h => h) (Or.inl ⟨by rfl, ?_⟩) hSS ?_
          rotate_left 1
          · (intro w hSw; (try dsimp only at hSw); (try simp only [List.getElem_toArray, List.getElem_cons_succ, List.getElem_cons_zero]); go_simp; (try with_reducible rfl))
          (try simp only [Act.put, List.getElem_toArray, List.getElem_cons_succ, List.getElem_cons_zero, List.setIfInBounds_toArray, List.set_cons_zero, List.set_cons_succ])
          refine wpG_take2 (i := 5) (v := ?_) rfl (by kernel_rfl) (by kernel_rfl) (by kernel_rfl) (by decide) rfl (by kernel_rfl) (by kernel_rfl) (fun _ _ _ h => h) (Or.inl ⟨by rfl, ?_⟩) hSS ?_
          rotate_left 1
          · (intro w hSw; (try dsimp only at hSw); (try simp only [List.getElem_toArray, List.getElem_cons_succ, List.getElem_cons_zero]); go_simp; (try with_reducible rfl))
          (try simp only [Act.put, List.getElem_toArray, List.getElem_cons_succ, List.getElem_cons_zero, List.setIfInBounds_toArray, List.set_cons_zero, List.set_cons_succ])
          refine wpG_take1 (i := 6) (v := ?_) rfl (by kernel_rfl) (by kernel_rfl) (by kernel_rfl) (by decide) (fun _ _ _ h => h) (Or.inl ⟨by rfl, ?_⟩) hSS ?_
          rotate_left 1
          · (intro w hSw; (try dsimp only at hSw); (try simp only [List.getElem_toArray, List.getElem_cons_succ, List.getElem_cons_zero]); go_simp; (try with_reducible rfl))
          (try simp only [Act.put, List.getElem_toArray, List.getElem_cons_succ, List.getElem_cons_zero, List.setIfInBounds_toArray, List.set_cons_zero, List.set_cons_succ])
          refine wpG_take1 (i := 7) (v := ?_) rfl (by kernel_rfl) (by kernel_rfl) (by kernel_rfl) (by decide) (fun _ _ _ h => h) (Or.inl ⟨by rfl, ?_⟩) hSS ?_
          rotate_left 1
          · (intro w hSw; (try dsimp only at hSw); (try simp only [List.getElem_toArray, List.getElem_cons_succ, List.getElem_cons_zero]); go_simp; (try with_reducible rfl))
          (try simp only [Act.put, List.getElem_toArray, List.getElem_cons_succ, List.getElem_cons_zero, List.setIfInBounds_toArray, List.set_cons_zero, List.set_cons_succ])
          refine wpG_take1 (i := 8) (v := ?_) rfl (by kernel_rfl) (by kernel_rfl) (by kernel_rfl) (by decide) (fun _ _ _ h => h) (Or.inl ⟨by rfl, ?_⟩) hSS ?_
          rotate_left 1
          · (intro w hSw; (try dsimp only at hSw); (try simp only [List.getElem_toArray, List.getElem_cons_succ, List.getElem_cons_zero]); go_simp; (try with_reducible rfl))
          (try simp only [Act.put, List.getElem_toArray, List.getElem_cons_succ, List.getElem_cons_zero, List.setIfInBounds_toArray, List.set_cons_zero, List.set_cons_succ])
          refine wpG_take1 (i := 9) (v := ?_) rfl (by kernel_rfl) (by kernel_rfl) (by kernel_rfl) (by decide) (fun _ _ _ h => h) (Or.inl ⟨by rfl, ?_⟩) hSS ?_
          rotate_left 1
          · (intro w hSw; (try dsimp only at hSw); (try simp only [List.getElem_toArray, List.getElem_cons_succ, List.getElem_cons_zero]); go_simp; (try with_reducible rfl))
          (try simp only [Act.put, List.getElem_toArray, List.getElem_cons_succ, List.getElem_cons_zero, List.setIfInBounds_toArray, List.set_cons_zero, List.set_cons_succ])
          refine wpG_take1 (i := 10) (v := ?_) rfl (by kernel_rfl) (by kernel_rfl) (by kernel_rfl) (by decide) (fun _ _ _ h => h) (Or.inl ⟨by rfl, ?_⟩) hSS ?_
          rotate_left 1
          · (intro w hSw; (try dsimp only at hSw); (try simp only [List.getElem_toArray, List.getElem_cons_succ, List.getElem_cons_zero]); go_simp; (try with_reducible rfl))
          (try simp only [Act.put, List.getElem_toArray, List.getElem_cons_succ, List.getElem_cons_zero, List.setIfInBounds_toArray, List.set_cons_zero, List.set_cons_succ])
          refine wpG_take2 (i := 11) (v := ?_) rfl (by kernel_rfl) (by kernel_rfl) (by kernel_rfl) (by decide) rfl (by kernel_rfl) (by kernel_rfl) (fun _ _ _ h => h) (Or.inl ⟨by rfl, ?_⟩) hSS ?_
          rotate_left 1
          · (intro w hSw; (try dsimp only at hSw); (try simp only [List.getElem_toArray, List.getElem_cons_succ, List.getElem_cons_zero]); go_simp; (try with_reducible rfl))
          (try simp only [Act.put, List.getElem_toArray, List.getElem_cons_succ, List.getElem_cons_zero, List.setIfInBounds_toArray, List.set_cons_zero, List.set_cons_succ])
          refine wpG_take1 (i := 12) (v := ?_) rfl (by kernel_rfl) (by kernel_rfl) (by kernel_rfl) (by decide) (fun _ _ _ h => h) (Or.inl ⟨by rfl, ?_⟩) hSS ?_
          rotate_left 1
          · (intro w hSw; (try dsimp only at hSw); (try simp only [List.getElem_toArray, List.getElem_cons_succ, List.getElem_cons_zero]); go_simp; (try with_reducible rfl))
          (try simp only [Act.put, List.getElem_toArray, List.getElem_cons_succ, List.getElem_cons_zero, List.setIfInBounds_toArray, List.set_cons_zero, List.set_cons_succ])
          refine wpG_take1 (i := 13) (v := ?_) rfl (by kernel_rfl) (by kernel_rfl) (by kernel_rfl) (by decide) (fun _ _ _ h => h) (Or.inl ⟨by rfl, ?_⟩) hSS ?_
          rotate_left 1
          · (intro w hSw; (try dsimp only at hSw); (try simp only [List.getElem_toArray, List.getElem_cons_succ, List.getElem_cons_zero]); go_simp; (try with_reducible rfl))
          (try simp only [Act.put, List.getElem_toArray, List.getElem_cons_succ, List.getElem_cons_zero, List.setIfInBounds_toArray, List.set_cons_zero, List.set_cons_succ])
          refine wpG_take1 (i := 14) (v := ?_) rfl (by kernel_rfl) (by kernel_rfl) (by kernel_rfl) (by decide) (fun _ _ _ h => h) (Or.inl ⟨by rfl, ?_⟩) hSS ?_
          rotate_left 1
          · (intro w hSw; (try dsimp only at hSw); (try simp only [List.getElem_toArray, List.getElem_cons_succ, List.getElem_cons_zero]); go_simp; (try with_reducible rfl))
          (try simp only [Act.put, List.getElem_toArray, List.getElem_cons_succ, List.getElem_cons_zero, List.setIfInBounds_toArray, List.set_cons_zero, List.set_cons_succ])
          refine wpG_take1 (i := 15) (v := ?_) rfl (by kernel_rfl) (by kernel_rfl) (by kernel_rfl) (by decide) (fun _ _ _ h => h) (Or.inl ⟨by rfl, ?_⟩) hSS ?_
          rotate_left 1
          · (intro w hSw; (try dsimp only at hSw); (try simp only [List.getElem_toArray, List.getElem_cons_succ, List.getElem_cons_zero]); go_simp; (try with_reducible rfl))
          (try simp only [Act.put, List.getElem_toArray, List.getElem_cons_succ, List.getElem_cons_zero, List.setIfInBounds_toArray, List.set_cons_zero, List.set_cons_succ])
          refine wpG_past (i := 16) (by kernel_rfl) rfl (by kernel_rfl) (fun K hK => ?_)
          (try simp only [List.getElem_toArray, List.getElem_cons_succ, List.getElem_cons_zero])
          have g3 : w1.drew.cell? ⟨B, O, none⟩ = some (.slice (some a) (m + 1) c) := h3
          have gf : w1.drew.frozen? ⟨B, O, none⟩ = false := hfz O
          go_simp
          refine hK.out _ _ trivial ?_
          clear hK K hSS
          (try simp only [Act.put, List.getElem_toArray, List.getElem_cons_succ, List.getElem_cons_zero, List.setIfInBounds_toArray, List.set_cons_zero, List.set_cons_succ])
          have j4 : (w1.setCell ⟨B, O, none⟩ (.slice (some a) m c)).drew.cell? ⟨B, O + 1, none⟩ = some (.slice (some ⟨g, 0, none⟩) (m + 1) c2) := (World.cell?_setCell_other w1 ⟨B, O, none⟩ ⟨B, O + 1, none⟩ _ (by simp)).trans h4
          have j5 : ((w1.setCell ⟨B, O, none⟩ (.slice (some a) m c)).setCell ⟨B, O + 1, none⟩ (.slice (some ⟨g, 0, none⟩) m c2)).cell? ⟨B, O + 2, none⟩ = some (.int .i64 lc) := (World.cell?_setCell_other _ ⟨B, O + 1, none⟩ ⟨B, O + 2, none⟩ _ (by simp)).trans ((World.cell?_setCell_other w1 ⟨B, O, none⟩ ⟨B, O + 2, none⟩ _ (by simp)).trans h5)
          refine wpG_past (i := 17) (by kernel_rfl) rfl (by kernel_rfl) (fun K hK => ?_)
          (try simp only [List.getElem_toArray, List.getElem_cons_succ, List.getElem_cons_zero])
          go_simp
          refine hK.out _ _ trivial ?_
          clear hK K
          (try simp only [Act.put, List.getElem_toArray, List.getElem_cons_succ, List.getElem_cons_zero, List.setIfInBounds_toArray, List.set_cons_zero, List.set_cons_succ])
          refine wpG_past (i := 18) (by kernel_rfl) rfl (by kernel_rfl) (fun K hK => ?_)
          (try simp only [List.getElem_toArray, List.getElem_cons_succ, List.getElem_cons_zero])
          go_simp
          refine hK.out _ _ trivial ?_
          clear hK K
          (try simp only [Act.put, List.getElem_toArray, List.getElem_cons_succ, List.getElem_cons_zero, List.setIfInBounds_toArray, List.set_cons_zero, List.set_cons_succ])
          refine wpG_past (i := 19) (by kernel_rfl) rfl (by kernel_rfl) (fun K hK => ?_)
          (try simp only [List.getElem_toArray, List.getElem_cons_succ, List.getElem_cons_zero])
          go_simp
          refine hK.out _ _ trivial ?_
          clear hK K
          (try simp only [Act.put, List.getElem_toArray, List.getElem_cons_succ, List.getElem_cons_zero, List.setIfInBounds_toArray, List.set_cons_zero, List.set_cons_succ])
          refine wpG_done (by kernel_rfl) ?_
          refine NoPanic.normal ?_
          clear g3 gf h3 h4 h5
          go_wp2_with fail
          go_ret
          refine ⟨by rw [HX.out]; rfl, ?_⟩
          rw [HX.out]
          exact HFIN.out

end Go.Proofs.Ytekjfbnggfbfhaa
