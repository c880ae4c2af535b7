/-
  checker: the contracts of Check and OK.
-/
import Derived.Test.YtldcjboignbfpaaCp
import Derived.Test.YtldcjboignbfpaaScK
namespace Go.Proofs.Ytldcjboignbfpaa
open Go Go.RowKit

/-- 'row = append(row, other...)': both rows are one's own. -/
theorem run_append_rows {P : Program} (W : World) (base base' : Nat) (ty rty : TypeId) (E : TypeId) (i : TypeInfo) (z : Value) (size bytes : Nat) (ht : P.underlying ty = some (.slice E)) (hi : P.info? E = some i) (hz : i.zero = some z)
    (hsize : i.size = size) (hby : i.bytes = bytes) (hzs : z.cells.size = size) (hsz : 0 < size) (v : Value) (n : Nat) (xs : List Value) (hown : W.ownsRow base E size v n xs)
    (u : Value) (m : Nat) (ys : List Value) (hother : W.ownsRow base' E size u m ys) (h1 : ∀ y ∈ ys, y.oneCell' = true) (h63 : n + m ≤ maxLen) (hbytes : (n + m) * bytes ≤ 140737488355328) (hbase : base ≤ W.heap.size) :
    ∃ v' w', (Builtin.append_ #[ty, ty] rty #[v, u]).run P W = .ok v' w' ∧ w'.ownsRow base E size v' (n + m) (xs ++ ys) ∧ W.grownBy w' v.ownBlock ∧ (v'.ownBlock = v.ownBlock ∨ v'.ownBlock = some W.heap.size) := by
  rcases hother.2 with ⟨rfl, rfl⟩ | ⟨g, cap, cur, rfl, _⟩
  · have hy : ys = [] := by have := hother.1; simp at this; exact this
    subst hy
    refine ⟨v, W, ?_, by simpa using hown, only_refl _ _, .inl rfl⟩
    rcases hown.2 with ⟨rfl, h0⟩ | ⟨g, cap, cur, rfl, _, _, hnc, _⟩
    · simp [Builtin.append_, run_underlying ht, sizeOf, typeInfo, hi, Builtin.lenOf, Builtin.firstCells]
    · simp [Builtin.append_, run_underlying ht, sizeOf, typeInfo, hi, Builtin.lenOf, Builtin.firstCells, hnc, storeCells]
  · obtain ⟨v', w', hrun, h2, h3, _, h5⟩ := run_append_own_at (P := P) W base ty rty E i z size bytes ht hi hz hsize hby hzs hsz v n xs hown ⟨g, 0, none⟩ m cap ys hother.1 (hother.cells rfl) h1 h63 hbytes hbase
    exact ⟨v', w', hrun, h2, h3, h5⟩
theorem wpList_append_rows {P : Program} {w : World} {ops : Array Oper} {rest : List Oper} {o : Oper} {a : Act} {Q : Exit → Act → World → Prop} (hgd : o.guard = none) (s x : Operand) (t : TypeId)
    (ho : o.op = .call { callee := .builtin .append, args := #[s, x], argTypes := #[t, t] }) (base base' : Nat) (E : TypeId) (i : TypeInfo) (z : Value) (size bytes : Nat) (ht : P.underlying t = some (.slice E)) (hi : P.info? E = some i) (hz : i.zero = some z)
    (hsize : i.size = size) (hby : i.bytes = bytes) (hzs : z.cells.size = size) (hsz : 0 < size) (v : Value) (n : Nat) (xs : List Value) (hs : a.eval s = v) (hown : w.ownsRow base E size v n xs)
    (u : Value) (m : Nat) (ys : List Value) (hx : a.eval x = u) (hother : w.ownsRow base' E size u m ys) (h1 : ∀ y ∈ ys, y.oneCell' = true) (h63 : n + m ≤ maxLen) (hbytes : (n + m) * bytes ≤ 140737488355328) (hbase : base ≤ w.heap.size)
    (h : ∀ v' w', w'.ownsRow base E size v' (n + m) (xs ++ ys) → w.grownBy w' v.ownBlock → (v'.ownBlock = v.ownBlock ∨ v'.ownBlock = some w.heap.size) → wpList P ops Q rest (a.put o.dst v') w') :
    wpList P ops Q (o :: rest) a w := by
  refine wpList_plain hgd fun K hK => ?_
  obtain ⟨v', w', hr, h2, h3, h5⟩ := run_append_rows (P := P) w base base' t o.type E i z size bytes ht hi hz hsize hby hzs hsz v n xs hown u m ys hother h1 h63 hbytes hbase
  unfold Oper.wp execOp
  simp only [ho, resolve, invoke, builtin, Sem.run_bind, Sem.run_pure, Result.andThen_ok, List.map_toArray, List.map_cons, List.map_nil, hs, hx, hr]
  exact hK _ _ (h v' w' h2 h3 h5)

mutual
theorem po_len : ∀ t : T, (po t).length = size t
  | .nd k n s ks => by rw [po, size, List.length_cons, pos_len ks]; omega
theorem pos_len : ∀ ks : List T, (pos ks).length = sizes ks
  | [] => by simp [pos, sizes]
  | t :: ts => by rw [pos, sizes, List.length_append, po_len t, pos_len ts]
end

/-- How many rejections the first procedures have. -/
def rjP (ps : List PR) : Nat := (ps.map fun r => rejN (po r.b)).sum
/-- How many rejections a program has. -/
def rjT (p : PG) : Nat := rjP p.prs + rejN (po p.m)
theorem body_ok {t : T} (h : isBodyB t = true) : dep t ≤ 1000 ∧ (po t).length ≤ 2000 ∧ ∀ x ∈ po t, RejOK x := by
  obtain ⟨⟨h1, h2⟩, h3⟩ := (isBodyB_iff t).1 h
  exact ⟨by omega, by rw [po_len]; exact h2, rejOK_po (.inr (.inr h3)) (by omega)⟩
theorem rjP_take {ps : List PR} {j : Nat} (h : j < ps.length) : rjP (ps.take (j + 1)) = rjP (ps.take j) + rejN (po ps[j].b) := by
  unfold rjP
  rw [List.take_succ_eq_append_getElem h, List.map_append, List.sum_append]
  simp
theorem rjP_le {ps : List PR} (h : ∀ r ∈ ps, isBodyB r.b = true) : rjP ps ≤ ps.length * 2000 := by
  induction ps with
  | nil => simp [rjP]
  | cons r rs ih =>
    have h1 := ih fun r hr => h r (List.mem_cons_of_mem _ hr)
    have h2 := (body_ok (h r List.mem_cons_self)).2.1
    have h3 := rejN_le (po r.b)
    simp only [rjP, List.map_cons, List.sum_cons, List.length_cons] at *
    omega
theorem valid_bodies {p : PG} (h : validB p = true) : (∀ r ∈ p.prs, isBodyB r.b = true) ∧ isBodyB p.m = true ∧ p.prs.length ≤ 64 := by
  unfold validB at h
  simp only [Bool.and_eq_true, List.all_eq_true, decide_eq_true_eq] at h
  refine ⟨fun r hr => ?_, h.2, h.1.1.1.2⟩
  have := h.1.2 r hr
  unfold procB at this
  simp only [Bool.and_eq_true] at this
  exact this.2

set_option maxHeartbeats 8000000 in
set_option maxRecDepth 100000 in
theorem Check_yes (p : PG) (v : Value) (w : World) (hv : PV w Any p v) (hval : validB p = true) (hch : chkN p = 0) : Calls Try.prog 50 #[v] w fun e w' => ∃ A c, e = .returned (.slice A (rjT p) c) ∧ Below w.heap.size w w' := by
  have HV := Lib.hid hv
  obtain ⟨A1, c1, A2, c2, A3, c3, rfl, hr⟩ := hv
  have HR := Lib.hid hr
  have HVAL := Lib.hid (Valid_yes hval (HV.out.later (bl_al (Below.refl _ _) (.cells #[.slice A1 p.vs.length c1, .slice A2 p.prs.length c2, .int .u8 p.m.k, .int .i64 p.m.n, .string p.m.s, .slice A3 p.m.ks.length c3] 38))))
  have HSC := Lib.hid (show ∀ w, PV w Any p (pv A1 p.vs.length c1 A2 p.prs.length c2 p.m.k p.m.n p.m.s A3 p.m.ks.length c3) → Calls Try.prog 29 #[pv A1 p.vs.length c1 A2 p.prs.length c2 p.m.k p.m.n p.m.s A3 p.m.ks.length c3] w fun e w' => ∃ A c, e = .returned (.slice A 0 c) ∧ Below w.heap.size w w' from fun w h => by
    have := SCheck_any p Any _ w h
    rwa [if_pos hval, hch] at this)
  have HBD := Lib.hid (valid_bodies hval)
  obtain ⟨L1, hL1⟩ : ∃ L, p.vs.length = L := ⟨_, rfl⟩
  obtain ⟨k, hk⟩ : ∃ k, p.m.k = k := ⟨_, rfl⟩
  obtain ⟨n, hn⟩ : ∃ n, p.m.n = n := ⟨_, rfl⟩
  obtain ⟨s, hs⟩ : ∃ s, p.m.s = s := ⟨_, rfl⟩
  obtain ⟨l3, hl3⟩ : ∃ l, p.m.ks.length = l := ⟨_, rfl⟩
  rw [hL1, hk, hn, hs, hl3] at HV HVAL HSC ⊢
  have HM := Lib.hid hr.main
  rw [hk, hn, hs, hl3] at HM
  have hlp := LV_int hr.lp
  clear hr hL1 hk hn hs hl3 hval hch
  go_enter Try.func50, Try.ntmps50
  go_wp2_with fail
  refine HVAL.out.mono ?_
  rintro e w1 ⟨rfl, bw1⟩
  have q1 := bl_tt (bl_al (Below.refl w.heap.size w) _) bw1
  have hP := blk_bl (heap_alloc_new w (.cells #[.slice A1 L1 c1, .slice A2 p.prs.length c2, .int .u8 k, .int .i64 n, .string s, .slice A3 l3 c3] 38)) bw1
  obtain ⟨a0, a1, a2, a3, a4, a5⟩ := box6 hP
  have HP := Lib.hid hP
  clear bw1 hP
  go_wp2_with fail
  refine (HSC.out _ (HV.out.later q1)).mono ?_
  rintro e w2 ⟨B0, d0, rfl, bw2⟩
  have q2 := bl_tt q1 bw2
  have hP := blk_bl HP.out bw2
  clear a0 a1 a2 a3 a4 a5 HP bw2 q1
  obtain ⟨a0, a1, a2, a3, a4, a5⟩ := box6 hP
  have HP := Lib.hid hP
  have HQ2 := Lib.hid q2
  clear hP q2
  go_wp2_with fail
  obtain ⟨i0, hi0, hz0, hz1, hz2⟩ := info_parts rejInfo
  clear a0 a1 a2 a3 a4 a5
  go_loopw [3, 18] (fun x i wr => ∃ (j : Nat) (xs : List Value), j ≤ p.prs.length ∧ i = .int .i64 j ∧ wr.ownsRow (w.heap.size + 1) 96 4 x (rjP (p.prs.take j)) xs ∧ (∀ u ∈ xs, u.oneCell' = true) ∧ Below w.heap.size w wr ∧ wr.heap[w.heap.size]? = some (.cells #[.slice A1 L1 c1, .slice A2 p.prs.length c2, .int .u8 k, .int .i64 n, .string s, .slice A3 l3 c3] 38 (0, 0))) (fun _ i _ => p.prs.length - (intOf i).toNat)
  case atStart => exact ⟨0, [], Nat.zero_le _, rfl, by simpa [rjP] using World.ownsRow_nil _ _ _ _, by simp, HQ2.out, HP.out⟩
  case round =>
    obtain ⟨j, xs, hj, rfl, hown, h1c, hbw, hbx⟩ := hrel
    have hxsl : ∃ B3 d3, u3 = .slice B3 (rjP (p.prs.take j)) d3 := by
      rcases hown.2 with ⟨rfl, h0⟩ | ⟨g, cap, cur, rfl, _⟩
      · exact ⟨_, _, by rw [h0]⟩
      · exact ⟨_, _, rfl⟩
    obtain ⟨B3, d3, rfl⟩ := hxsl
    have HOWN := Lib.hid hown
    have H1C := Lib.hid h1c
    have HBW := Lib.hid hbw
    have HBX := Lib.hid hbx
    have hwr := blk_lt hbx
    have hrj : rjP (p.prs.take j) ≤ 128000 := by
      have h1 := rjP_le (ps := p.prs.take j) (fun r hr => HBD.out.1 r (List.mem_of_mem_take hr))
      have h2 := HBD.out.2.2
      simp at h1
      omega
    clear hown h1c hbx
    by_cases hlt : j < p.prs.length
    · obtain ⟨a, r, D1, e1, D2, e2, rfl, _, Hr, ⟨y0, y1, y2, y3, y4, y5⟩, hpr⟩ := (HR.out.procs.later hbw).nd hlt
      have hbd := body_ok (HBD.out.1 p.prs[j] (List.getElem_mem hlt))
      rw [Hr.out] at hbd
      have HBO := Lib.hid hbd
      have HPR := Lib.hid hpr.body
      have hrl : rejN (po r.b) ≤ 2000 := Nat.le_trans (rejN_le _) hbd.2.1
      have HTK := Lib.hid (show rjP (p.prs.take (j + 1)) = rjP (p.prs.take j) + rejN (po r.b) by rw [rjP_take hlt, Hr.out])
      obtain ⟨NN, hNN⟩ : ∃ NN, rejN (po r.b) = NN := ⟨_, rfl⟩
      rw [hNN] at hrl HTK
      have HNN := Lib.hid hNN
      clear hbd hpr hbw hNN
      go_wp2_with fail
      refine (check_any r.b _ _ _ (HPR.out.later (bl_al (Below.refl _ _) _)) HBO.out.1 (by have := HBO.out.2.1; omega) HBO.out.2.2).mono ?_
      rintro e w4 ⟨pv4, ys, rfl, hown4, h4c, bw4⟩
      rw [HNN.out] at hown4
      have hb4 := bl_tt (bl_al (Below.refl wr.heap.size wr) _) bw4
      have hs4 := hb4.size
      have hown5 := own_later HOWN.out hb4
      have HB4 := Lib.hid hb4
      have HX4 := Lib.hid (blk_bl HBX.out hb4)
      clear bw4 hb4 y0 y1 y2 y3 y4 y5
      go_wp2_with (at_builtin; refine wpList_append_rows (P := Try.prog) rfl (.tmp 23) (.tmp 27) 63 rfl (w.heap.size + 1) _ 96 i0 _ 4 56 Try.underlying63 hi0 hz0 hz1 hz2 rfl (by decide) (.slice B3 (rjP (p.prs.take j)) d3) (rjP (p.prs.take j)) xs rfl hown5 pv4 NN ys rfl hown4 h4c (by unfold maxLen; omega) (by omega) (by omega) ?_; intro v' w' h2 h3 h5)
      refine ⟨⟨j + 1, _, by omega, rfl, by rw [HTK.out]; exact h2, fun u hu => ?_, (bl_tt HBW.out HB4.out).grown h3 (by have := HBW.out.size; omega) (fun g e => by have := (hown5.lt g e).1; omega), ?_⟩, by simp [intOf]; omega⟩
      · rw [List.mem_append] at hu
        rcases hu with hu | hu
        · exact H1C.out u hu
        · exact h4c u hu
      · exact (h3.block _ (by omega) (fun e => by have := (hown5.lt _ e.symm).1; omega)).trans HX4.out
    · obtain rfl : j = p.prs.length := by omega
      have hmb := body_ok HBD.out.2.1
      have HMB := Lib.hid hmb
      have hrl : rejN (po p.m) ≤ 2000 := Nat.le_trans (rejN_le _) hmb.2.1
      have hTT : rjT p = rjP p.prs + rejN (po p.m) := rfl
      have e3 : p.prs.take p.prs.length = p.prs := List.take_of_length_le (Nat.le_refl _)
      rw [e3] at HOWN hrj ⊢
      clear e3
      obtain ⟨NN, hNN⟩ : ∃ NN, rejN (po p.m) = NN := ⟨_, rfl⟩
      rw [hNN] at hrl hTT
      have HNN := Lib.hid hNN
      have HTT := Lib.hid hTT
      obtain ⟨a0, a1, a2, a3, a4, a5⟩ := box6 HBX.out
      clear hmb hNN hTT hbw
      go_wp2_with fail
      refine (check_any p.m _ _ _ ((HM.out.later HBW.out).any) HMB.out.1 (by have := HMB.out.2.1; omega) HMB.out.2.2).mono ?_
      rintro e w4 ⟨pv4, ys, rfl, hown4, h4c, bw4⟩
      rw [HNN.out] at hown4
      have hs4 := bw4.size
      have hown5 := own_later HOWN.out bw4
      have HB4 := Lib.hid bw4
      clear bw4 a0 a1 a2 a3 a4 a5
      go_wp2_with (at_builtin; refine wpList_append_rows (P := Try.prog) rfl (.tmp 30) (.tmp 33) 63 rfl (w.heap.size + 1) _ 96 i0 _ 4 56 Try.underlying63 hi0 hz0 hz1 hz2 rfl (by decide) (.slice B3 (rjP p.prs) d3) (rjP p.prs) xs rfl hown5 pv4 NN ys rfl hown4 h4c (by unfold maxLen; omega) (by omega) (by omega) ?_; intro v' w' h2 h3 h5)
      have hvs : ∃ B d, v' = .slice B (rjP p.prs + NN) d := by
        rcases h2.2 with ⟨rfl, h0⟩ | ⟨g, cap, cur, rfl, _⟩
        · exact ⟨_, _, by rw [h0]⟩
        · exact ⟨_, _, rfl⟩
      obtain ⟨B, d, rfl⟩ := hvs
      have HBF := Lib.hid (show Below w.heap.size w w' from (bl_tt HBW.out HB4.out).grown h3 (by have := HBW.out.size; omega) (fun g e => by have := (hown5.lt g e).1; omega))
      clear h2 h3 h5 hown5 hown4
      go_wp2_with fail
      go_ret
      exact ⟨B, d, by rw [HTT.out]; rfl, HBF.out⟩

/-- checker.OK. -/
def okB (p : PG) : Bool := validB p && decide (chkN p = 0) && decide (rjT p = 0)

set_option maxHeartbeats 8000000 in
set_option maxRecDepth 100000 in
theorem OK_any (p : PG) (v : Value) (w : World) (hv : PV w Any p v) : Calls Try.prog 28 #[v] w fun e w' => e = .returned (.bool (okB p)) ∧ Below w.heap.size w w' := by
  have HV := Lib.hid hv
  obtain ⟨A1, c1, A2, c2, A3, c3, rfl, hr⟩ := hv
  obtain ⟨b, hb⟩ : ∃ b, okB p = b := ⟨_, rfl⟩
  obtain ⟨vb, hvb⟩ : ∃ b, validB p = b := ⟨_, rfl⟩
  obtain ⟨N1, hN1⟩ : ∃ N, chkN p = N := ⟨_, rfl⟩
  obtain ⟨N2, hN2⟩ : ∃ N, rjT p = N := ⟨_, rfl⟩
  have hbb : b = (vb && decide (N1 = 0) && decide (N2 = 0)) := by rw [← hb, ← hvb, ← hN1, ← hN2]; rfl
  rw [hb]
  have HVA := Lib.hid (show ∀ w, PV w Any p (pv A1 p.vs.length c1 A2 p.prs.length c2 p.m.k p.m.n p.m.s A3 p.m.ks.length c3) → Calls Try.prog 23 #[pv A1 p.vs.length c1 A2 p.prs.length c2 p.m.k p.m.n p.m.s A3 p.m.ks.length c3] w fun e w' => e = .returned (.bool vb) ∧ Below w.heap.size w w' from fun w h => hvb ▸ Valid_any p Any _ w h)
  have HSC := Lib.hid (show vb = true → ∀ w, PV w Any p (pv A1 p.vs.length c1 A2 p.prs.length c2 p.m.k p.m.n p.m.s A3 p.m.ks.length c3) → Calls Try.prog 29 #[pv A1 p.vs.length c1 A2 p.prs.length c2 p.m.k p.m.n p.m.s A3 p.m.ks.length c3] w fun e w' => ∃ A c, e = .returned (.slice A N1 c) ∧ Below w.heap.size w w' from fun h0 w h => by
    have := SCheck_any p Any _ w h
    rwa [if_pos (hvb.trans h0), hN1] at this)
  have HCK := Lib.hid (show vb = true → N1 = 0 → ∀ w, PV w Any p (pv A1 p.vs.length c1 A2 p.prs.length c2 p.m.k p.m.n p.m.s A3 p.m.ks.length c3) → Calls Try.prog 50 #[pv A1 p.vs.length c1 A2 p.prs.length c2 p.m.k p.m.n p.m.s A3 p.m.ks.length c3] w fun e w' => ∃ A c, e = .returned (.slice A N2 c) ∧ Below w.heap.size w w' from fun h0 h1 w h => hN2 ▸ Check_yes p _ w h (hvb.trans h0) (hN1.trans h1))
  have HBB := Lib.hid hbb
  obtain ⟨L1, hL1⟩ : ∃ L, p.vs.length = L := ⟨_, rfl⟩
  obtain ⟨L2, hL2⟩ : ∃ L, p.prs.length = L := ⟨_, rfl⟩
  obtain ⟨k, hk⟩ : ∃ k, p.m.k = k := ⟨_, rfl⟩
  obtain ⟨n, hn⟩ : ∃ n, p.m.n = n := ⟨_, rfl⟩
  obtain ⟨s, hs⟩ : ∃ s, p.m.s = s := ⟨_, rfl⟩
  obtain ⟨l3, hl3⟩ : ∃ l, p.m.ks.length = l := ⟨_, rfl⟩
  rw [hL1, hL2, hk, hn, hs, hl3] at HV HVA HSC HCK ⊢
  clear hr hL1 hL2 hk hn hs hl3 hb hvb hN1 hN2 hbb
  go_enter Try.func28, Try.ntmps28
  go_wp2_with fail
  refine (HVA.out _ (HV.out.later (bl_al (Below.refl _ _) _))).mono ?_
  rintro e w1 ⟨rfl, bw1⟩
  have q1 := bl_tt (bl_al (Below.refl w.heap.size w) _) bw1
  have hP := blk_bl (heap_alloc_new w (.cells #[.slice A1 L1 c1, .slice A2 L2 c2, .int .u8 k, .int .i64 n, .string s, .slice A3 l3 c3] 38)) bw1
  obtain ⟨a0, a1, a2, a3, a4, a5⟩ := box6 hP
  have HP := Lib.hid hP
  clear bw1 hP
  cases vb
  · have HX := Lib.hid (show b = false by rw [HBB.out]; rfl)
    go_wp2_with fail
    go_ret
    exact ⟨by rw [HX.out]; rfl, q1⟩
  · have HSC1 := Lib.hid (HSC.out rfl)
    have HCK1 := Lib.hid (HCK.out rfl)
    clear HSC HCK
    go_wp2_with fail
    refine (HSC1.out _ (HV.out.later q1)).mono ?_
    rintro e w2 ⟨B0, d0, rfl, bw2⟩
    have q2 := bl_tt q1 bw2
    have hP := blk_bl HP.out bw2
    clear a0 a1 a2 a3 a4 a5 HP bw2 q1
    obtain ⟨a0, a1, a2, a3, a4, a5⟩ := box6 hP
    clear hP
    by_cases hN : N1 = 0
    · have HCK2 := Lib.hid (HCK1.out hN)
      clear HCK1 HSC1
      subst hN
      go_wp2_with fail
      refine (HCK2.out _ (HV.out.later q2)).mono ?_
      rintro e w3 ⟨B1, d1, rfl, bw3⟩
      have q3 := bl_tt q2 bw3
      clear a0 a1 a2 a3 a4 a5 bw3
      by_cases hM : N2 = 0
      · subst hM
        have HX := Lib.hid (show b = true by rw [HBB.out]; rfl)
        go_wp2_with fail
        go_ret
        exact ⟨by rw [HX.out]; rfl, q3⟩
      · have hM1 : ((N2 : Int) == 0) = false := by simpa using hM
        have HX := Lib.hid (show b = false by rw [HBB.out]; simp [hM])
        clear hM
        go_wp2_with fail
        go_ret
        exact ⟨by rw [HX.out]; rfl, q3⟩
    · have hM1 : ((N1 : Int) == 0) = false := by simpa using hN
      have HX := Lib.hid (show b = false by rw [HBB.out]; simp [hN])
      clear hN
      go_wp2_with fail
      go_ret
      exact ⟨by rw [HX.out]; rfl, q2⟩

end Go.Proofs.Ytldcjboignbfpaa
