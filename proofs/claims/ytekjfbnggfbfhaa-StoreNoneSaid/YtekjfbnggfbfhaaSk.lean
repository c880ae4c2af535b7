/-
  store: the contracts of execute, Do and Undo.
-/
import Derived.Test.YtekjfbnggfbfhaaSj
import Derived.Test.YtekjfbnggfbfhaaAst3
namespace Go.Proofs.Ytekjfbnggfbfhaa
open Go Go.RowKit

theorem kidsB1 {f : Nat → T → Bool} {ks : List T} (h : kidsB 1 f ks = true) : ∃ p, ks = [p] ∧ f 0 p = true := by
  match ks with
  | [p] => simp [kidsB, kidsFrom] at h; exact ⟨p, rfl, h⟩
  | [] => simp [kidsB] at h
  | a :: b :: l => simp [kidsB] at h
theorem kidsB2 {f : Nat → T → Bool} {ks : List T} (h : kidsB 2 f ks = true) : ∃ p q, ks = [p, q] ∧ f 0 p = true ∧ f 1 q = true := by
  match ks with
  | [p, q] => simp [kidsB, kidsFrom] at h; exact ⟨p, q, rfl, h⟩
  | [] => simp [kidsB] at h
  | [a] => simp [kidsB] at h
  | a :: b :: c :: l => simp [kidsB] at h
/-- The shape of a basic statement. -/
theorem isS_basic {k n : Int} {s : ByteArray} {ks : List T} (h : isS (.nd k n s ks) = true) (hb : basB k = true) :
    ((k = 40 ∨ k = 41 ∨ k = 42) ∧ ∃ p q, ks = [p, q] ∧ isP p = true ∧ isE q = true) ∨ (k = 43 ∧ ∃ p q, ks = [p, q] ∧ isP p = true ∧ isP q = true) ∨ ((44 ≤ k ∧ k ≤ 49) ∧ ∃ p, ks = [p] ∧ isP p = true) := by
  have hr := of_decide_eq_true hb
  rw [isS] at h
  by_cases h1 : k = 40 ∨ k = 41 ∨ k = 42 ∨ k = 56
  · rw [if_pos h1, Bool.and_eq_true] at h
    obtain ⟨p, q, e, a, b⟩ := kidsB2 h.2
    exact .inl ⟨by omega, p, q, e, by simpa using a, by simpa using b⟩
  · rw [if_neg h1] at h
    by_cases h2 : k = 43
    · rw [if_pos h2, Bool.and_eq_true] at h
      obtain ⟨p, q, e, a, b⟩ := kidsB2 h.2
      exact .inr (.inl ⟨h2, p, q, e, a, b⟩)
    · rw [if_neg h2] at h
      by_cases h3 : k = 44 ∨ k = 45
      · rw [if_pos h3, Bool.and_eq_true] at h
        obtain ⟨p, e, a⟩ := kidsB1 h.2
        exact .inr (.inr ⟨by omega, p, e, a⟩)
      · rw [if_neg h3, if_pos (by omega), Bool.and_eq_true] at h
        obtain ⟨p, e, a⟩ := kidsB1 h.2
        exact .inr (.inr ⟨by omega, p, e, a⟩)

/-- What Do and its like leave. -/
def DoP (n0 : Nat) (P : Ph) (S : ST) (W : World) (R : Int × ST) (e : Ending) (W' : World) : Prop := e = .returned (.int .i64 R.1) ∧ ∃ P', SStp n0 P S W P' R.2 W' ∧ P'.sb = P.sb

theorem execute_any {W : World} {n0 : Nat} {P : Ph} {S : ST} (h : SR W n0 P S) (t : T) (v : Value) (hv : NV W Any t v) (hs : isS t = true) (hb : basB t.k = true) (hf : fltE S.cur.vs t = 0) :
    Calls Try.prog 38 #[.pointer (some ⟨P.sb, 0, none⟩), v] W (DoP n0 P S W (execE S t)) := by
  obtain ⟨k, n, s, ks⟩ := t
  obtain ⟨fo, fk⟩ := flt_own hf
  rcases isS_basic hs hb with ⟨hk, p, q, rfl, hp, hq⟩ | ⟨rfl, p, q, rfl, hp, hq⟩ | ⟨hk, p, rfl, hp⟩
  · obtain ⟨id, kp, h1, h2, h3⟩ := plc_num h.wf hp (flts_mem fk p (by simp))
    have := exec_upd h k n s p q v hv hk id h1 kp h2
    have e : execE S (.nd k n s [p, q]) = exec1 S k s p q (indE S.look p) (exprE S.look q) := by
      show exec1 S k s p q (indE S.look p) (rightE S k q) = _
      rw [rightE, if_neg (by omega), if_pos hk]
    unfold DoP
    rw [e]
    exact this
  · obtain ⟨id, kp, h1, h2, h3⟩ := plc_num h.wf hp (flts_mem fk p (by simp))
    obtain ⟨jd, kq, h4, h5, h6⟩ := plc_num h.wf hq (flts_mem fk q (by simp))
    have := exec_swap h 43 n s p q v hv rfl id h1 kp h2 jd h4 kq h5
    have e : execE S (.nd 43 n s [p, q]) = exec1 S 43 s p q (indE S.look p) (indE S.look q) := by
      show exec1 S 43 s p q (indE S.look p) (rightE S 43 q) = _
      rw [rightE, if_pos rfl]
    unfold DoP
    rw [e]
    exact this
  · obtain ⟨id, kp, h1, h2, h3⟩ := plc_num h.wf hp (flts_mem fk p (by simp))
    have hst : k = 44 ∨ k = 45 → ∃ sid, S.num s = some sid ∧ CurK S sid 3 := fun h45 => by
      have hn : needE k = 3 := by rcases h45 with rfl | rfl <;> rfl
      obtain ⟨u, h4, h5⟩ := own_find fo (by rw [hn]; decide)
      obtain ⟨sid, h6, h7⟩ := num_of h.wf h4
      exact ⟨sid, h6, by rw [h5, hn] at h7; exact h7⟩
    have := exec_one h k n s p v hv hk id h1 kp h2 h3 hst
    have e : execE S (.nd k n s [p]) = exec1 S k s p nil0 (indE S.look p) (0, 0) := by
      show exec1 S k s p nil0 (indE S.look p) (rightE S k nil0) = _
      rw [rightE, if_neg (by omega), if_neg (by omega)]
    unfold DoP
    rw [e]
    exact this

theorem fnCurrent : IsFn Try.prog 36 Try.f36 := ⟨Try.func36, by kernel_rfl, by kernel_rfl⟩
theorem fnFFault : IsFn Try.prog 37 Try.f37 := ⟨Try.func37, by kernel_rfl, by kernel_rfl⟩

set_option maxHeartbeats 4000000 in
set_option maxRecDepth 100000 in
theorem Do_any {W : World} {n0 : Nat} {P : Ph} {S : ST} (h : SR W n0 P S) (t : T) (v : Value) (hv : NV W Any t v) :
    Calls Try.prog 12 #[.pointer (some ⟨P.sb, 0, none⟩), v] W (DoP n0 P S W (doE S t)) := by
  obtain ⟨R, hR⟩ : ∃ R, doE S t = R := ⟨_, rfl⟩
  rw [hR]
  have HRR := Lib.hid hR
  have HS := Lib.hid h
  have HV := Lib.hid hv
  obtain ⟨A, c, rfl, -, -, -, -⟩ := hv.open_
  obtain ⟨b, hb⟩ : ∃ b, isS t = b := ⟨_, rfl⟩
  have HIS := Lib.hid (show ∀ (v : Value) (w : World), NV w Any t v → Calls Try.prog 34 #[v] w fun e w' => e = .returned (.bool b) ∧ Below w.heap.size w w' from fun v w h => hb ▸ IsStmt_any t v w h)
  have HBE := Lib.hid hb
  have HEX := Lib.hid (show ∀ (v : Value) (W' : World), NV W' Any t v → Below W.heap.size W W' → isS t = true → basB t.k = true → fltE S.cur.vs t = 0 → doE S t = execE S t → Calls Try.prog 38 #[.pointer (some ⟨P.sb, 0, none⟩), v] W' (DoP n0 P S W R) from fun v W' hv' hbl h1 h2 h3 h4 => by
    refine (execute_any (h.later hbl) t v hv' h1 h2 h3).mono ?_
    rintro e W2 ⟨a1, P', a2, a3⟩
    rw [← h4, hR] at a1 a2
    exact ⟨a1, P', ⟨a2.st.after hbl h.rws, a2.wf⟩, a3⟩)
  obtain ⟨kd, hw⟩ := h.curWF
  obtain ⟨A0, c0, hcv, hc, hrow⟩ := h.curVs
  obtain ⟨h3, h4, h5⟩ := h.cur3
  rw [hcv] at h3
  have HCU := Lib.hid (fun W' (hb : Below W.heap.size W W') => current_any (h.later hb))
  have HFF := Lib.hid (fun (v : Value) W' (hb : Below W.heap.size W W') (hv' : NV W' Any t v) => ffault_any S.cur.vs A0 c0 (curP P S) hw.lim t v W' hv' (cell_bl hb h3) (hrow.later hb))
  obtain ⟨cp, hcp⟩ : ∃ cp, curP P S = cp := ⟨_, rfl⟩
  rw [hcp] at HCU HFF
  obtain ⟨fe, hfe⟩ : ∃ fe, fltE S.cur.vs t = fe := ⟨_, rfl⟩
  rw [hfe] at HFF HEX
  have HBA := Lib.hid (fun w => basic_any t.k w)
  obtain ⟨bb, hbb⟩ : ∃ b, basB t.k = b := ⟨_, rfl⟩
  rw [hbb] at HBA HEX
  have HD := Lib.hid (show R = if b = false then (3, S) else if t.k = 56 then (9, S) else if bb = false then (7, S) else if fe ≠ 0 then (fe, S) else execE S t by rw [← hR, doE, hb, hbb, hfe])
  have HDE := Lib.hid (show doE S t = R from hR)
  obtain ⟨k, hk⟩ : ∃ k, t.k = k := ⟨_, rfl⟩
  obtain ⟨n, hn⟩ : ∃ n, t.n = n := ⟨_, rfl⟩
  obtain ⟨s, hs⟩ : ∃ s, t.s = s := ⟨_, rfl⟩
  obtain ⟨m, hm⟩ : ∃ m, t.ks.length = m := ⟨_, rfl⟩
  rw [hk, hn, hs, hm] at HV ⊢
  rw [hk] at HBA HD
  clear h hv hR hb hw hcv hc hrow h3 h4 h5 hcp hfe hbb hk hn hs hm
  have hbx := box4 (heap_alloc_new W (.cells #[.int .u8 k, .int .i64 n, .string s, .slice A m c] 36))
  have HBK := Lib.hid (heap_alloc_new W (.cells #[.int .u8 k, .int .i64 n, .string s, .slice A m c] 36))
  obtain ⟨W0, hW0⟩ : ∃ W0, W.alloc (.cells #[.int .u8 k, .int .i64 n, .string s, .slice A m c] 36) = W0 := ⟨_, rfl⟩
  have q0 : Below W.heap.size W W0 := hW0 ▸ bl_al (Below.refl _ _) _
  rw [hW0] at hbx HBK
  have HQ0 := Lib.hid q0
  obtain ⟨x0, x1, x2, x3⟩ := hbx
  clear q0
  go_enter Try.func12, Try.ntmps12
  go_wp2_with fail
  refine (HIS.out _ _ (HV.out.later HQ0.out)).mono ?_
  rintro e w1 ⟨rfl, bw1⟩
  have HB1 := Lib.hid (bl_tt HQ0.out bw1)
  have HK1 := Lib.hid (blk_bl HBK.out bw1)
  obtain ⟨y0, y1, y2, y3⟩ := box4 HK1.out
  clear bw1 x0 x1 x2 x3
  cases b
  · have HN := Lib.hid (show R = (3, S) by rw [HD.out, if_pos rfl])
    go_wp2_with fail
    go_ret
    exact ⟨by rw [HN.out]; rfl, P, by rw [HN.out]; exact SStp.refl HS.out HB1.out, rfl⟩
  · by_cases h56 : k = 56
    · have HN := Lib.hid (show R = (9, S) by rw [HD.out, if_neg (by decide), if_pos h56])
      subst h56
      go_wp2_with fail
      go_ret
      exact ⟨by rw [HN.out]; rfl, P, by rw [HN.out]; exact SStp.refl HS.out HB1.out, rfl⟩
    · have k56 : (k == 56) = false := by simpa using h56
      go_wp2_with fail
      refine (HBA.out _).mono ?_
      rintro e w2 ⟨rfl, rfl⟩
      cases bb
      · have HN := Lib.hid (show R = (7, S) by rw [HD.out, if_neg (by decide), if_neg h56, if_pos rfl])
        go_wp2_with fail
        go_ret
        exact ⟨by rw [HN.out]; rfl, P, by rw [HN.out]; exact SStp.refl HS.out HB1.out, rfl⟩
      · have HD2 := Lib.hid (show R = if fe ≠ 0 then (fe, S) else execE S t by rw [HD.out, if_neg (by decide), if_neg h56, if_neg (by decide)])
        clear HD HBA
        go_upto_region 9 with fail
        have hSS : (fun w' : World => w'.cell? ⟨W.heap.size, 0, none⟩ = some (.int .u8 k) ∧ w'.cell? ⟨W.heap.size, 1, none⟩ = some (.int .i64 n) ∧ w'.cell? ⟨W.heap.size, 2, none⟩ = some (.string s) ∧ w'.cell? ⟨W.heap.size, 3, none⟩ = some (.slice A m c)) w2.drew ∧ (fun _ : World => True) w2.drew := ⟨⟨y0, y1, y2, y3⟩, trivial⟩
        refine wp_region_noPanic ?_
        refine wp_region_G (fun w' : World => w'.cell? ⟨W.heap.size, 0, none⟩ = some (.int .u8 k) ∧ w'.cell? ⟨W.heap.size, 1, none⟩ = some (.int .i64 n) ∧ w'.cell? ⟨W.heap.size, 2, none⟩ = some (.string s) ∧ w'.cell? ⟨W.heap.size, 3, none⟩ = some (.slice A m c)) (fun _ : World => True) 3 (by kernel_rfl) ?_
        refine wpG_take1 (i := 0) (v := ?_) rfl (by kernel_rfl) (by kernel_rfl) (by kernel_rfl) (by decide) (fun _ _ _ h => h) (Or.inl ⟨by rfl, ?_⟩) hSS ?_
        rotate_left 1
        · (intro w hSw; (try dsimp only at hSw); (try simp only [List.getElem_toArray, List.getElem_cons_zero]); go_simp; (try with_reducible rfl))
        (try simp only [Act.put, List.getElem_toArray, List.getElem_cons_zero, List.setIfInBounds_toArray, List.set_cons_zero, List.set_cons_succ])
        refine wpG_take1 (i := 2) (v := ?_) rfl (by kernel_rfl) (by kernel_rfl) (by kernel_rfl) (by decide) (fun _ _ _ h => h) (Or.inl ⟨by rfl, ?_⟩) hSS ?_
        rotate_left 1
        · (intro w hSw; (try dsimp only at hSw); (try simp only [List.getElem_toArray, List.getElem_cons_succ, List.getElem_cons_zero]); go_simp; (try with_reducible rfl))
        (try simp only [Act.put, List.getElem_toArray, List.getElem_cons_succ, List.getElem_cons_zero, List.setIfInBounds_toArray, List.set_cons_zero, List.set_cons_succ])
        have had : Calls Try.prog 36 [.pointer (some ⟨P.sb, 0, none⟩)].toArray w2.drew fun e W' => ∃ u, e = .returned u ∧ u = .pointer (some cp) ∧ W' = w2.drew :=
          (HCU.out _ HB1.out.drew).mono fun e W' hh => ⟨_, hh.1, rfl, hh.2⟩
        refine wpG_one (i := 1) (by kernel_rfl) rfl (fun K hK => ?_)
        refine step_callL (by rfl) (.func 36) [.tmp 22] _ (by rfl) 36 _ fnCurrent (by rfl) _ (by rfl) _ had ?_
        rintro v4 w4 ⟨rfl, rfl⟩
        refine hK.out _ _ hSS ?_
        clear hK K had
        (try simp only [Act.put, List.getElem_toArray, List.getElem_cons_succ, List.getElem_cons_zero, List.setIfInBounds_toArray, List.set_cons_zero, List.set_cons_succ])
        have had : Calls Try.prog 37 [.pointer (some cp), nv k n s A m c].toArray w2.drew fun e W' => ∃ u, e = .returned u ∧ u = .int .i64 fe ∧ Below w2.drew.heap.size w2.drew W' :=
          (HFF.out _ _ HB1.out.drew ((HV.out.later HB1.out).later (Below.refl _ _).drew)).mono fun e W' hh => ⟨_, hh.1, rfl, hh.2⟩
        refine wpG_past (i := 3) (by kernel_rfl) rfl (by kernel_rfl) (fun K hK => ?_)
        refine step_callL (by rfl) (.func 37) [.tmp 23, .tmp 24] _ (by rfl) 37 _ fnFFault (by rfl) _ (by rfl) _ had ?_
        rintro v5 w5 ⟨rfl, hb5⟩
        have HB5 := Lib.hid (bl_tt HB1.out.drew hb5)
        have HK5 := Lib.hid (blk_bl (show w2.drew.heap[W.heap.size]? = _ from HK1.out) hb5)
        obtain ⟨u0, u1, u2, u3⟩ := box4 HK5.out
        refine hK.out _ _ ⟨u0, u1, u2, u3⟩ ?_
        clear hK K had hb5 hSS y0 y1 y2 y3
        (try simp only [Act.put, List.getElem_toArray, List.getElem_cons_succ, List.getElem_cons_zero, List.setIfInBounds_toArray, List.set_cons_zero, List.set_cons_succ])
        refine wpG_past (i := 4) (by kernel_rfl) rfl (by kernel_rfl) (fun K hK => ?_)
        (try simp only [List.getElem_toArray, List.getElem_cons_succ, List.getElem_cons_zero])
        go_simp
        refine hK.out _ _ ⟨u0, u1, u2, u3⟩ ?_
        clear hK K
        (try simp only [Act.put, List.getElem_toArray, List.getElem_cons_succ, List.getElem_cons_zero, List.setIfInBounds_toArray, List.set_cons_zero, List.set_cons_succ])
        refine wpG_done (by kernel_rfl) ?_
        refine NoPanic.normal ?_
        by_cases hfe : fe = 0
        · subst hfe
          have HXX := Lib.hid (HEX.out (nv k n s A m c) w5 (HV.out.later HB5.out) HB5.out HBE.out (by first | rfl | trivial) (by first | rfl | trivial) (by rw [HDE.out, HD2.out]; simp))
          clear HD2 HEX
          go_wp2_with fail
          refine HXX.out.mono ?_
          rintro e w6 ⟨rfl, hh⟩
          have HH := Lib.hid hh
          clear hh
          go_wp2_with fail
          go_ret
          exact ⟨rfl, HH.out⟩
        · have HN := Lib.hid (show R = (fe, S) by rw [HD2.out, if_pos hfe])
          have e1 : (fe == 0) = false := by simpa using hfe
          have e2 : (fe != 0) = true := by simpa using hfe
          clear HD2
          go_wp2_with fail
          go_ret
          exact ⟨by rw [HN.out]; rfl, P, by rw [HN.out]; exact SStp.refl HS.out HB5.out, rfl⟩

set_option maxHeartbeats 4000000 in
set_option maxRecDepth 100000 in
theorem Undo_any {W : World} {n0 : Nat} {P : Ph} {S : ST} (h : SR W n0 P S) (t : T) (v : Value) (hv : NV W Any t v) :
    Calls Try.prog 13 #[.pointer (some ⟨P.sb, 0, none⟩), v] W (DoP n0 P S W (undoE S t)) := by
  obtain ⟨k, n, s, ks⟩ := t
  obtain ⟨A, c, rfl, hf, hlk, hlc, hrow⟩ := hv.open_
  simp only [T.k_nd, T.n_nd, T.s_nd, T.ks_nd] at *
  obtain ⟨k', hk'⟩ : ∃ k', invK1 k = k' := ⟨_, rfl⟩
  have hf' : Fld k' n s := by
    refine ⟨?_, hf.2⟩
    rw [← hk']
    unfold invK1
    have := hf.1
    split
    · omega
    · split
      · omega
      · split
        · omega
        · split
          · omega
          · split
            · omega
            · split
              · omega
              · split
                · omega
                · split
                  · omega
                  · exact this
  obtain ⟨R, hR⟩ : ∃ R, undoE S (.nd k n s ks) = R := ⟨_, rfl⟩
  rw [hR]
  have HDO := Lib.hid (show ∀ W', Below W.heap.size W W' → Calls Try.prog 12 #[.pointer (some ⟨P.sb, 0, none⟩), nv k' n s A ks.length c] W' (DoP n0 P S W R) from fun W' hb => by
    have e : doE S (.nd k' n s ks) = R := by rw [← hR, ← hk']; rfl
    have := Do_any (h.later hb) (.nd k' n s ks) (nv k' n s A ks.length c) (NV.shut hf' hlk hlc (hrow.later hb))
    rw [e] at this
    refine this.mono ?_
    rintro e W2 ⟨a1, P', a2, a3⟩
    exact ⟨a1, P', ⟨a2.st.after hb h.rws, a2.wf⟩, a3⟩)
  have HIN := Lib.hid (fun w => hk' ▸ inverse_any k w)
  obtain ⟨m, hm⟩ : ∃ m, ks.length = m := ⟨_, rfl⟩
  rw [hm] at HDO ⊢
  clear h hv hR hf hf' hrow hlk hlc hm hk'
  go_enter Try.func13, Try.ntmps13
  go_wp2_with fail
  refine (HIN.out _).mono ?_
  rintro e w1 ⟨rfl, rfl⟩
  go_wp2_with fail
  refine (HDO.out _ (bl_al (Below.refl _ _) _)).mono ?_
  rintro e w6 ⟨rfl, hh⟩
  have HH := Lib.hid hh
  clear hh
  go_wp2_with fail
  go_ret
  exact ⟨rfl, HH.out⟩

end Go.Proofs.Ytekjfbnggfbfhaa
