/-
  StoreParameters: the walk.
-/
import Derived.Test.YtekjfbnggfbfhaaLo
namespace Go.Proofs.Ytekjfbnggfbfhaa
open Go Go.RowKit

set_option maxHeartbeats 2000000 in
theorem Find06_any (vs : List VD) (A : Option Addr) (c : Nat) (s : ByteArray) (w : World) (hrow : RowV w Any A vs) (hl : vs.length ≤ 4398046512000) :
    Calls Try.prog 15 #[.slice A vs.length c, .string s] w fun e w' => e = .returned (fdV (findV vs s)) ∧ Below w.heap.size w w' := by
  have HROW := Lib.hid hrow
  obtain ⟨R, hR⟩ : ∃ R, findV vs s = R := ⟨_, rfl⟩
  rw [hR]
  have HR := Lib.hid hR
  clear hrow hR
  have hb := buildV56
  go_enter Try.func15, Try.ntmps15
  go_wp2_with fail
  have hr0 : (w.alloc (.cells #[.string ⟨#[]⟩, .int .u8 0, .int .i64 0] 24)).heap[w.heap.size]? = some (.cells #[.string ⟨#[]⟩, .int .u8 0, .int .i64 0] 24 (0, 0)) := heap_alloc_new w _
  have hbl : Below w.heap.size w (w.alloc (.cells #[.string ⟨#[]⟩, .int .u8 0, .int .i64 0] 24)) := (Below.refl _ _).alloc (Nat.le_refl _) _
  have HBL := Lib.hid hbl
  clear hr0 hbl
  go_loopw [6] (fun i wr => ∃ j : Nat, j ≤ vs.length ∧ i = .int .i64 ((j : Int) - 1) ∧ wr = w.alloc (.cells #[.string ⟨#[]⟩, .int .u8 0, .int .i64 0] 24) ∧ Hid (findV (vs.take j) s = R)) (fun i _ => ((intOf i) + 1).toNat)
  case atStart => exact ⟨vs.length, Nat.le_refl _, by first | rfl | simp, by first | rfl | trivial, by rw [List.take_of_length_le (Nat.le_refl _)]; exact HR⟩
  case round =>
    obtain ⟨j, hj, rfl, rfl, HJ⟩ := hrel
    rcases j with _ | m
    · have e0 : ((0 : Nat) : Int) - 1 = -1 := by omega
      rw [e0]
      have HN := Lib.hid (show R = none by have := HJ.out; simp [findV] at this; exact this.symm)
      clear e0 HJ
      go_wp2_with fail
      exact bodyPost_ret (v := fdV none) (by simp [results, Try.results15, go_sem]) rfl ⟨by rw [HN.out], HBL.out⟩
    · rw [show ((m + 1 : Nat) : Int) - 1 = (m : Int) by omega]
      obtain ⟨a, v, rfl, _, Hv, ⟨q0, q1, q2⟩, hfv⟩ := (HROW.out.later HBL.out).nd (i := m) (by omega)
      have hm : m < vs.length := by omega
      have hx := HJ.out
      rw [findV_take hm, Hv.out] at hx
      have HX := Lib.hid hx
      clear hx HJ
      by_cases hs : v.s.toList = s.toList
      · have HN := Lib.hid (show R = some v by have := HX.out; rw [if_pos hs] at this; exact this.symm)
        have e1 : (v.s.toList == s.toList) = true := by simpa using hs
        have HBS := Lib.hid (show Below w.heap.size w (w.alloc (.cells #[.string v.s, .int .u8 v.k, .int .i64 v.n] 24)) from (Below.refl _ _).alloc (Nat.le_refl _) _)
        clear hs
        go_wp2_with fail
        exact bodyPost_ret (v := fdV (some v)) (by simp [results, Try.results15, go_sem]) rfl ⟨by rw [HN.out], HBS.out⟩
      · have e1 : (v.s.toList == s.toList) = false := by simpa using hs
        have HN := Lib.hid (show findV (vs.take m) s = R by have := HX.out; rw [if_neg hs] at this; exact this)
        clear hs
        go_wp2_with fail
        go_roundw
        case rel => exact ⟨m, by omega, by first | rfl | go_num, by first | rfl | trivial, HN⟩
        case measure => simp [intOf]

theorem vd_neq (s1 s2 : ByteArray) (k1 n1 k2 n2 : Int) (w : World) : (binOp .neq 24 (.agg #[.string s1, .int .u8 k1, .int .i64 n1]) (.agg #[.string s2, .int .u8 k2, .int .i64 n2])).run Try.prog w = .ok (.bool (!(s1.toList == s2.toList && k1 == k2 && n1 == n2))) w := by
  simp only [go_sem]
  by_cases h1 : s1.toList = s2.toList <;> by_cases h2 : k1 = k2 <;> by_cases h3 : n1 = n2 <;> simp [go_sem, h1, h2, h3]

def p9 : ByteArray := ⟨#[112,97,114,97,109,57]⟩
def vP9 : VD := ⟨p9, 1, 0⟩
/-- Within the frame; behind the statement; behind the frame. -/
def paS (vs : List VD) (s : SS) (i : Nat) : ST := { newS vs s with calls := [⟨[vP9], [i], 0⟩] }
def paU (vs : List VD) (s : SS) (i : Nat) (y : Int) : ST := (newS vs s).put i 0 y
def paT (vs : List VD) (s : SS) (i : Nat) (y : Int) : ST := { paU vs s i y with calls := [⟨[vP9], [i], 0⟩] }
def tPa (by_ : Int) : T := .nd 40 0 ⟨#[]⟩ [.nd 2 0 p9 [], .nd 1 by_ ⟨#[]⟩ []]
section
variable {vs : List VD} {s : SS} {v : VD} {i : Nat} {x y m : Int}
theorem findV_has : ∀ {vs : List VD} {v : VD}, v ∈ vs → ∃ u, findV vs v.s = some u
  | w :: vs, v, h => by
    simp only [findV]
    rcases hf : findV vs v.s with _ | u
    · rcases List.mem_cons.1 h with rfl | h
      · exact ⟨v, by simp⟩
      · obtain ⟨u, hu⟩ := findV_has h
        rw [hf] at hu; cases hu
    · exact ⟨u, rfl⟩
theorem pa_at (hv : findV vs v.s = some v) : ∃ i, (newS vs s).cur.at v.s = some i ∧ vs[i]? = some v := by
  have := findV_at (newS vs s).base v.s
  rw [show (newS vs s).base.vs = vs from rfl, hv] at this
  obtain ⟨i, h1, h2⟩ := Option.bind_eq_some_iff.1 this.symm
  exact ⟨i, h1, h2⟩
theorem pa_range (hi : vs[i]? = some v) : (List.range vs.length)[i]? = some i := by
  rw [List.getElem?_range (List.getElem?_eq_some_iff.1 hi).1]
theorem pa_cell (hf : fitB vs s = true) (hi : vs[i]? = some v) (hk : v.k = 1) : v.n = 0 ∧ ∃ x, (newS vs s).cell i = [x] := by
  obtain ⟨h1, h2⟩ := List.getElem?_eq_some_iff.1 hi
  obtain ⟨_, h3, _, _, h4⟩ := fitB_all hf
  obtain ⟨h5, h6⟩ := h4 i h1 (by omega)
  rw [h2] at h5 h6
  simp only [vdB, hk, true_or, if_true, beq_iff_eq] at h5
  simp [fit1, fixE, hk] at h6
  refine ⟨h5, ?_⟩
  have h7 : i < s.cells.length := by omega
  obtain ⟨x, hx⟩ := List.length_eq_one_iff.1 (show s.cells[i].length = 1 by omega)
  exact ⟨x, by simp [newS, h7, hx]⟩
theorem pa_look0 (ha : (newS vs s).cur.at v.s = some i) (hi : vs[i]? = some v) : (newS vs s).look v.s = some ((newS vs s).cell i) := by
  unfold ST.look ST.num
  rw [ha]
  show Option.map _ ((List.range vs.length)[i]?) = _
  rw [pa_range hi]
  rfl
theorem pa_enter (ha : (newS vs s).cur.at v.s = some i) (hi : vs[i]? = some v) (hk : v.k = 1) (hn : v.n = 0) : enterE (newS vs s) [vP9] [v.s] = (0, paS vs s i) := by
  unfold enterE
  rw [if_neg (by simp)]
  show entR _ (entL (newS vs s).cur ⟨[], [], 0⟩ [(vP9, v.s)]) = _
  rw [entL, ha]
  dsimp only
  have e1 : (newS vs s).cur.vs.getD i ⟨⟨#[]⟩, 0, 0⟩ = v := by
    show vs.getD i _ = v
    rw [List.getD_eq_getElem?_getD, hi]; rfl
  have e2 : (newS vs s).cur.cs.getD i 0 = i := by
    show (List.range vs.length).getD i _ = i
    rw [List.getD_eq_getElem?_getD, pa_range hi]; rfl
  rw [e1, e2, if_pos ⟨hk, hn⟩]
  rfl
theorem pa_no (hne : (v.s.toList == p9.toList) = false) : (paS vs s i).look v.s = none := by
  have e : (paS vs s i).cur.at v.s = none := by
    show lastI [vP9] v.s 1 = none
    have : (p9.toList == v.s.toList) = false := by
      rw [Bool.eq_false_iff] at hne ⊢
      intro h
      exact hne (by simpa using (eq_of_beq h).symm)
    simp [lastI, vP9, this]
  unfold ST.look ST.num
  rw [e]
  rfl
theorem pa_at9 : (paS vs s i).cur.at p9 = some 0 := by
  show lastI [vP9] p9 1 = some 0
  simp [lastI, vP9]
theorem pa_num9 : (paS vs s i).num p9 = some i := by
  unfold ST.num
  rw [pa_at9]
  rfl
theorem pa_ind (look : ByteArray → Option (List Int)) : indE look (.nd 2 0 p9 []) = (0, 0) := by
  rw [indE, if_pos (by decide +kernel), if_pos (by decide +kernel)]
theorem pa_num (look : ByteArray → Option (List Int)) (hm : 0 ≤ m) : exprE look (.nd 1 m ⟨#[]⟩ []) = (m, 0) := by
  rw [exprE, if_pos (by simp [isE, hm]), evE, evK]
  simp
theorem pa_do (hx : (newS vs s).cell i = [x]) (hm : 0 ≤ m) : doE (paS vs s i) (tPa m) = (0, paT vs s i (wrap64 (x + m))) := by
  have hS : isS (tPa m) = true := by
    simp [tPa, isS, kidsB, kidsFrom, isP, isE, p9]
    exact ⟨by decide +kernel, by decide +kernel, hm⟩
  have hF : fltE (paS vs s i).cur.vs (tPa m) = 0 := by
    show fltE [vP9] (tPa m) = 0
    simp [tPa, fltE, fltEs, ownE, needE, findV, vP9]
  have hc : (paS vs s i).cell i = [x] := hx
  rw [doE, hS, if_neg (by simp), if_neg (by show ¬ (40 : Int) = 56; decide), if_neg (by show ¬ basB 40 = false; decide), if_neg (by rw [hF]; decide)]
  show exec1 (paS vs s i) 40 ⟨#[]⟩ (.nd 2 0 p9 []) (.nd 1 m ⟨#[]⟩ []) (indE (paS vs s i).look (.nd 2 0 p9 [])) (exprE (paS vs s i).look (.nd 1 m ⟨#[]⟩ [])) = _
  rw [pa_ind, pa_num _ hm, exec1, if_neg (by decide), exec2, if_neg (by show ¬ (0 : Int) ≠ 0; decide), show (T.nd 2 0 p9 []).s = p9 from rfl, pa_num9]
  dsimp only
  rw [if_pos ⟨by decide, by rw [hc]; show (0 : Int) < 1; decide⟩, exec3, if_pos (by decide)]
  refine Prod.ext rfl ?_
  simp [ST.el, hc, updE]
  rfl
theorem pa_look : (paT vs s i y).look p9 = some ((paU vs s i y).cell i) := by
  unfold ST.look
  rw [show (paT vs s i y).num p9 = some i from pa_num9 (vs := vs) (s := s)]
  rfl
theorem pa_cell2 (hx : (newS vs s).cell i = [x]) : (paU vs s i y).cell i = [y] := by
  simp [paU, ST.put, ST.setL, hx]
theorem pa_leave : leaveE (paT vs s i y) = (0, paU vs s i y) := by
  unfold leaveE
  rw [if_neg (by simp [paT, ST.cur])]
  rfl
theorem pa_look2 (ha : (newS vs s).cur.at v.s = some i) (hi : vs[i]? = some v) : (paU vs s i y).look v.s = some ((paU vs s i y).cell i) := by
  unfold ST.look ST.num
  rw [show (paU vs s i y).cur.at v.s = some i from ha]
  show Option.map _ ((List.range vs.length)[i]?) = _
  rw [pa_range hi]
  rfl
theorem pa_leave2 : leaveE (paU vs s i y) = (20, paU vs s i y) := by
  unfold leaveE
  rw [if_pos (.inl rfl)]
end

theorem bSS1p (s : ByteArray) (w : World) : (Instr.buildSlice 48 1 #[(0, .string s)]).run Try.prog w = .ok (.slice (some ⟨w.heap.size, 0, none⟩) 1 1) (w.alloc (.cells #[.string s] 9)) := by kernel_rfl
theorem rowS_oneP {W : World} {b : Nat} {E : TypeId} {s : ByteArray} (h : W.heap[b]? = some (.cells #[.string s] E (0, 0))) : RowS W (some ⟨b, 0, none⟩) [s] := fun i hi => by
  match i, hi with
  | 0, _ => exact ⟨⟨b, 0, none⟩, rfl, cell_of_blk h rfl⟩
theorem own_one {W : World} {n0 : Nat} {E : TypeId} {v : Value} {x : Int} (h : W.ownsRow n0 E 1 v [x].length (flatI [x])) : ∃ g c, v = .slice (some ⟨g, 0, none⟩) [x].length c ∧ n0 ≤ g ∧ g < W.heap.size ∧ [x].length ≤ c ∧ W.cell? ⟨g, 0, none⟩ = some (.int .i64 x) := by
  obtain ⟨g, c, rfl, hc, _, hcell⟩ := row_some h (by simp)
  have := h.lt g rfl
  exact ⟨g, c, rfl, this.1, this.2, hc, hcell 0 (by simp)⟩
theorem rowI_one {W : World} {g : Nat} {x : Int} (hc : W.cell? ⟨g, 0, none⟩ = some (.int .i64 x)) (hx : I64 x) : RowI W Any (some ⟨g, 0, none⟩) [x] := fun i hi => by
  match i, hi with
  | 0, _ => exact ⟨⟨g, 0, none⟩, rfl, trivial, hc, hx⟩
theorem fldP9 : FldV vP9 := ⟨by decide, ⟨by decide, by decide⟩, by decide, by decide⟩

set_option maxHeartbeats 8000000 in
set_option maxRecDepth 100000 in
theorem Params_walk (vs : List VD) (s : SS) (k m : Int) (A0 : Option Addr) (c0 : Nat) (v : Value) (w : World) (hrow : RowV w Any A0 vs) (hl : vs.length ≤ LV) (hv : SV w Any s v) (hk : 0 ≤ k ∧ k < 256) (hm : 0 ≤ m ∧ m < 65536) :
    Calls Try.prog 4 #[.slice A0 vs.length c0, v, .int .u8 k, .int .u16 m] w fun e w' => e = .returned (.bool true) ∧ Below w.heap.size w w' := by
  have HV := Lib.hid hv
  have HROW := Lib.hid hrow
  have h1 := bV2
  have h2 := buildI1
  have h3 := buildSV1'
  have h4 := bSS1p
  have h5 := vd_neq
  have hck : IntKind.i64.wrap k = k := IntWalk.i64_in _ (by omega)
  have hcm : IntKind.i64.wrap m = m := IntWalk.i64_in _ (by omega)
  obtain ⟨A, c, B, d, D, e, rfl⟩ := hv.parts
  have HSM := Lib.hid (fun w' (hb : Below w.heap.size w w') => lsmall_any vs s A0 c0 _ w' hl (hv.later hb))
  obtain ⟨z, hz⟩ : ∃ z, smlB vs s = z := ⟨_, rfl⟩
  rw [hz] at HSM
  have HZ := Lib.hid (hz ▸ smlB_one : z = 0 ∨ (z = 1 ∧ vs.length ≤ 12 ∧ s.cells.length ≤ 12 ∧ s.tin.length ≤ 60 ∧ s.tout.length ≤ 60 ∧ ∀ l ∈ s.cells, l.length ≤ 60))
  have hk0 := heap_alloc_new w (.cells #[.slice A s.cells.length c, .slice B s.tin.length d, .slice D s.tout.length e] 29)
  have hb0 := bl_al (Below.refl w.heap.size w) (.cells #[.slice A s.cells.length c, .slice B s.tin.length d, .slice D s.tout.length e] 29)
  obtain ⟨w0, hw0⟩ : ∃ x, w.alloc (.cells #[.slice A s.cells.length c, .slice B s.tin.length d, .slice D s.tout.length e] 29) = x := ⟨_, rfl⟩
  rw [hw0] at hk0 hb0
  have HK0 := Lib.hid hk0
  have HB0 := Lib.hid hb0
  clear hrow hv hk0 hb0 hz
  go_enter Try.func4, Try.ntmps4
  go_wp2_with fail
  refine (awake_any w0).mono ?_
  rintro e1 w1 ⟨rfl, bw1⟩
  have HB1 := Lib.hid (bl_tt HB0.out bw1)
  obtain ⟨x0, x1, x2⟩ := box3o (blk_bl HK0.out bw1)
  clear bw1 HK0 hw0
  go_wp2_with fail
  refine (HSM.out w1 HB1.out).mono ?_
  rintro e2 w2 ⟨rfl, bw2⟩
  have HB2 := Lib.hid (bl_tt HB1.out bw2)
  have y0 := cell_bl bw2 x0
  have y1 := cell_bl bw2 x1
  have y2 := cell_bl bw2 x2
  clear bw2 x0 x1 x2
  rcases HZ.out with rfl | ⟨rfl, hz1, hz2, hz3, hz4, hz5⟩
  · go_wp2_with fail
    go_ret
    exact ⟨rfl, HB2.out⟩
  · clear HZ HSM hz2 hz3 hz4 hz5
    obtain ⟨nv, hnv⟩ : ∃ n, vs.length = n := ⟨_, rfl⟩
    have HNW := Lib.hid (New_any vs s A0 c0 _ w2 (HROW.out.later HB2.out) hl (HV.out.later HB2.out))
    have HNV := Lib.hid hnv
    rw [hnv] at HNW hz1 ⊢
    clear hnv
    by_cases h0 : nv = 0
    · subst h0
      go_wp2_with fail
      go_ret
      exact ⟨rfl, HB2.out⟩
    · have h0' : ((nv : Int) == 0) = false := by simp; omega
      have h0'' : ¬ (nv : Int) = 0 := by omega
      go_wp2_with fail
      refine HNW.out.mono ?_
      rintro e3 w3 ⟨bw3, hh⟩
      have HB3 := Lib.hid (bl_tt HB2.out bw3)
      have hn2 := HB2.out.size
      clear HNW y0 y1 y2
      rcases hh with ⟨hno, rfl⟩ | ⟨hfit, P, rfl, hsr⟩
      · go_wp2_with fail
        go_ret
        exact ⟨rfl, HB3.out⟩
      · obtain ⟨sb, hsb⟩ : ∃ b, P.sb = b := ⟨_, rfl⟩
        have HKS := Lib.hid (KS.new HB2.out bw3 hsr)
        rw [hsb] at HKS ⊢
        have HFIT := Lib.hid hfit
        clear hsr hsb bw3 hfit
        obtain ⟨q, hq, hq1⟩ : ∃ q : Nat, k.tmod (nv : Int) = (q : Int) ∧ q < nv := ⟨(k % nv).toNat, by rw [Int.tmod_eq_emod_of_nonneg hk.1]; have := Int.emod_nonneg k h0''; omega, by have := Int.emod_lt_of_pos k (show (0 : Int) < nv by omega); have := Int.emod_nonneg k h0''; omega⟩
        have hq2 : (q : Int) < (nv : Int) := by omega
        have hq3 : (0 : Int) ≤ (q : Int) := by omega
        obtain ⟨a, v, rfl, _, Hv, ⟨t0, t1, t2⟩, hfv⟩ := (HROW.out.later HKS.out.bl).nd (i := q) (by rw [HNV.out]; exact hq1)
        have HMEM := Lib.hid (show v ∈ vs by rw [← Hv.out]; exact List.getElem_mem _)
        obtain ⟨u, hu⟩ := findV_has HMEM.out
        have hus := (findV_mem hu).2
        obtain ⟨us, uk, un⟩ := u
        dsimp only at hus
        subst hus
        have HF := Lib.hid (fun w' (hb : Below w.heap.size w w') => Find06_any vs (some a) c0 v.s w' (HROW.out.later hb) (by unfold LV at hl; omega))
        rw [hu, HNV.out] at HF
        have HU := Lib.hid hu
        obtain ⟨vn, vk, vl⟩ := v
        dsimp only at t0 t1 t2 HF HU
        have HB4 := Lib.hid (bl_al (Below.refl w3.heap.size w3) (.cells #[.string vn, .int .u8 vk, .int .i64 vl] 24))
        obtain ⟨y0, y1, y2⟩ := box3o (heap_alloc_new w3 (.cells #[.string vn, .int .u8 vk, .int .i64 vl] 24))
        have hz4 : (w3.alloc (.cells #[.string vn, .int .u8 vk, .int .i64 vl] 24)).heap.size = w3.heap.size + 1 := by simp
        replace HKS := Lib.hid (KS.also (kb' := fun b => b = w3.heap.size) HKS.out HB4.out fun b e => .inr (by rw [e, hz4]; omega))
        clear hu Hv hz4 hfv
        go_wp2_with fail
        refine (HF.out _ HKS.out.bl).mono ?_
        rintro e5 w5 ⟨rfl, bw5⟩
        replace y0 := cell_bl bw5 y0
        replace y1 := cell_bl bw5 y1
        replace y2 := cell_bl bw5 y2
        replace HKS := Lib.hid (HKS.out.later bw5)
        clear bw5 HF t0 t1 t2 HB4
        have HB6 := Lib.hid (bl_al (Below.refl w5.heap.size w5) (.cells #[.string vn, .int .u8 uk, .int .i64 un] 24))
        obtain ⟨t0, t1, t2⟩ := box3o (heap_alloc_new w5 (.cells #[.string vn, .int .u8 uk, .int .i64 un] 24))
        replace y0 := cell_bl HB6.out y0
        replace y1 := cell_bl HB6.out y1
        replace y2 := cell_bl HB6.out y2
        replace HKS := Lib.hid (HKS.out.later HB6.out)
        obtain ⟨w6, hw6⟩ : ∃ x, w5.alloc (.cells #[.string vn, .int .u8 uk, .int .i64 un] 24) = x := ⟨_, rfl⟩
        simp only [hw6] at HKS y0 y1 y2 t0 t1 t2
        subst hw6
        by_cases hk1 : uk = 1
        · subst hk1
          have e1 : ((1 : Int) != 1) = false := by decide
          by_cases hve : vk = 1 ∧ vl = un
          · obtain ⟨rfl, rfl⟩ := hve
            replace h5 := fun w => (h5 vn vn 1 vl 1 vl w).trans (by simp : _ = Result.ok (Value.bool false) w)
            obtain ⟨b9, hb9⟩ : ∃ b, (vn.toList == [112, 97, 114, 97, 109, 57]) = b := ⟨_, rfl⟩
            have HB9 := Lib.hid hb9
            cases b9
            · go_wp2_with fail
              have HCE := Lib.hid (HKS.out.cell vn)
              obtain ⟨ix, hat, hix⟩ := pa_at (s := s) (v := ⟨vn, 1, vl⟩) HU.out
              obtain ⟨rfl, x, hcx⟩ := pa_cell HFIT.out hix rfl
              dsimp only at hat hix
              have HAT := Lib.hid hat
              have HIX := Lib.hid hix
              have HCX := Lib.hid hcx
              have hlk0 := pa_look0 hat hix
              dsimp only at hlk0
              rw [hcx] at hlk0
              have HLK0 := Lib.hid hlk0
              have HNE := Lib.hid (show (vn.toList == p9.toList) = false by rw [show p9.toList = [112, 97, 114, 97, 109, 57] by decide +kernel]; exact hb9)
              clear hat hix hcx hlk0 hb9 HB9 h5 t0 t1 t2 e1 HU HMEM
              refine HCE.out.mono ?_
              rintro e7 w7 ⟨v7, l7, b7, rfl, hlk, hl0, ho7, hf7, bw7⟩
              rw [HLK0.out] at hlk
              cases b7
              · cases hlk
              · injection hlk with hlk
                subst hlk
                obtain ⟨g7, c7, rfl, hlo7, hlt7, hc7, z0⟩ := own_one ho7
                have HX64 := Lib.hid (hf7 x (by simp))
                replace y0 := cell_bl bw7 y0
                replace y1 := cell_bl bw7 y1
                replace y2 := cell_bl bw7 y2
                replace HKS := Lib.hid (KS.also (kb' := fun b => b = w3.heap.size ∨ b = g7) HKS.out bw7 fun b e => by
                  rcases e with e | e
                  · exact .inl e
                  · subst e; exact .inr ⟨hlo7, hlt7⟩)
                clear bw7 hlo7 ho7 hf7 hl0 HCE HB6 hlt7 hc7
                have hba : Below w7.heap.size w7 ((w7.alloc (.cells #[.string ⟨#[112,97,114,97,109,57]⟩, .int .u8 1, .int .i64 0] 24)).alloc (.cells #[.string vn] 9)) := bl_al (bl_al (Below.refl _ _) _) _
                have hE := (HKS.out.later hba).enter [vP9] [vn] (some ⟨w7.heap.size, 0, none⟩) (some ⟨w7.heap.size + 1, 0, none⟩) 1 1 (rowV_blk (blk_al (heap_alloc_new w7 _) _) (by intro v hv; simp at hv; subst hv; exact fldP9)) (rowS_oneP (by have := heap_alloc_new (w7.alloc (.cells #[.string ⟨#[112,97,114,97,109,57]⟩, .int .u8 1, .int .i64 0] 24)) (.cells #[.string vn] 9); simpa using this)) (by simp) (by simp)
                rw [show enterE (newS vs s) [vP9] [vn] = _ from pa_enter HAT.out HIX.out rfl rfl] at hE
                have y0a := cell_bl (bl_al (Below.refl w7.heap.size w7) (.cells #[.string ⟨#[112,97,114,97,109,57]⟩, .int .u8 1, .int .i64 0] 24)) y0
                have HX := Lib.hid hE
                have HBA := Lib.hid hba
                clear hE hba
                go_wp2_with fail
                refine HX.out.mono ?_
                rintro e w8 ⟨rfl, hks, hkp⟩
                replace y0 := hkp.cell (.inr (.inl rfl)) (cell_bl HBA.out y0)
                replace y1 := hkp.cell (.inr (.inl rfl)) (cell_bl HBA.out y1)
                replace y2 := hkp.cell (.inr (.inl rfl)) (cell_bl HBA.out y2)
                have HKP := Lib.hid hkp
                replace HKS := Lib.hid hks
                have hz0 : w8.cell? ⟨g7, 0, none⟩ = some (.int .i64 x) := hkp.cell (.inr (.inr rfl)) (cell_bl HBA.out z0)
                clear hks hkp HX HBA z0 y0a HKP
                have HDE := Lib.hid HKS.out.depth
                rw [show (paS vs s ix).calls.length = 1 from rfl] at HDE
                go_wp2_with fail
                refine HDE.out.mono ?_
                rintro e w9 ⟨rfl, rfl⟩
                have HCE := Lib.hid (HKS.out.cell vn)
                go_wp2_with fail
                refine HCE.out.mono ?_
                rintro e w10 ⟨v10, l10, b10, rfl, hlk, hl0, ho10, hf10, bw10⟩
                rw [show (paS vs s ix).look vn = none from pa_no (v := ⟨vn, 1, 0⟩) HNE.out] at hlk
                cases b10
                rotate_left 1
                · cases hlk
                obtain ⟨A10, c10, rfl, -⟩ := row_slice ho10
                replace y0 := cell_bl bw10 y0
                replace y1 := cell_bl bw10 y1
                replace y2 := cell_bl bw10 y2
                replace hz0 := cell_bl bw10 hz0
                replace HKS := Lib.hid (HKS.out.later bw10)
                clear hlk hl0 ho10 hf10 bw10 HCE HDE
                have h6 := buildS2
                have h7 := buildOp
                go_wp2_with fail
                refine (lvariable_any ⟨#[112,97,114,97,109,57]⟩ w10).mono ?_
                rintro e w11 ⟨rfl, bw11⟩
                replace y0 := cell_bl bw11 y0
                replace y1 := cell_bl bw11 y1
                replace y2 := cell_bl bw11 y2
                replace hz0 := cell_bl bw11 hz0
                replace HKS := Lib.hid (HKS.out.later bw11)
                clear bw11
                go_wp2_with fail
                refine (lnumber_any m w11).mono ?_
                rintro e w12 ⟨rfl, bw12⟩
                replace y0 := cell_bl bw12 y0
                replace y1 := cell_bl bw12 y1
                replace y2 := cell_bl bw12 y2
                replace hz0 := cell_bl bw12 hz0
                replace HKS := Lib.hid (HKS.out.later bw12)
                clear bw12
                have hba := bl_al (Below.refl w12.heap.size w12) (.cells #[.int .u8 2, .int .i64 0, .string ⟨#[112,97,114,97,109,57]⟩, .slice none 0 0, .int .u8 1, .int .i64 m, .string ⟨#[]⟩, .slice none 0 0] 36)
                have hD := (HKS.out.later hba).do_ (tPa m) _ (NV_two w12 36 (S := Any) trivial (k := 40) (n := 0) (s := ⟨#[]⟩) ⟨⟨by omega, by omega⟩, ⟨by omega, by omega⟩, by decide⟩ (NV_leaf w12 Any (k := 2) (n := 0) (s := ⟨#[112,97,114,97,109,57]⟩) ⟨⟨by omega, by omega⟩, ⟨by omega, by omega⟩, by decide⟩) (NV_leaf w12 Any (k := 1) (n := m) (s := ⟨#[]⟩) ⟨⟨by omega, by omega⟩, ⟨by omega, by omega⟩, by decide⟩))
                rw [pa_do HCX.out hm.1] at hD
                have HX := Lib.hid hD
                have HBA := Lib.hid hba
                clear hD hba
                go_wp2_with fail
                refine HX.out.mono ?_
                rintro e w13 ⟨rfl, hks, hkp⟩
                replace y0 := hkp.cell (.inr (.inl rfl)) (cell_bl HBA.out y0)
                replace y1 := hkp.cell (.inr (.inl rfl)) (cell_bl HBA.out y1)
                replace y2 := hkp.cell (.inr (.inl rfl)) (cell_bl HBA.out y2)
                replace hz0 := hkp.cell (.inr (.inr rfl)) (cell_bl HBA.out hz0)
                replace HKS := Lib.hid hks
                clear hks hkp HX HBA h6 h7
                obtain ⟨Y, hY⟩ : ∃ Y, wrap64 (x + m) = Y := ⟨_, rfl⟩
                rw [hY] at HKS ⊢
                have HCE := Lib.hid (HKS.out.cell ⟨#[112,97,114,97,109,57]⟩)
                go_wp2_with fail
                refine HCE.out.mono ?_
                rintro e w14 ⟨v14, l14, b14, rfl, hlk, hl0, ho14, hf14, bw14⟩
                rw [show (paT vs s ix Y).look ⟨#[112,97,114,97,109,57]⟩ = some [Y] from (pa_look (vs := vs) (s := s)).trans (by rw [pa_cell2 HCX.out])] at hlk
                cases b14
                · cases hlk
                injection hlk with hlk
                subst hlk
                obtain ⟨g14, c14, rfl, hlo14, hlt14, hc14, z14⟩ := own_one ho14
                have HY64 := Lib.hid (hf14 Y (by simp))
                replace y0 := cell_bl bw14 y0
                replace y1 := cell_bl bw14 y1
                replace y2 := cell_bl bw14 y2
                replace hz0 := cell_bl bw14 hz0
                replace HKS := Lib.hid (KS.also (kb' := fun b => b = w3.heap.size ∨ b = g7 ∨ b = g14) HKS.out bw14 fun b e => by
                  rcases e with e | e | e
                  · exact .inl (.inl e)
                  · exact .inl (.inr e)
                  · subst e; exact .inr ⟨hlo14, hlt14⟩)
                clear bw14 hlo14 hlt14 ho14 hf14 hl0 HCE hc14
                have hL := HKS.out.leave
                rw [pa_leave] at hL
                have HX := Lib.hid hL
                clear hL
                go_wp2_with fail
                refine HX.out.mono ?_
                rintro e w15 ⟨rfl, hks, hkp⟩
                replace y0 := hkp.cell (.inr (.inl rfl)) y0
                replace y1 := hkp.cell (.inr (.inl rfl)) y1
                replace y2 := hkp.cell (.inr (.inl rfl)) y2
                replace hz0 := hkp.cell (.inr (.inr (.inl rfl))) hz0
                replace z14 := hkp.cell (.inr (.inr (.inr rfl))) z14
                replace HKS := Lib.hid hks
                clear hks hkp HX
                have HCE := Lib.hid (HKS.out.cell vn)
                go_wp2_with fail
                refine HCE.out.mono ?_
                rintro e w16 ⟨v16, l16, b16, rfl, hlk, hl0, ho16, hf16, bw16⟩
                rw [show (paU vs s ix Y).look vn = some [Y] from (pa_look2 (v := ⟨vn, 1, 0⟩) HAT.out HIX.out).trans (by rw [pa_cell2 HCX.out])] at hlk
                cases b16
                · cases hlk
                injection hlk with hlk
                subst hlk
                obtain ⟨A16, c16, rfl, hc16, hr16⟩ := row_I (l := [Y]) ho16 hf16
                have HR16 := Lib.hid hr16
                replace hz0 := cell_bl bw16 hz0
                have HR14 := Lib.hid (rowI_one (cell_bl bw16 z14) HY64.out)
                replace HKS := Lib.hid (HKS.out.later bw16)
                clear bw16 ho16 hf16 hr16 hl0 HCE z14 y0 y1 y2
                have hba := bl_al (Below.refl w16.heap.size w16) (.cells #[.int .i64 Y] 3)
                have hR3 : RowI (w16.alloc (.cells #[.int .i64 Y] 3)) Any (some ⟨w16.heap.size, 0, none⟩) [Y] := rowI_blk (heap_alloc_new w16 _) (by intro x' hx; simp at hx; subst hx; exact HY64.out)
                have hi1 := Ints_any [Y] [Y] (some ⟨g14, 0, none⟩) (some ⟨w16.heap.size, 0, none⟩) c14 1 (w16.alloc (.cells #[.int .i64 Y] 3)) (HR14.out.later hba) hR3 (by simp) (by simp)
                have hi2 := fun w' (hb : Below (w16.alloc (.cells #[.int .i64 Y] 3)).heap.size (w16.alloc (.cells #[.int .i64 Y] 3)) w') => Ints_any [Y] [Y] A16 (some ⟨w16.heap.size, 0, none⟩) c16 1 w' ((HR16.out.later hba).later hb) (hR3.later hb) (by simp) (by simp)
                simp only [decide_true] at hi1 hi2
                have HI1 := Lib.hid hi1
                have HI2 := Lib.hid hi2
                have HBA := Lib.hid hba
                clear hi1 hi2 hR3 hba
                go_wp2_with fail
                refine HI1.out.mono ?_
                rintro e w17 ⟨rfl, bw17⟩
                have HB17 := Lib.hid bw17
                replace HKS := Lib.hid ((HKS.out.later HBA.out).later bw17)
                clear bw17 HI1
                go_wp2_with fail
                refine (HI2.out w17 HB17.out).mono ?_
                rintro e w18 ⟨rfl, bw18⟩
                replace HKS := Lib.hid (HKS.out.later bw18)
                clear bw18 HI2 HB17 HBA HR14 HR16 hz0
                have HDE := Lib.hid HKS.out.depth
                rw [show (paU vs s ix Y).calls.length = 0 from rfl] at HDE
                go_wp2_with fail
                refine HDE.out.mono ?_
                rintro e w19 ⟨rfl, rfl⟩
                have hL := HKS.out.leave
                rw [pa_leave2] at hL
                have HX := Lib.hid hL
                clear hL HDE
                go_wp2_with fail
                refine HX.out.mono ?_
                rintro e w20 ⟨rfl, hks, -⟩
                have HKE := Lib.hid hks.bl
                clear hks HX HKS
                go_wp2_with fail
                go_ret
                exact ⟨rfl, HKE.out⟩
            · go_wp2_with fail
              go_ret
              exact ⟨rfl, HKS.out.bl⟩
          · replace h5 := fun w => (h5 vn vn vk vl 1 un w).trans (show _ = Result.ok (Value.bool true) w by
              by_cases q1 : vk = 1
              · by_cases q2 : vl = un
                · exact absurd ⟨q1, q2⟩ hve
                · simp [q2]
              · simp [q1])
            go_wp2_with fail
            go_ret
            exact ⟨rfl, HKS.out.bl⟩
        · have e1 : (uk != 1) = true := by simpa using hk1
          clear h5
          go_wp2_with fail
          go_ret
          exact ⟨rfl, HKS.out.bl⟩

end Go.Proofs.Ytekjfbnggfbfhaa
