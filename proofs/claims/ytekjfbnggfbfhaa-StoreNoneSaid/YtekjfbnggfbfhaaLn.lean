/-
  StoreNone: the walk.
-/
import Derived.Test.YtekjfbnggfbfhaaSpo
import Derived.Test.YtekjfbnggfbfhaaRcl
namespace Go.Proofs.Ytekjfbnggfbfhaa
open Go Go.RowKit

def ss0 : SS := ⟨[], [], []⟩
theorem sv_nil (w : World) : SV w Any ss0 (.agg #[.slice none 0 0, .slice none 0 0, .slice none 0 0]) :=
  ⟨none, 0, none, 0, none, 0, rfl, fun i hi => by simp [ss0] at hi, fun i hi => by simp [ss0] at hi, fun i hi => by simp [ss0] at hi, by decide, by decide, by decide, by decide, by simp [ss0], by decide, by decide⟩
theorem sm_nil : ss0.Sm := ⟨by decide, by simp [ss0], by decide, by decide⟩

set_option maxHeartbeats 8000000 in
set_option maxRecDepth 100000 in
theorem None_walk (vs : List VD) (s : SS) (y : Int) (A0 : Option Addr) (c0 : Nat) (v : Value) (w : World) (hrow : RowV w Any A0 vs) (hl : vs.length ≤ LV) (hv : SV w Any s v) :
    Calls Try.prog 8 #[.slice A0 vs.length c0, v, .int .i64 y] w fun e w' => e = .returned (.bool true) ∧ Below w.heap.size w w' := by
  have HV := Lib.hid hv
  have HROW := Lib.hid hrow
  have h1 := buildS0
  have h2 := bVD0
  obtain ⟨A, c, B, d, D, e, rfl⟩ := hv.parts
  have HSM := Lib.hid (fun w' (hb : Below w.heap.size w w') => lsmall_any vs s A0 c0 _ w' hl (hv.later hb))
  obtain ⟨z, hz⟩ : ∃ z, smlB vs s = z := ⟨_, rfl⟩
  rw [hz] at HSM
  have HZ := Lib.hid (hz ▸ smlB_one : z = 0 ∨ (z = 1 ∧ vs.length ≤ 12 ∧ s.cells.length ≤ 12 ∧ s.tin.length ≤ 60 ∧ s.tout.length ≤ 60 ∧ ∀ l ∈ s.cells, l.length ≤ 60))
  have hk0 := heap_alloc_new w (.cells #[.slice A s.cells.length c, .slice B s.tin.length d, .slice D s.tout.length e] 29)
  have hb0 := bl_al (Below.refl w.heap.size w) (.cells #[.slice A s.cells.length c, .slice B s.tin.length d, .slice D s.tout.length e] 29)
  obtain ⟨w0, hw0⟩ : ∃ x, w.alloc (.cells #[.slice A s.cells.length c, .slice B s.tin.length d, .slice D s.tout.length e] 29) = x := ⟨_, rfl⟩
  rw [hw0] at hk0 hb0
  have HK0 := Lib.hid hk0
  have HB0 := Lib.hid hb0
  clear hrow hv hk0 hb0 hz
  go_enter Try.func8, Try.ntmps8
  go_wp2_with fail
  refine (awake_any w0).mono ?_
  rintro e1 w1 ⟨rfl, bw1⟩
  have HB1 := Lib.hid (bl_tt HB0.out bw1)
  have HK1 := Lib.hid (blk_bl HK0.out bw1)
  obtain ⟨x0, x1, x2⟩ := box3o HK1.out
  clear bw1 HK0 hw0
  go_wp2_with fail
  refine (HSM.out w1 HB1.out).mono ?_
  rintro e2 w2 ⟨rfl, bw2⟩
  have HB2 := Lib.hid (bl_tt HB1.out bw2)
  have HK2 := Lib.hid (blk_bl HK1.out bw2)
  clear bw2 x0 x1 x2 HK1
  rcases HZ.out with rfl | ⟨rfl, hz1, hz2, hz3, hz4, hz5⟩
  · go_wp2_with fail
    go_ret
    exact ⟨rfl, HB2.out⟩
  · have HSS := Lib.hid (SS.Sm.of hz2 hz3 hz4 hz5)
    clear HZ HSM hz5 hz2 hz3 hz4
    go_wp2_with fail
    refine (nil_Cell _ _).mono ?_
    rintro e3 w3 ⟨rfl, rfl⟩
    go_wp2_with fail
    refine (nil_State _).mono ?_
    rintro e4 w4 ⟨rfl, bw4⟩
    have HB4 := Lib.hid (bl_tt HB2.out bw4)
    have HK4 := Lib.hid (blk_bl HK2.out bw4)
    clear bw4 HK2
    have HEQ := Lib.hid (StEqual_any ss0 ss0 _ _ w4 (sv_nil w4) (sv_nil w4) sm_nil sm_nil)
    rw [eqS_refl] at HEQ
    go_wp2_with fail
    refine HEQ.out.mono ?_
    rintro e5 w5 ⟨rfl, bw5⟩
    have HB5 := Lib.hid (bl_tt HB4.out bw5)
    have HK5 := Lib.hid (blk_bl HK4.out bw5)
    clear bw5 HK4 HEQ
    go_wp2_with fail
    refine (nil_Depth _).mono ?_
    rintro e6 w6 ⟨rfl, rfl⟩
    go_wp2_with fail
    refine (lnumber_any 1 _).mono ?_
    rintro e7 w7 ⟨rfl, bw7⟩
    have HB7 := Lib.hid (bl_tt HB5.out bw7)
    have HK7 := Lib.hid (blk_bl HK5.out bw7)
    clear bw7 HK5
    go_wp2_with fail
    refine (nil_Do _ _ _ _ _ _ _).mono ?_
    rintro e8 w8 ⟨rfl, bw8⟩
    have HB8 := Lib.hid (bl_tt HB7.out bw8)
    have HK8 := Lib.hid (blk_bl HK7.out bw8)
    clear bw8 HK7
    go_wp2_with fail
    refine (lnumber_any 1 _).mono ?_
    rintro e9 w9 ⟨rfl, bw9⟩
    have HB9 := Lib.hid (bl_tt HB8.out bw9)
    have HK9 := Lib.hid (blk_bl HK8.out bw9)
    clear bw9 HK8
    go_wp2_with fail
    refine (nil_Undo _ _ _ _ _ _ _).mono ?_
    rintro e10 w10 ⟨rfl, bw10⟩
    have HB10 := Lib.hid (bl_tt HB9.out bw10)
    have HK10 := Lib.hid (blk_bl HK9.out bw10)
    clear bw10 HK9
    go_wp2_with fail
    refine (nil_Open _ _ _ _ _).mono ?_
    rintro e11 w11 ⟨rfl, bw11⟩
    have HB11 := Lib.hid (bl_tt HB10.out bw11)
    have HK11 := Lib.hid (blk_bl HK10.out bw11)
    clear bw11 HK10
    go_wp2_with fail
    refine (nil_Close _ _ _).mono ?_
    rintro e12 w12 ⟨rfl, rfl⟩
    go_wp2_with fail
    refine (nil_Enter _ _ _ _ _ _ _).mono ?_
    rintro e13 w13 ⟨rfl, rfl⟩
    go_wp2_with fail
    refine (nil_Leave _).mono ?_
    rintro e14 w14 ⟨rfl, rfl⟩
    obtain ⟨z0, z1, z2⟩ := box3o HK11.out
    have HRC := Lib.hid (RClone_any s _ w14 (HV.out.later HB11.out) HSS.out.1)
    go_wp2_with fail
    refine HRC.out.mono ?_
    rintro e15 w15 ⟨v15, rfl, ho15, bw15⟩
    have HSV := Lib.hid (ho15.sv HSS.out.lim)
    obtain ⟨vc, vi, vo, fc, rfl, hrw, -⟩ := ho15
    have HB15 := Lib.hid (bl_tt HB11.out bw15)
    have HK15 := Lib.hid (blk_bl HK11.out bw15)
    have HRW := Lib.hid hrw
    have hlo : w.heap.size < w14.heap.size := blk_lt HK11.out
    have hlo2 := bw15.size
    obtain ⟨AC, cC, e0, -, -⟩ := row_slice (hrw.row .all)
    change vc = .slice AC s.cells.length cC at e0
    obtain ⟨AI, cI', e1, -, -⟩ := row_slice (hrw.row .inp)
    change vi = .slice AI s.tin.length cI' at e1
    obtain ⟨AO, cO, e2, -, -⟩ := row_slice (hrw.row .out)
    change vo = .slice AO s.tout.length cO at e2
    subst e0 e1 e2
    have hb16 := bl_al (Below.refl w15.heap.size w15) (.cells #[.slice AC s.cells.length cC, .slice AI s.tin.length cI', .slice AO s.tout.length cO] 29)
    have HKO := Lib.hid (heap_alloc_new w15 (.cells #[.slice AC s.cells.length cC, .slice AI s.tin.length cI', .slice AO s.tout.length cO] 29))
    obtain ⟨y0, y1, y2⟩ := box3o HKO.out
    have HNW := Lib.hid (New_any vs s A0 c0 _ (w15.alloc (.cells #[.slice AC s.cells.length cC, .slice AI s.tin.length cI', .slice AO s.tout.length cO] 29)) ((HROW.out.later HB15.out).later hb16) hl (HSV.out.later hb16))
    have HB16 := Lib.hid (bl_tt HB15.out hb16)
    have HK16 := Lib.hid (blk_bl HK15.out hb16)
    have hz16 : (w15.alloc (.cells #[.slice AC s.cells.length cC, .slice AI s.tin.length cI', .slice AO s.tout.length cO] 29)).heap.size = w15.heap.size + 1 := by simp
    obtain ⟨nv, hnv⟩ : ∃ n, vs.length = n := ⟨_, rfl⟩
    have HNV := Lib.hid hnv
    rw [hnv] at HNW ⊢
    clear HRC bw15 hrw hb16 HK15 HK11 z0 z1 z2 HSV hnv
    go_wp2_with fail
    refine HNW.out.mono ?_
    rintro e17 w17 ⟨bw17, hh⟩
    have HB17 := Lib.hid (bl_tt HB16.out bw17)
    have HK17 := Lib.hid (blk_bl HK16.out bw17)
    have HKO17 := Lib.hid (blk_bl HKO.out bw17)
    clear HNW y0 y1 y2 HK16 HKO
    rcases hh with ⟨hno, rfl⟩ | ⟨hfit, P, rfl, hsr⟩
    · go_wp2_with fail
      go_ret
      exact ⟨rfl, HB17.out⟩
    · obtain ⟨sb, hsb⟩ : ∃ b, P.sb = b := ⟨_, rfl⟩
      have hks := KS.new HB16.out bw17 hsr
      rw [hsb, hz16] at hks
      rw [hsb]
      have HKS := Lib.hid hks
      have HFIT := Lib.hid hfit
      have HRW17 := Lib.hid ((HRW.out.later (bl_al (Below.refl _ _) _)).later bw17)
      clear hks hsr hsb hfit bw17
      obtain ⟨y0, y1, y2⟩ := box3o HKO17.out
      have HSP := Lib.hid (spoil_any y w17 HRW17.out HSS.out.lim)
      go_wp2_with fail
      refine HSP.out.mono ?_
      rintro e18 w18 ⟨⟨u18, rfl⟩, hc18⟩
      have hown : ∀ b, OwnB (rowsS (.slice AC s.cells.length cC) (.slice AI s.tin.length cI') (.slice AO s.tout.length cO) fc s) b → w14.heap.size ≤ b ∧ b < w15.heap.size := fun b ⟨q, hq⟩ => HRW.out.lt q b hq
      replace HKS := Lib.hid (HKS.out.chg hc18 fun b _ ho => by have := hown b ho; exact ⟨by omega, .inl (by omega)⟩)
      have HK18 := Lib.hid (hc18.keep HK17.out fun ho => by have := (hown _ ho).1; omega)
      clear hc18 hown HSP HK17 HKO17 HRW17 y0 y1 y2
      have HST := Lib.hid HKS.out.state
      rw [newS_state HFIT.out] at HST
      go_wp2_with fail
      refine HST.out.mono ?_
      rintro e19 w19 ⟨v19, rfl, ho19, bw19⟩
      obtain ⟨vc2, vi2, vo2, fc2, rfl, hrw2, -⟩ := ho19
      have HK19 := Lib.hid (blk_bl HK18.out bw19)
      have hlt18 := blk_lt HK18.out
      replace HKS := Lib.hid (KS.also (kb' := fun b => w18.heap.size ≤ b ∧ b < w19.heap.size) HKS.out bw19 fun b hb => .inr hb)
      have HRW2 := Lib.hid hrw2
      have HSP := Lib.hid (spoil_any y w19 hrw2 HSS.out.lim)
      clear hrw2 HST HK18 bw19
      go_wp2_with fail
      refine HSP.out.mono ?_
      rintro e20 w20 ⟨⟨u20, rfl⟩, hc20⟩
      have hown : ∀ b, OwnB (rowsS vc2 vi2 vo2 fc2 s) b → w18.heap.size ≤ b ∧ b < w19.heap.size := fun b ⟨q, hq⟩ => HRW2.out.lt q b hq
      replace HKS := Lib.hid (HKS.out.chg hc20 fun b _ ho => by have := hown b ho; exact ⟨by omega, .inr this⟩)
      have HK20 := Lib.hid (hc20.keep HK19.out fun ho => by have := (hown _ ho).1; omega)
      clear hc20 hown HSP HK19
      by_cases hnv0 : 0 < nv
      · have hnv1 : (0 : Int) < (nv : Int) := by omega
        obtain ⟨a, v, rfl, -, -, ⟨t0, t1, t2⟩, -⟩ := (HROW.out.later HKS.out.bl).nd (i := 0) (by rw [HNV.out]; exact hnv0)
        have HCE := Lib.hid (HKS.out.cell v.s)
        simp only [Nat.zero_mul, Addr.add_zero'] at t0 t1 t2
        go_wp2_with fail
        refine HCE.out.mono ?_
        rintro e21 w21 ⟨v21, l, b21, rfl, -, -, ho21, -, bw21⟩
        have hlt20 := blk_lt HK20.out
        have HK21 := Lib.hid (blk_bl HK20.out bw21)
        replace HKS := Lib.hid (KS.also (kb' := fun b => w20.heap.size ≤ b ∧ b < w21.heap.size) HKS.out bw21 fun b hb => .inr hb)
        have HOR := Lib.hid ho21
        have HSP := Lib.hid (SpR.new (oneR_rws ho21) (oneR_ints v21 l))
        obtain ⟨A21, c21, rfl, hc21, hm21⟩ := row_slice ho21
        have hml : l.length ≤ 9223372036854775807 := Nat.le_trans hc21 hm21
        clear ho21 bw21 HCE t0 t1 t2 HK20 hm21
        go_wp2_with fail
        go_loopw [15] (fun k wr => ∃ j : Nat, j ≤ l.length ∧ k = .int .i64 j ∧ Hid (SpR w20.heap.size (oneR (.slice A21 l.length c21) l) w21 wr)) (fun k _ => l.length - (intOf k).toNat)
        case atStart => exact ⟨0, Nat.zero_le _, rfl, HSP⟩
        case round =>
          clear HSP
          obtain ⟨j, hj, rfl, HSP⟩ := hrel
          by_cases hlt2 : j < l.length
          · have hk1 : (j : Int) < (l.length : Int) := by omega
            have hk0 : (0 : Int) ≤ (j : Int) := by omega
            obtain ⟨g, c2, hvv, -, -, -⟩ := row_some HOR.out (show 0 < l.length by omega)
            injection hvv with hvv
            subst hvv
            have hgb : (oneR (.slice (some ⟨g, 0, none⟩) l.length c21) l .inp).v.ownBlock = some g := rfl
            obtain ⟨⟨n, hn⟩, hfz⟩ := HSP.out.read (q := .inp) (by simp) hgb (o := j) (by simpa [oneR, flatI] using hlt2)
            have HSN := Lib.hid (fun x => HSP.out.set (q := .inp) (by simp) hgb (o := j) (by simpa [oneR, flatI] using hlt2) x)
            clear hgb
            go_wp2_with fail
            exact ⟨⟨j + 1, by omega, by go_num, Lib.hid (HSN.out _)⟩, by simp [intOf]; omega⟩
          · obtain rfl : j = l.length := by omega
            have hk1 : ¬ (l.length : Int) < (l.length : Int) := by omega
            have hown : ∀ b, OwnB (oneR (.slice A21 l.length c21) l) b → w20.heap.size ≤ b ∧ b < w21.heap.size := fun b ⟨q, hq⟩ => (oneR_rws HOR.out).lt q b hq
            have hks := HKS.out.chg HSP.out.chg fun b _ ho => by have := hown b ho; exact ⟨by omega, .inr this⟩
            have HKX := Lib.hid (HSP.out.chg.keep HK21.out fun ho => by have := (hown _ ho).1; omega)
            replace HKS := Lib.hid hks
            clear hks hown HSP HK21 HOR
            go_wp2_with fail
            obtain ⟨z0, z1, z2⟩ := box3o HKX.out
            have HBT := Lib.hid HKS.out.bl
            have HST := Lib.hid ((HKS.out.later (Below.refl _ _).drew).state)
            rw [newS_state HFIT.out] at HST
            have HEQ := Lib.hid (fun (v8 : Value) w' (hb : Below w.heap.size w w') (h8 : SV w' Any s v8) => StEqual_any s s v8 _ w' h8 (HV.out.later hb) HSS.out HSS.out)
            simp only [eqS_refl] at HEQ
            go_upto_region 21 with fail
            have hSS : (fun w' : World => w'.cell? ⟨w.heap.size, 0, none⟩ = some (.slice A s.cells.length c) ∧ w'.cell? ⟨w.heap.size, 1, none⟩ = some (.slice B s.tin.length d) ∧ w'.cell? ⟨w.heap.size, 2, none⟩ = some (.slice D s.tout.length e)) wr.drew ∧ (fun _ : World => True) wr.drew := ⟨⟨z0, z1, z2⟩, trivial⟩
            refine wp_region_noPanic ?_
            refine wp_region_G (fun w' : World => w'.cell? ⟨w.heap.size, 0, none⟩ = some (.slice A s.cells.length c) ∧ w'.cell? ⟨w.heap.size, 1, none⟩ = some (.slice B s.tin.length d) ∧ w'.cell? ⟨w.heap.size, 2, none⟩ = some (.slice D s.tout.length e)) (fun _ : World => True) 3 (by kernel_rfl) ?_
            refine wpG_take1 (i := 0) (v := ?_) rfl (by kernel_rfl) (by kernel_rfl) (by kernel_rfl) (by decide) (fun _ _ _ h => h) (Or.inl ⟨by rfl, ?_⟩) hSS ?_
            rotate_left 1
            · (intro w hSw; (try dsimp only at hSw); (try simp only [List.getElem_toArray, List.getElem_cons_zero]); go_simp; (try with_reducible rfl))
            (try simp only [Act.put, List.getElem_toArray, List.getElem_cons_zero, List.setIfInBounds_toArray, List.set_cons_zero, List.set_cons_succ])
            refine wpG_take1 (i := 2) (v := ?_) rfl (by kernel_rfl) (by kernel_rfl) (by kernel_rfl) (by decide) (fun _ _ _ h => h) (Or.inl ⟨by rfl, ?_⟩) hSS ?_
            rotate_left 1
            · (intro w hSw; (try dsimp only at hSw); (try simp only [List.getElem_toArray, List.getElem_cons_succ, List.getElem_cons_zero]); go_simp; (try with_reducible rfl))
            (try simp only [Act.put, List.getElem_toArray, List.getElem_cons_succ, List.getElem_cons_zero, List.setIfInBounds_toArray, List.set_cons_zero, List.set_cons_succ])
            have had : Calls Try.prog 25 [.pointer (some ⟨sb, 0, none⟩)].toArray wr.drew fun e W' => ∃ u, e = .returned u ∧ (OwnS W' wr.drew.heap.size s u ∧ Below wr.drew.heap.size wr.drew W') :=
              HST.out.mono fun e W' ⟨v, h1, h2, h3⟩ => ⟨v, h1, h2, h3⟩
            refine wpG_one (i := 1) (by kernel_rfl) rfl (fun K hK => ?_)
            refine step_callL (by rfl) (.func 25) [.tmp 124] _ (by rfl) 25 _ fnState (by rfl) _ (by rfl) _ had ?_
            rintro v95 w95 ⟨ho95, hb95⟩
            have HB95 := Lib.hid (show Below wr.heap.size wr w95 from (Below.refl _ _).drew.trans hb95)
            have hS95 : (fun w' : World => w'.cell? ⟨w.heap.size, 0, none⟩ = some (.slice A s.cells.length c) ∧ w'.cell? ⟨w.heap.size, 1, none⟩ = some (.slice B s.tin.length d) ∧ w'.cell? ⟨w.heap.size, 2, none⟩ = some (.slice D s.tout.length e)) w95 ∧ (fun _ : World => True) w95 := ⟨⟨cell_bl HB95.out z0, cell_bl HB95.out z1, cell_bl HB95.out z2⟩, trivial⟩
            have HO95 := Lib.hid (ho95.sv HSS.out.lim)
            refine hK.out _ _ hS95 ?_
            clear hK K had ho95 hb95 hSS HST
            (try simp only [Act.put, List.getElem_toArray, List.getElem_cons_succ, List.getElem_cons_zero, List.setIfInBounds_toArray, List.set_cons_zero, List.set_cons_succ])
            have had : Calls Try.prog 24 [v95, .agg #[.slice A s.cells.length c, .slice B s.tin.length d, .slice D s.tout.length e]].toArray w95 fun e W' => ∃ u, e = .returned u ∧ (u = .bool true ∧ Below w95.heap.size w95 W') :=
              (HEQ.out v95 w95 (bl_tt HBT.out HB95.out) HO95.out).mono fun e W' ⟨h1, h2⟩ => ⟨_, h1, rfl, h2⟩
            refine wpG_past (i := 3) (by kernel_rfl) rfl (by kernel_rfl) (fun K hK => ?_)
            refine step_callL (by rfl) (.func 24) [.tmp 125, .tmp 126] _ (by rfl) 24 _ fnStEqual (by rfl) _ (by rfl) _ had ?_
            rintro v96 w96 ⟨rfl, hb96⟩
            have HB96 := Lib.hid (bl_tt HB95.out hb96)
            have hS96 : (fun w' : World => w'.cell? ⟨w.heap.size, 0, none⟩ = some (.slice A s.cells.length c) ∧ w'.cell? ⟨w.heap.size, 1, none⟩ = some (.slice B s.tin.length d) ∧ w'.cell? ⟨w.heap.size, 2, none⟩ = some (.slice D s.tout.length e)) w96 := ⟨cell_bl HB96.out z0, cell_bl HB96.out z1, cell_bl HB96.out z2⟩
            refine hK.out _ _ hS96 ?_
            clear hK K had hb96 hS95
            (try simp only [Act.put, List.getElem_toArray, List.getElem_cons_succ, List.getElem_cons_zero, List.setIfInBounds_toArray, List.set_cons_zero, List.set_cons_succ])
            refine wpG_past (i := 4) (by kernel_rfl) rfl (by kernel_rfl) (fun K hK => ?_)
            (try simp only [List.getElem_toArray, List.getElem_cons_succ, List.getElem_cons_zero])
            go_simp
            refine hK.out _ _ hS96 ?_
            clear hK K
            (try simp only [Act.put, List.getElem_toArray, List.getElem_cons_succ, List.getElem_cons_zero, List.setIfInBounds_toArray, List.set_cons_zero, List.set_cons_succ])
            refine wpG_done (by kernel_rfl) ?_
            refine NoPanic.normal ?_
            go_wp2_with fail
            go_ret
            exact ⟨rfl, bl_tt HBT.out HB96.out⟩
      · have hnv1 : ¬ (0 : Int) < (nv : Int) := by omega
        go_wp2_with fail
        have HKX := Lib.hid HK20.out
        clear HK20
        obtain ⟨z0, z1, z2⟩ := box3o HKX.out
        have HBT := Lib.hid HKS.out.bl
        have HST := Lib.hid ((HKS.out.later (Below.refl _ _).drew).state)
        rw [newS_state HFIT.out] at HST
        have HEQ := Lib.hid (fun (v8 : Value) w' (hb : Below w.heap.size w w') (h8 : SV w' Any s v8) => StEqual_any s s v8 _ w' h8 (HV.out.later hb) HSS.out HSS.out)
        simp only [eqS_refl] at HEQ
        go_upto_region 21 with fail
        have hSS : (fun w' : World => w'.cell? ⟨w.heap.size, 0, none⟩ = some (.slice A s.cells.length c) ∧ w'.cell? ⟨w.heap.size, 1, none⟩ = some (.slice B s.tin.length d) ∧ w'.cell? ⟨w.heap.size, 2, none⟩ = some (.slice D s.tout.length e)) w20.drew ∧ (fun _ : World => True) w20.drew := ⟨⟨z0, z1, z2⟩, trivial⟩
        refine wp_region_noPanic ?_
        refine wp_region_G (fun w' : World => w'.cell? ⟨w.heap.size, 0, none⟩ = some (.slice A s.cells.length c) ∧ w'.cell? ⟨w.heap.size, 1, none⟩ = some (.slice B s.tin.length d) ∧ w'.cell? ⟨w.heap.size, 2, none⟩ = some (.slice D s.tout.length e)) (fun _ : World => True) 3 (by kernel_rfl) ?_
        refine wpG_take1 (i := 0) (v := ?_) rfl (by kernel_rfl) (by kernel_rfl) (by kernel_rfl) (by decide) (fun _ _ _ h => h) (Or.inl ⟨by rfl, ?_⟩) hSS ?_
        rotate_left 1
        · (intro w hSw; (try dsimp only at hSw); (try simp only [List.getElem_toArray, List.getElem_cons_zero]); go_simp; (try with_reducible rfl))
        (try simp only [Act.put, List.getElem_toArray, List.getElem_cons_zero, List.setIfInBounds_toArray, List.set_cons_zero, List.set_cons_succ])
        refine wpG_take1 (i := 2) (v := ?_) rfl (by kernel_rfl) (by kernel_rfl) (by kernel_rfl) (by decide) (fun _ _ _ h => h) (Or.inl ⟨by rfl, ?_⟩) hSS ?_
        rotate_left 1
        · (intro w hSw; (try dsimp only at hSw); (try simp only [List.getElem_toArray, List.getElem_cons_succ, List.getElem_cons_zero]); go_simp; (try with_reducible rfl))
        (try simp only [Act.put, List.getElem_toArray, List.getElem_cons_succ, List.getElem_cons_zero, List.setIfInBounds_toArray, List.set_cons_zero, List.set_cons_succ])
        have had : Calls Try.prog 25 [.pointer (some ⟨sb, 0, none⟩)].toArray w20.drew fun e W' => ∃ u, e = .returned u ∧ (OwnS W' w20.drew.heap.size s u ∧ Below w20.drew.heap.size w20.drew W') :=
          HST.out.mono fun e W' ⟨v, h1, h2, h3⟩ => ⟨v, h1, h2, h3⟩
        refine wpG_one (i := 1) (by kernel_rfl) rfl (fun K hK => ?_)
        refine step_callL (by rfl) (.func 25) [.tmp 124] _ (by rfl) 25 _ fnState (by rfl) _ (by rfl) _ had ?_
        rintro v95 w95 ⟨ho95, hb95⟩
        have HB95 := Lib.hid (show Below w20.heap.size w20 w95 from (Below.refl _ _).drew.trans hb95)
        have hS95 : (fun w' : World => w'.cell? ⟨w.heap.size, 0, none⟩ = some (.slice A s.cells.length c) ∧ w'.cell? ⟨w.heap.size, 1, none⟩ = some (.slice B s.tin.length d) ∧ w'.cell? ⟨w.heap.size, 2, none⟩ = some (.slice D s.tout.length e)) w95 ∧ (fun _ : World => True) w95 := ⟨⟨cell_bl HB95.out z0, cell_bl HB95.out z1, cell_bl HB95.out z2⟩, trivial⟩
        have HO95 := Lib.hid (ho95.sv HSS.out.lim)
        refine hK.out _ _ hS95 ?_
        clear hK K had ho95 hb95 hSS HST
        (try simp only [Act.put, List.getElem_toArray, List.getElem_cons_succ, List.getElem_cons_zero, List.setIfInBounds_toArray, List.set_cons_zero, List.set_cons_succ])
        have had : Calls Try.prog 24 [v95, .agg #[.slice A s.cells.length c, .slice B s.tin.length d, .slice D s.tout.length e]].toArray w95 fun e W' => ∃ u, e = .returned u ∧ (u = .bool true ∧ Below w95.heap.size w95 W') :=
          (HEQ.out v95 w95 (bl_tt HBT.out HB95.out) HO95.out).mono fun e W' ⟨h1, h2⟩ => ⟨_, h1, rfl, h2⟩
        refine wpG_past (i := 3) (by kernel_rfl) rfl (by kernel_rfl) (fun K hK => ?_)
        refine step_callL (by rfl) (.func 24) [.tmp 125, .tmp 126] _ (by rfl) 24 _ fnStEqual (by rfl) _ (by rfl) _ had ?_
        rintro v96 w96 ⟨rfl, hb96⟩
        have HB96 := Lib.hid (bl_tt HB95.out hb96)
        have hS96 : (fun w' : World => w'.cell? ⟨w.heap.size, 0, none⟩ = some (.slice A s.cells.length c) ∧ w'.cell? ⟨w.heap.size, 1, none⟩ = some (.slice B s.tin.length d) ∧ w'.cell? ⟨w.heap.size, 2, none⟩ = some (.slice D s.tout.length e)) w96 := ⟨cell_bl HB96.out z0, cell_bl HB96.out z1, cell_bl HB96.out z2⟩
        refine hK.out _ _ hS96 ?_
        clear hK K had hb96 hS95
        (try simp only [Act.put, List.getElem_toArray, List.getElem_cons_succ, List.getElem_cons_zero, List.setIfInBounds_toArray, List.set_cons_zero, List.set_cons_succ])
        refine wpG_past (i := 4) (by kernel_rfl) rfl (by kernel_rfl) (fun K hK => ?_)
        (try simp only [List.getElem_toArray, List.getElem_cons_succ, List.getElem_cons_zero])
        go_simp
        refine hK.out _ _ hS96 ?_
        clear hK K
        (try simp only [Act.put, List.getElem_toArray, List.getElem_cons_succ, List.getElem_cons_zero, List.setIfInBounds_toArray, List.set_cons_zero, List.set_cons_succ])
        refine wpG_done (by kernel_rfl) ?_
        refine NoPanic.normal ?_
        go_wp2_with fail
        go_ret
        exact ⟨rfl, bl_tt HBT.out HB96.out⟩

end Go.Proofs.Ytekjfbnggfbfhaa
