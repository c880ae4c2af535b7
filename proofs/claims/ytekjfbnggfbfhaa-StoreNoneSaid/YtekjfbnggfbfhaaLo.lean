/-
  StoreLocals: the walk.
-/
import Derived.Test.YtekjfbnggfbfhaaLf
import Derived.Test.YtekjfbnggfbfhaaLk
namespace Go.Proofs.Ytekjfbnggfbfhaa
open Go Go.RowKit

def vF9 : VD := ⟨⟨#[102,114,101,115,104,57]⟩, 1, 0⟩
/-- The store with the local; behind it. -/
def loS (vs : List VD) (s : SS) (x : Int) : ST := ⟨⟨vs ++ [vF9], List.range vs.length ++ [vs.length], 1⟩, [], fun i => if i = vs.length then [x] else s.cells.getD i [], vs.length + 1, s.tin, s.tout⟩
def loE (vs : List VD) (s : SS) (x : Int) : ST := ⟨⟨vs, List.range vs.length, 0⟩, [], fun i => if i = vs.length then [x] else s.cells.getD i [], vs.length + 1, s.tin, s.tout⟩
section
variable {vs : List VD} {s : SS} {x y : Int}
theorem lo_open (h : (newS vs s).cur.at vF9.s = none) : openE (newS vs s) vF9 x = (0, loS vs s x) := by
  unfold openE
  rw [if_neg (by decide), h, if_neg (by simp)]
  rfl
theorem lo_at : (loS vs s x).cur.at vF9.s = some vs.length := by
  show lastI (vs ++ [vF9]) vF9.s (vs ++ [vF9]).length = _
  rw [List.length_append, List.length_singleton, lastI_succ (by simp)]
  simp
theorem lo_twice : openE (loS vs s x) vF9 y = (22, loS vs s x) := by
  unfold openE
  rw [if_neg (by decide), lo_at]
  rfl
theorem lo_leave : leaveE (loS vs s x) = (20, loS vs s x) := by
  unfold leaveE
  rw [if_pos (.inl rfl)]
theorem lo_look : (loS vs s x).look vF9.s = some [x] := by
  unfold ST.look ST.num
  rw [lo_at]
  show Option.map _ ((List.range vs.length ++ [vs.length])[vs.length]?) = _
  rw [List.getElem?_append_right (by simp)]
  simp [loS]
theorem lo_last : lastV (loS vs s x).cur = vF9 := by
  show (vs ++ [vF9]).getD ((vs ++ [vF9]).length - 1) _ = _
  simp
theorem lo_lastC : lastC (loS vs s x).cur = vs.length := by
  show (List.range vs.length ++ [vs.length]).getD ((vs ++ [vF9]).length - 1) _ = _
  simp
theorem lo_cell : (loS vs s x).cell vs.length = [x] := by simp [loS]
theorem lo_close_no (h : y ≠ x) : closeE (loS vs s x) vF9.s y = (16, loS vs s x) := by
  unfold closeE
  rw [lo_last, lo_lastC, lo_cell]
  rw [if_neg (by simp [loS, ST.cur]), if_pos (.inl ⟨rfl, by simpa using fun e => h e.symm⟩)]
theorem lo_close_name : closeE (loS vs s x) ⟨#[110, 111, 110, 101]⟩ x = (6, loS vs s x) := by
  unfold closeE
  rw [lo_last, if_pos (.inr (by decide +kernel))]
theorem lo_close : closeE (loS vs s x) vF9.s x = (0, loE vs s x) := by
  unfold closeE
  rw [lo_last, lo_lastC, lo_cell]
  rw [if_neg (by simp [loS, ST.cur]), if_neg (by simp [vF9])]
  refine Prod.ext rfl ?_
  simp [ST.setCur, loS, loE, ST.cur, FR.pop]
theorem lo_close2 : closeE (loE vs s x) vF9.s x = (6, loE vs s x) := by
  unfold closeE
  rw [if_pos (.inl rfl)]
theorem lo_look2 (h : (newS vs s).cur.at vF9.s = none) : (loE vs s x).look vF9.s = none := by
  unfold ST.look ST.num
  rw [show (loE vs s x).cur.at vF9.s = none from h]
  rfl
theorem lo_state (h : fitB vs s = true) : (loE vs s x).state = s := by
  have hl : s.cells.length = vs.length := (fitB_all h).2.1
  obtain ⟨c, i, o⟩ := s
  simp only [ST.state, loE, List.length_range, Nat.sub_zero]
  congr 1
  rw [List.take_of_length_le (by simp)]
  refine List.ext_getElem (by simpa using hl.symm) fun j h1 h2 => ?_
  simp at h1 h2
  have hne : j ≠ vs.length := by omega
  simp [h2, hne]
end
theorem fldF9 : FldV vF9 := ⟨by decide, ⟨by decide, by decide⟩, by decide, by decide⟩

set_option maxHeartbeats 8000000 in
set_option maxRecDepth 100000 in
theorem Locals_walk (vs : List VD) (s : SS) (x o : Int) (A0 : Option Addr) (c0 : Nat) (v : Value) (w : World) (hrow : RowV w Any A0 vs) (hl : vs.length ≤ LV) (hv : SV w Any s v) (hx : I64 x) (ho : I64 o) :
    Calls Try.prog 6 #[.slice A0 vs.length c0, v, .int .i64 x, .int .i64 o] w fun e w' => e = .returned (.bool true) ∧ Below w.heap.size w w' := by
  have HV := Lib.hid hv
  have HROW := Lib.hid hrow
  have HX64 := Lib.hid hx
  have HO64 := Lib.hid ho
  have h1 := bV2
  have h2 := buildI1
  obtain ⟨A, c, B, d, D, e, rfl⟩ := hv.parts
  have HSM := Lib.hid (fun w' (hb : Below w.heap.size w w') => lsmall_any vs s A0 c0 _ w' hl (hv.later hb))
  obtain ⟨z, hz⟩ : ∃ z, smlB vs s = z := ⟨_, rfl⟩
  rw [hz] at HSM
  have HZ := Lib.hid (hz ▸ smlB_one : z = 0 ∨ (z = 1 ∧ vs.length ≤ 12 ∧ s.cells.length ≤ 12 ∧ s.tin.length ≤ 60 ∧ s.tout.length ≤ 60 ∧ ∀ l ∈ s.cells, l.length ≤ 60))
  have hk0 := heap_alloc_new w (.cells #[.slice A s.cells.length c, .slice B s.tin.length d, .slice D s.tout.length e] 29)
  have hb0 := bl_al (Below.refl w.heap.size w) (.cells #[.slice A s.cells.length c, .slice B s.tin.length d, .slice D s.tout.length e] 29)
  obtain ⟨w0, hw0⟩ : ∃ x, w.alloc (.cells #[.slice A s.cells.length c, .slice B s.tin.length d, .slice D s.tout.length e] 29) = x := ⟨_, rfl⟩
  rw [hw0] at hk0 hb0
  have HK0 := Lib.hid hk0
  have HB0 := Lib.hid hb0
  clear hrow hv hk0 hb0 hz hx ho
  go_enter Try.func6, Try.ntmps6
  go_wp2_with fail
  refine (awake_any w0).mono ?_
  rintro e1 w1 ⟨rfl, bw1⟩
  have HB1 := Lib.hid (bl_tt HB0.out bw1)
  have HK1 := Lib.hid (blk_bl HK0.out bw1)
  obtain ⟨x0, x1, x2⟩ := box3o (blk_bl HK0.out bw1)
  clear bw1 HK0 hw0
  go_wp2_with fail
  refine (HSM.out w1 HB1.out).mono ?_
  rintro e2 w2 ⟨rfl, bw2⟩
  have HB2 := Lib.hid (bl_tt HB1.out bw2)
  have HK2 := Lib.hid (blk_bl HK1.out bw2)
  have y0 := cell_bl bw2 x0
  have y1 := cell_bl bw2 x1
  have y2 := cell_bl bw2 x2
  clear bw2 x0 x1 x2 HK1
  rcases HZ.out with rfl | ⟨rfl, hz1, hz2, hz3, hz4, hz5⟩
  · go_wp2_with fail
    go_ret
    exact ⟨rfl, HB2.out⟩
  · have HSS := Lib.hid (SS.Sm.of hz2 hz3 hz4 hz5)
    clear HZ HSM hz5
    have HNW := Lib.hid (New_any vs s A0 c0 _ w2 (HROW.out.later HB2.out) hl (HV.out.later HB2.out))
    have HL12 := Lib.hid hz1
    obtain ⟨nv, hnv⟩ : ∃ n, vs.length = n := ⟨_, rfl⟩
    rw [hnv] at HNW ⊢
    clear hz1 hz2 hz3 hz4 hnv hl
    go_wp2_with fail
    refine HNW.out.mono ?_
    rintro e3 w3 ⟨bw3, hh⟩
    have HB3 := Lib.hid (bl_tt HB2.out bw3)
    have HK3 := Lib.hid (blk_bl HK2.out bw3)
    have hn2 := HB2.out.size
    have hn3 : w.heap.size < w2.heap.size := blk_lt HK2.out
    clear HNW y0 y1 y2 HK2
    rcases hh with ⟨hno, rfl⟩ | ⟨hfit, P, rfl, hsr⟩
    · go_wp2_with fail
      go_ret
      exact ⟨rfl, HB3.out⟩
    · obtain ⟨sb, hsb⟩ : ∃ b, P.sb = b := ⟨_, rfl⟩
      have hks := KS.new HB2.out bw3 hsr
      rw [hsb] at hks ⊢
      have HB4 := Lib.hid (bl_al (Below.refl w3.heap.size w3) (.cells #[.string ⟨#[102,114,101,115,104,57]⟩, .int .u8 1, .int .i64 0] 24))
      obtain ⟨y0, y1, y2⟩ := box3o (heap_alloc_new w3 (.cells #[.string ⟨#[102,114,101,115,104,57]⟩, .int .u8 1, .int .i64 0] 24))
      have hz4 : (w3.alloc (.cells #[.string ⟨#[102,114,101,115,104,57]⟩, .int .u8 1, .int .i64 0] 24)).heap.size = w3.heap.size + 1 := by simp
      have HKS := Lib.hid (KS.also (kb' := fun b => b = w3.heap.size) hks HB4.out fun b e => .inr (by rw [e, hz4]; omega))
      have HCE := Lib.hid (HKS.out.cell ⟨#[102,114,101,115,104,57]⟩)
      have HK4 := Lib.hid (blk_bl HK3.out HB4.out)
      have HFIT := Lib.hid hfit
      clear hks hsr hsb bw3 hfit HK3 hz4
      go_wp2_with fail
      refine HCE.out.mono ?_
      rintro e5 w5 ⟨v5, l5, b5, rfl, hlk, hl0, ho5, hf5, bw5⟩
      obtain ⟨A5, c5, rfl, -⟩ := row_slice ho5
      replace HK4 := Lib.hid (blk_bl HK4.out bw5)
      replace y0 := cell_bl bw5 y0
      replace y1 := cell_bl bw5 y1
      replace y2 := cell_bl bw5 y2
      replace HKS := Lib.hid (HKS.out.later bw5)
      clear ho5 bw5 hl0 hf5 HCE HB4
      cases b5
      · have HAT := Lib.hid (look_none HKS.out.wf hlk)
        clear hlk
        have hx := HKS.out.later (Below.refl _ _)
        replace hx := hx.open_ vF9 fldF9 x HX64.out (by have := HL12.out; show vs.length + 1 ≤ _; omega)
        rw [(show openE (newS vs s) vF9 x = _ from lo_open HAT.out)] at hx
        have HX := Lib.hid hx
        clear hx
        go_wp2_with fail
        refine HX.out.mono ?_
        rintro e w6 ⟨rfl, hks, hkp⟩
        replace HK4 := Lib.hid (hkp.blk (.inl hn3) HK4.out)
        replace y0 := hkp.cell (.inr rfl) y0
        replace y1 := hkp.cell (.inr rfl) y1
        replace y2 := hkp.cell (.inr rfl) y2
        replace HKS := Lib.hid hks
        clear hks hkp HX
        have hx := HKS.out.later (Below.refl _ _)
        replace hx := hx.open_ vF9 fldF9 o HO64.out (by have := HL12.out; show (vs ++ [vF9]).length + 1 ≤ _; simp; omega)
        rw [lo_twice] at hx
        have HX := Lib.hid hx
        clear hx
        go_wp2_with fail
        refine HX.out.mono ?_
        rintro e w7 ⟨rfl, hks, hkp⟩
        replace HK4 := Lib.hid (hkp.blk (.inl hn3) HK4.out)
        replace y0 := hkp.cell (.inr rfl) y0
        replace y1 := hkp.cell (.inr rfl) y1
        replace y2 := hkp.cell (.inr rfl) y2
        replace HKS := Lib.hid hks
        clear hks hkp HX
        have hx := HKS.out.later (Below.refl _ _)
        replace hx := hx.leave
        rw [lo_leave] at hx
        have HX := Lib.hid hx
        clear hx
        go_wp2_with fail
        refine HX.out.mono ?_
        rintro e w8 ⟨rfl, hks, hkp⟩
        replace HK4 := Lib.hid (hkp.blk (.inl hn3) HK4.out)
        replace y0 := hkp.cell (.inr rfl) y0
        replace y1 := hkp.cell (.inr rfl) y1
        replace y2 := hkp.cell (.inr rfl) y2
        replace HKS := Lib.hid hks
        clear hks hkp HX
        have HCE := Lib.hid (HKS.out.cell ⟨#[102,114,101,115,104,57]⟩)
        go_wp2_with fail
        refine HCE.out.mono ?_
        rintro e9 w9 ⟨v9, l9, b9, rfl, hlk, hl0, ho9, hf9, bw9⟩
        rw [show (loS vs s x).look ⟨#[102,114,101,115,104,57]⟩ = some [x] from lo_look] at hlk
        cases b9
        · cases hlk
        · injection hlk with hlk
          subst hlk
          obtain ⟨A9, c9, rfl, hc9, hr9⟩ := row_I (l := [x]) ho9 hf9
          replace HK4 := Lib.hid (blk_bl HK4.out bw9)
          replace y0 := cell_bl bw9 y0
          replace y1 := cell_bl bw9 y1
          replace y2 := cell_bl bw9 y2
          replace HKS := Lib.hid (HKS.out.later bw9)
          have HR9 := Lib.hid hr9
          clear ho9 bw9 hl0 hf9 HCE hr9
          have hba := bl_al (Below.refl w9.heap.size w9) (.cells #[.int .i64 x] 3)
          have hin := Ints_any [x] [x] A9 (some ⟨w9.heap.size, 0, none⟩) c9 1 (w9.alloc (.cells #[.int .i64 x] 3)) (HR9.out.later hba) (rowI_blk (heap_alloc_new w9 _) (by intro x' hx; simp at hx; subst hx; exact HX64.out)) (by simp) (by simp)
          rw [show decide ([x] = [x]) = true by simp] at hin
          have HIN := Lib.hid hin
          clear hin
          have HBA := Lib.hid hba
          clear hba
          go_wp2_with fail
          refine HIN.out.mono ?_
          rintro e w10 ⟨rfl, bw10⟩
          replace HK4 := Lib.hid (blk_bl (blk_bl HK4.out HBA.out) bw10)
          replace y0 := cell_bl bw10 (cell_bl HBA.out y0)
          replace y1 := cell_bl bw10 (cell_bl HBA.out y1)
          replace y2 := cell_bl bw10 (cell_bl HBA.out y2)
          replace HKS := Lib.hid ((HKS.out.later HBA.out).later bw10)
          clear bw10 HBA HIN HR9
          by_cases hox : o = x
          · have e1 : (o != x) = false := by simpa using hox
            have hx := HKS.out.later (Below.refl _ _)
            replace hx := hx.close ⟨#[110, 111, 110, 101]⟩ x
            rw [lo_close_name] at hx
            have HX := Lib.hid hx
            clear hx
            go_wp2_with fail
            refine HX.out.mono ?_
            rintro e w11 ⟨rfl, hks, hkp⟩
            replace HK4 := Lib.hid (hkp.blk (.inl hn3) HK4.out)
            replace y0 := hkp.cell (.inr rfl) y0
            replace y1 := hkp.cell (.inr rfl) y1
            replace y2 := hkp.cell (.inr rfl) y2
            replace HKS := Lib.hid hks
            clear hks hkp HX
            have hx := HKS.out.later (Below.refl _ _)
            replace hx := hx.close ⟨#[102,114,101,115,104,57]⟩ x
            rw [(show closeE (loS vs s x) ⟨#[102,114,101,115,104,57]⟩ x = _ from lo_close)] at hx
            have HX := Lib.hid hx
            clear hx
            go_wp2_with fail
            refine HX.out.mono ?_
            rintro e w12 ⟨rfl, hks, hkp⟩
            replace HK4 := Lib.hid (hkp.blk (.inl hn3) HK4.out)
            replace y0 := hkp.cell (.inr rfl) y0
            replace y1 := hkp.cell (.inr rfl) y1
            replace y2 := hkp.cell (.inr rfl) y2
            replace HKS := Lib.hid hks
            clear hks hkp HX
            have hx := HKS.out.later (Below.refl _ _)
            replace hx := hx.close ⟨#[102,114,101,115,104,57]⟩ x
            rw [(show closeE (loE vs s x) ⟨#[102,114,101,115,104,57]⟩ x = _ from lo_close2)] at hx
            have HX := Lib.hid hx
            clear hx
            go_wp2_with fail
            refine HX.out.mono ?_
            rintro e w13 ⟨rfl, hks, hkp⟩
            replace HK4 := Lib.hid (hkp.blk (.inl hn3) HK4.out)
            replace y0 := hkp.cell (.inr rfl) y0
            replace y1 := hkp.cell (.inr rfl) y1
            replace y2 := hkp.cell (.inr rfl) y2
            replace HKS := Lib.hid hks
            clear hks hkp HX
            have HCE := Lib.hid (HKS.out.cell ⟨#[102,114,101,115,104,57]⟩)
            go_wp2_with fail
            refine HCE.out.mono ?_
            rintro e w14 ⟨v14, l14, b14, rfl, hlk, hl0, ho14, hf14, bw14⟩
            rw [show (loE vs s x).look ⟨#[102,114,101,115,104,57]⟩ = none from lo_look2 HAT.out] at hlk
            cases b14
            rotate_left 1
            · cases hlk
            obtain ⟨A14, c14, rfl, -⟩ := row_slice ho14
            have HK14 := Lib.hid (blk_bl HK4.out bw14)
            obtain ⟨z0, z1, z2⟩ := box3o HK14.out
            have HBT := Lib.hid (bl_tt HKS.out.bl bw14)
            have HST := Lib.hid ((HKS.out.later bw14).later (Below.refl _ _).drew).state
            rw [lo_state HFIT.out] at HST
            have HEQ := Lib.hid (fun (v8 : Value) w' (hb : Below w.heap.size w w') (h8 : SV w' Any s v8) => StEqual_any s s v8 _ w' h8 (HV.out.later hb) HSS.out HSS.out)
            simp only [eqS_refl] at HEQ
            clear ho14 bw14 hlk hl0 hf14 y0 y1 y2 HCE
            go_upto_region 22 with fail
            have hSS : (fun w' : World => w'.cell? ⟨w.heap.size, 0, none⟩ = some (.slice A s.cells.length c) ∧ w'.cell? ⟨w.heap.size, 1, none⟩ = some (.slice B s.tin.length d) ∧ w'.cell? ⟨w.heap.size, 2, none⟩ = some (.slice D s.tout.length e)) w14.drew ∧ (fun _ : World => True) w14.drew := ⟨⟨z0, z1, z2⟩, trivial⟩
            refine wp_region_noPanic ?_
            refine wp_region_G (fun w' : World => w'.cell? ⟨w.heap.size, 0, none⟩ = some (.slice A s.cells.length c) ∧ w'.cell? ⟨w.heap.size, 1, none⟩ = some (.slice B s.tin.length d) ∧ w'.cell? ⟨w.heap.size, 2, none⟩ = some (.slice D s.tout.length e)) (fun _ : World => True) 6 (by kernel_rfl) ?_
            refine wpG_take1 (i := 0) (v := ?_) rfl (by kernel_rfl) (by kernel_rfl) (by kernel_rfl) (by decide) (fun _ _ _ h => h) (Or.inl ⟨by rfl, ?_⟩) hSS ?_
            rotate_left 1
            · (intro w hSw; (try dsimp only at hSw); (try simp only [List.getElem_toArray, List.getElem_cons_zero]); go_simp; (try with_reducible rfl))
            (try simp only [Act.put, List.getElem_toArray, List.getElem_cons_zero, List.setIfInBounds_toArray, List.set_cons_zero, List.set_cons_succ])
            refine wpG_take1 (i := 1) (v := ?_) rfl (by kernel_rfl) (by kernel_rfl) (by kernel_rfl) (by decide) (fun _ _ _ h => h) (Or.inl ⟨by rfl, ?_⟩) hSS ?_
            rotate_left 1
            · (intro w hSw; (try dsimp only at hSw); (try simp only [List.getElem_toArray, List.getElem_cons_succ, List.getElem_cons_zero]); go_simp; (try with_reducible rfl))
            (try simp only [Act.put, List.getElem_toArray, List.getElem_cons_succ, List.getElem_cons_zero, List.setIfInBounds_toArray, List.set_cons_zero, List.set_cons_succ])
            refine wpG_take1 (i := 2) (v := ?_) rfl (by kernel_rfl) (by kernel_rfl) (by kernel_rfl) (by decide) (fun _ _ _ h => h) (Or.inl ⟨by rfl, ?_⟩) hSS ?_
            rotate_left 1
            · (intro w hSw; (try dsimp only at hSw); (try simp only [List.getElem_toArray, List.getElem_cons_succ, List.getElem_cons_zero]); go_simp; (try with_reducible rfl))
            (try simp only [Act.put, List.getElem_toArray, List.getElem_cons_succ, List.getElem_cons_zero, List.setIfInBounds_toArray, List.set_cons_zero, List.set_cons_succ])
            refine wpG_take1 (i := 3) (v := ?_) rfl (by kernel_rfl) (by kernel_rfl) (by kernel_rfl) (by decide) (fun _ _ _ h => h) (Or.inl ⟨by rfl, ?_⟩) hSS ?_
            rotate_left 1
            · (intro w hSw; (try dsimp only at hSw); (try simp only [List.getElem_toArray, List.getElem_cons_succ, List.getElem_cons_zero]); go_simp; (try with_reducible rfl))
            (try simp only [Act.put, List.getElem_toArray, List.getElem_cons_succ, List.getElem_cons_zero, List.setIfInBounds_toArray, List.set_cons_zero, List.set_cons_succ])
            refine wpG_take1 (i := 5) (v := ?_) rfl (by kernel_rfl) (by kernel_rfl) (by kernel_rfl) (by decide) (fun _ _ _ h => h) (Or.inl ⟨by rfl, ?_⟩) hSS ?_
            rotate_left 1
            · (intro w hSw; (try dsimp only at hSw); (try simp only [List.getElem_toArray, List.getElem_cons_succ, List.getElem_cons_zero]); go_simp; (try with_reducible rfl))
            (try simp only [Act.put, List.getElem_toArray, List.getElem_cons_succ, List.getElem_cons_zero, List.setIfInBounds_toArray, List.set_cons_zero, List.set_cons_succ])
            have had : Calls Try.prog 25 [.pointer (some ⟨sb, 0, none⟩)].toArray w14.drew fun e W' => ∃ u, e = .returned u ∧ (OwnS W' w14.drew.heap.size s u ∧ Below w14.drew.heap.size w14.drew W') :=
              HST.out.mono fun e W' ⟨v, h1, h2, h3⟩ => ⟨v, h1, h2, h3⟩
            refine wpG_one (i := 4) (by kernel_rfl) rfl (fun K hK => ?_)
            refine step_callG (by rfl) (.func 25) [.tmp 117] _ (by rfl) 25 _ fnState (by rfl) _ (by rfl) _ had ?_
            rintro v15 w15 ⟨ho15, hb15⟩
            have HB15 := Lib.hid (show Below w14.heap.size w14 w15 from (Below.refl _ _).drew.trans hb15)
            have hS15 : (fun w' : World => w'.cell? ⟨w.heap.size, 0, none⟩ = some (.slice A s.cells.length c) ∧ w'.cell? ⟨w.heap.size, 1, none⟩ = some (.slice B s.tin.length d) ∧ w'.cell? ⟨w.heap.size, 2, none⟩ = some (.slice D s.tout.length e)) w15 ∧ (fun _ : World => True) w15 := ⟨⟨cell_bl HB15.out z0, cell_bl HB15.out z1, cell_bl HB15.out z2⟩, trivial⟩
            have HO15 := Lib.hid (ho15.sv HSS.out.lim)
            refine hK.out _ _ hS15 ?_
            clear hK K had ho15 hb15 hSS HST
            (try simp only [Act.put, List.getElem_toArray, List.getElem_cons_succ, List.getElem_cons_zero, List.setIfInBounds_toArray, List.set_cons_zero, List.set_cons_succ])
            have had : Calls Try.prog 24 [v15, .agg #[.slice A s.cells.length c, .slice B s.tin.length d, .slice D s.tout.length e]].toArray w15 fun e W' => ∃ u, e = .returned u ∧ (u = .bool true ∧ Below w15.heap.size w15 W') :=
              (HEQ.out v15 w15 (bl_tt HBT.out HB15.out) HO15.out).mono fun e W' ⟨h1, h2⟩ => ⟨_, h1, rfl, h2⟩
            refine wpG_past (i := 6) (by kernel_rfl) rfl (by kernel_rfl) (fun K hK => ?_)
            refine step_callG (by rfl) (.func 24) [.tmp 118, .tmp 119] _ (by rfl) 24 _ fnStEqual (by rfl) _ (by rfl) _ had ?_
            rintro v16 w16 ⟨rfl, hb16⟩
            have HB16 := Lib.hid (bl_tt HB15.out hb16)
            have hS16 : (fun w' : World => w'.cell? ⟨w.heap.size, 0, none⟩ = some (.slice A s.cells.length c) ∧ w'.cell? ⟨w.heap.size, 1, none⟩ = some (.slice B s.tin.length d) ∧ w'.cell? ⟨w.heap.size, 2, none⟩ = some (.slice D s.tout.length e)) w16 := ⟨cell_bl HB16.out z0, cell_bl HB16.out z1, cell_bl HB16.out z2⟩
            refine hK.out _ _ hS16 ?_
            clear hK K had hb16 hS15
            (try simp only [Act.put, List.getElem_toArray, List.getElem_cons_succ, List.getElem_cons_zero, List.setIfInBounds_toArray, List.set_cons_zero, List.set_cons_succ])
            refine wpG_past (i := 7) (by kernel_rfl) rfl (by kernel_rfl) (fun K hK => ?_)
            (try simp only [List.getElem_toArray, List.getElem_cons_succ, List.getElem_cons_zero])
            go_simp
            refine hK.out _ _ hS16 ?_
            clear hK K
            (try simp only [Act.put, List.getElem_toArray, List.getElem_cons_succ, List.getElem_cons_zero, List.setIfInBounds_toArray, List.set_cons_zero, List.set_cons_succ])
            refine wpG_past (i := 8) (by kernel_rfl) rfl (by kernel_rfl) (fun K hK => ?_)
            (try simp only [List.getElem_toArray, List.getElem_cons_succ, List.getElem_cons_zero])
            go_simp
            refine hK.out _ _ hS16 ?_
            clear hK K
            (try simp only [Act.put, List.getElem_toArray, List.getElem_cons_succ, List.getElem_cons_zero, List.setIfInBounds_toArray, List.set_cons_zero, List.set_cons_succ])
            refine wpG_done (by kernel_rfl) ?_
            refine NoPanic.normal ?_
            go_wp2_with fail
            go_ret
            exact ⟨rfl, bl_tt HBT.out HB16.out⟩
          · have e1 : (o != x) = true := by simpa using hox
            have hx := HKS.out.later (Below.refl _ _)
            replace hx := hx.close ⟨#[102,114,101,115,104,57]⟩ o
            rw [(show closeE (loS vs s x) ⟨#[102,114,101,115,104,57]⟩ o = _ from lo_close_no hox)] at hx
            have HX := Lib.hid hx
            clear hx
            go_wp2_with fail
            refine HX.out.mono ?_
            rintro e w10b ⟨rfl, hks, hkp⟩
            replace HK4 := Lib.hid (hkp.blk (.inl hn3) HK4.out)
            replace y0 := hkp.cell (.inr rfl) y0
            replace y1 := hkp.cell (.inr rfl) y1
            replace y2 := hkp.cell (.inr rfl) y2
            replace HKS := Lib.hid hks
            clear hks hkp HX
            have hx := HKS.out.later (Below.refl _ _)
            replace hx := hx.close ⟨#[110, 111, 110, 101]⟩ x
            rw [lo_close_name] at hx
            have HX := Lib.hid hx
            clear hx
            go_wp2_with fail
            refine HX.out.mono ?_
            rintro e w11 ⟨rfl, hks, hkp⟩
            replace HK4 := Lib.hid (hkp.blk (.inl hn3) HK4.out)
            replace y0 := hkp.cell (.inr rfl) y0
            replace y1 := hkp.cell (.inr rfl) y1
            replace y2 := hkp.cell (.inr rfl) y2
            replace HKS := Lib.hid hks
            clear hks hkp HX
            have hx := HKS.out.later (Below.refl _ _)
            replace hx := hx.close ⟨#[102,114,101,115,104,57]⟩ x
            rw [(show closeE (loS vs s x) ⟨#[102,114,101,115,104,57]⟩ x = _ from lo_close)] at hx
            have HX := Lib.hid hx
            clear hx
            go_wp2_with fail
            refine HX.out.mono ?_
            rintro e w12 ⟨rfl, hks, hkp⟩
            replace HK4 := Lib.hid (hkp.blk (.inl hn3) HK4.out)
            replace y0 := hkp.cell (.inr rfl) y0
            replace y1 := hkp.cell (.inr rfl) y1
            replace y2 := hkp.cell (.inr rfl) y2
            replace HKS := Lib.hid hks
            clear hks hkp HX
            have hx := HKS.out.later (Below.refl _ _)
            replace hx := hx.close ⟨#[102,114,101,115,104,57]⟩ x
            rw [(show closeE (loE vs s x) ⟨#[102,114,101,115,104,57]⟩ x = _ from lo_close2)] at hx
            have HX := Lib.hid hx
            clear hx
            go_wp2_with fail
            refine HX.out.mono ?_
            rintro e w13 ⟨rfl, hks, hkp⟩
            replace HK4 := Lib.hid (hkp.blk (.inl hn3) HK4.out)
            replace y0 := hkp.cell (.inr rfl) y0
            replace y1 := hkp.cell (.inr rfl) y1
            replace y2 := hkp.cell (.inr rfl) y2
            replace HKS := Lib.hid hks
            clear hks hkp HX
            have HCE := Lib.hid (HKS.out.cell ⟨#[102,114,101,115,104,57]⟩)
            go_wp2_with fail
            refine HCE.out.mono ?_
            rintro e w14 ⟨v14, l14, b14, rfl, hlk, hl0, ho14, hf14, bw14⟩
            rw [show (loE vs s x).look ⟨#[102,114,101,115,104,57]⟩ = none from lo_look2 HAT.out] at hlk
            cases b14
            rotate_left 1
            · cases hlk
            obtain ⟨A14, c14, rfl, -⟩ := row_slice ho14
            have HK14 := Lib.hid (blk_bl HK4.out bw14)
            obtain ⟨z0, z1, z2⟩ := box3o HK14.out
            have HBT := Lib.hid (bl_tt HKS.out.bl bw14)
            have HST := Lib.hid ((HKS.out.later bw14).later (Below.refl _ _).drew).state
            rw [lo_state HFIT.out] at HST
            have HEQ := Lib.hid (fun (v8 : Value) w' (hb : Below w.heap.size w w') (h8 : SV w' Any s v8) => StEqual_any s s v8 _ w' h8 (HV.out.later hb) HSS.out HSS.out)
            simp only [eqS_refl] at HEQ
            clear ho14 bw14 hlk hl0 hf14 y0 y1 y2 HCE
            go_upto_region 22 with fail
            have hSS : (fun w' : World => w'.cell? ⟨w.heap.size, 0, none⟩ = some (.slice A s.cells.length c) ∧ w'.cell? ⟨w.heap.size, 1, none⟩ = some (.slice B s.tin.length d) ∧ w'.cell? ⟨w.heap.size, 2, none⟩ = some (.slice D s.tout.length e)) w14.drew ∧ (fun _ : World => True) w14.drew := ⟨⟨z0, z1, z2⟩, trivial⟩
            refine wp_region_noPanic ?_
            refine wp_region_G (fun w' : World => w'.cell? ⟨w.heap.size, 0, none⟩ = some (.slice A s.cells.length c) ∧ w'.cell? ⟨w.heap.size, 1, none⟩ = some (.slice B s.tin.length d) ∧ w'.cell? ⟨w.heap.size, 2, none⟩ = some (.slice D s.tout.length e)) (fun _ : World => True) 6 (by kernel_rfl) ?_
            refine wpG_take1 (i := 0) (v := ?_) rfl (by kernel_rfl) (by kernel_rfl) (by kernel_rfl) (by decide) (fun _ _ _ h => h) (Or.inl ⟨by rfl, ?_⟩) hSS ?_
            rotate_left 1
            · (intro w hSw; (try dsimp only at hSw); (try simp only [List.getElem_toArray, List.getElem_cons_zero]); go_simp; (try with_reducible rfl))
            (try simp only [Act.put, List.getElem_toArray, List.getElem_cons_zero, List.setIfInBounds_toArray, List.set_cons_zero, List.set_cons_succ])
            refine wpG_take1 (i := 1) (v := ?_) rfl (by kernel_rfl) (by kernel_rfl) (by kernel_rfl) (by decide) (fun _ _ _ h => h) (Or.inl ⟨by rfl, ?_⟩) hSS ?_
            rotate_left 1
            · (intro w hSw; (try dsimp only at hSw); (try simp only [List.getElem_toArray, List.getElem_cons_succ, List.getElem_cons_zero]); go_simp; (try with_reducible rfl))
            (try simp only [Act.put, List.getElem_toArray, List.getElem_cons_succ, List.getElem_cons_zero, List.setIfInBounds_toArray, List.set_cons_zero, List.set_cons_succ])
            refine wpG_take1 (i := 2) (v := ?_) rfl (by kernel_rfl) (by kernel_rfl) (by kernel_rfl) (by decide) (fun _ _ _ h => h) (Or.inl ⟨by rfl, ?_⟩) hSS ?_
            rotate_left 1
            · (intro w hSw; (try dsimp only at hSw); (try simp only [List.getElem_toArray, List.getElem_cons_succ, List.getElem_cons_zero]); go_simp; (try with_reducible rfl))
            (try simp only [Act.put, List.getElem_toArray, List.getElem_cons_succ, List.getElem_cons_zero, List.setIfInBounds_toArray, List.set_cons_zero, List.set_cons_succ])
            refine wpG_take1 (i := 3) (v := ?_) rfl (by kernel_rfl) (by kernel_rfl) (by kernel_rfl) (by decide) (fun _ _ _ h => h) (Or.inl ⟨by rfl, ?_⟩) hSS ?_
            rotate_left 1
            · (intro w hSw; (try dsimp only at hSw); (try simp only [List.getElem_toArray, List.getElem_cons_succ, List.getElem_cons_zero]); go_simp; (try with_reducible rfl))
            (try simp only [Act.put, List.getElem_toArray, List.getElem_cons_succ, List.getElem_cons_zero, List.setIfInBounds_toArray, List.set_cons_zero, List.set_cons_succ])
            refine wpG_take1 (i := 5) (v := ?_) rfl (by kernel_rfl) (by kernel_rfl) (by kernel_rfl) (by decide) (fun _ _ _ h => h) (Or.inl ⟨by rfl, ?_⟩) hSS ?_
            rotate_left 1
            · (intro w hSw; (try dsimp only at hSw); (try simp only [List.getElem_toArray, List.getElem_cons_succ, List.getElem_cons_zero]); go_simp; (try with_reducible rfl))
            (try simp only [Act.put, List.getElem_toArray, List.getElem_cons_succ, List.getElem_cons_zero, List.setIfInBounds_toArray, List.set_cons_zero, List.set_cons_succ])
            have had : Calls Try.prog 25 [.pointer (some ⟨sb, 0, none⟩)].toArray w14.drew fun e W' => ∃ u, e = .returned u ∧ (OwnS W' w14.drew.heap.size s u ∧ Below w14.drew.heap.size w14.drew W') :=
              HST.out.mono fun e W' ⟨v, h1, h2, h3⟩ => ⟨v, h1, h2, h3⟩
            refine wpG_one (i := 4) (by kernel_rfl) rfl (fun K hK => ?_)
            refine step_callG (by rfl) (.func 25) [.tmp 117] _ (by rfl) 25 _ fnState (by rfl) _ (by rfl) _ had ?_
            rintro v15 w15 ⟨ho15, hb15⟩
            have HB15 := Lib.hid (show Below w14.heap.size w14 w15 from (Below.refl _ _).drew.trans hb15)
            have hS15 : (fun w' : World => w'.cell? ⟨w.heap.size, 0, none⟩ = some (.slice A s.cells.length c) ∧ w'.cell? ⟨w.heap.size, 1, none⟩ = some (.slice B s.tin.length d) ∧ w'.cell? ⟨w.heap.size, 2, none⟩ = some (.slice D s.tout.length e)) w15 ∧ (fun _ : World => True) w15 := ⟨⟨cell_bl HB15.out z0, cell_bl HB15.out z1, cell_bl HB15.out z2⟩, trivial⟩
            have HO15 := Lib.hid (ho15.sv HSS.out.lim)
            refine hK.out _ _ hS15 ?_
            clear hK K had ho15 hb15 hSS HST
            (try simp only [Act.put, List.getElem_toArray, List.getElem_cons_succ, List.getElem_cons_zero, List.setIfInBounds_toArray, List.set_cons_zero, List.set_cons_succ])
            have had : Calls Try.prog 24 [v15, .agg #[.slice A s.cells.length c, .slice B s.tin.length d, .slice D s.tout.length e]].toArray w15 fun e W' => ∃ u, e = .returned u ∧ (u = .bool true ∧ Below w15.heap.size w15 W') :=
              (HEQ.out v15 w15 (bl_tt HBT.out HB15.out) HO15.out).mono fun e W' ⟨h1, h2⟩ => ⟨_, h1, rfl, h2⟩
            refine wpG_past (i := 6) (by kernel_rfl) rfl (by kernel_rfl) (fun K hK => ?_)
            refine step_callG (by rfl) (.func 24) [.tmp 118, .tmp 119] _ (by rfl) 24 _ fnStEqual (by rfl) _ (by rfl) _ had ?_
            rintro v16 w16 ⟨rfl, hb16⟩
            have HB16 := Lib.hid (bl_tt HB15.out hb16)
            have hS16 : (fun w' : World => w'.cell? ⟨w.heap.size, 0, none⟩ = some (.slice A s.cells.length c) ∧ w'.cell? ⟨w.heap.size, 1, none⟩ = some (.slice B s.tin.length d) ∧ w'.cell? ⟨w.heap.size, 2, none⟩ = some (.slice D s.tout.length e)) w16 := ⟨cell_bl HB16.out z0, cell_bl HB16.out z1, cell_bl HB16.out z2⟩
            refine hK.out _ _ hS16 ?_
            clear hK K had hb16 hS15
            (try simp only [Act.put, List.getElem_toArray, List.getElem_cons_succ, List.getElem_cons_zero, List.setIfInBounds_toArray, List.set_cons_zero, List.set_cons_succ])
            refine wpG_past (i := 7) (by kernel_rfl) rfl (by kernel_rfl) (fun K hK => ?_)
            (try simp only [List.getElem_toArray, List.getElem_cons_succ, List.getElem_cons_zero])
            go_simp
            refine hK.out _ _ hS16 ?_
            clear hK K
            (try simp only [Act.put, List.getElem_toArray, List.getElem_cons_succ, List.getElem_cons_zero, List.setIfInBounds_toArray, List.set_cons_zero, List.set_cons_succ])
            refine wpG_past (i := 8) (by kernel_rfl) rfl (by kernel_rfl) (fun K hK => ?_)
            (try simp only [List.getElem_toArray, List.getElem_cons_succ, List.getElem_cons_zero])
            go_simp
            refine hK.out _ _ hS16 ?_
            clear hK K
            (try simp only [Act.put, List.getElem_toArray, List.getElem_cons_succ, List.getElem_cons_zero, List.setIfInBounds_toArray, List.set_cons_zero, List.set_cons_succ])
            refine wpG_done (by kernel_rfl) ?_
            refine NoPanic.normal ?_
            go_wp2_with fail
            go_ret
            exact ⟨rfl, bl_tt HBT.out HB16.out⟩
      · go_wp2_with fail
        go_ret
        exact ⟨rfl, HKS.out.bl⟩

end Go.Proofs.Ytekjfbnggfbfhaa
