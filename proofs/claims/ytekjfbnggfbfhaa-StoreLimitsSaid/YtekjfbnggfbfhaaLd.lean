/-
  StoreDepth: the walk.
-/
import Derived.Test.YtekjfbnggfbfhaaAv
namespace Go.Proofs.Ytekjfbnggfbfhaa
open Go Go.RowKit

def vX : VD := ⟨⟨#[120]⟩, 1, 0⟩
def fX : FR := ⟨[vX], [0], 0⟩
/-- The store with j frames entered. -/
def dS (x : Int) (j : Nat) : ST := { newS [vX] ⟨[[x]], [], []⟩ with calls := List.replicate j fX }
theorem dS_cur (x : Int) (j : Nat) : (dS x j).cur = fX := by
  cases j with
  | zero => rfl
  | succ j => simp [ST.cur, dS, List.getLast?_replicate]
theorem atX : fX.at ⟨#[120]⟩ = some 0 := by decide +kernel
theorem dS_enter (x : Int) (j : Nat) : enterE (dS x j) [vX] [⟨#[120]⟩] = if 100 ≤ j then (19, dS x j) else (0, dS x (j + 1)) := by
  rw [enterE, if_neg (by simp), dS_cur]
  have : entL fX ⟨[], [], 0⟩ ([vX].zip [⟨#[120]⟩]) = .ok fX := by
    rw [show [vX].zip [(⟨#[120]⟩ : ByteArray)] = [(vX, ⟨#[120]⟩)] from rfl, entL, atX]
    rfl
  rw [this, entR]
  have hl : (dS x j).calls.length = j := by simp [dS]
  rw [hl]
  split
  · rfl
  · simp only [dS, List.replicate_succ']
theorem dS_leave (x : Int) (j : Nat) : leaveE (dS x (j + 1)) = (0, dS x j) := by
  rw [leaveE, dS_cur, if_neg (by simp [dS, fX])]
  simp [dS]
theorem dS_look (x : Int) (j : Nat) : (dS x j).look ⟨#[120]⟩ = some [x] := by
  rw [ST.look, ST.num, dS_cur, atX]
  rfl
theorem dS_fit (x : Int) : fitB [vX] ⟨[[x]], [], []⟩ = true := by
  simp [fitB, svB, vdB, fitsL, fit1, fixE, vX]

theorem bSV1 (a0 a1 a2 : Value) (w : World) : (Instr.buildSlice 25 1 #[(0, .agg #[a0, a1, a2])]).run Try.prog w = .ok (.slice (some ⟨w.heap.size, 0, none⟩) 1 1) (w.alloc (.cells #[a0, a1, a2] 24)) := by kernel_rfl
theorem bII1 (A : Option Addr) (l c : Nat) (w : World) : (Instr.buildSlice 27 1 #[(0, .slice A l c)]).run Try.prog w = .ok (.slice (some ⟨w.heap.size, 0, none⟩) 1 1) (w.alloc (.cells #[.slice A l c] 26)) := by kernel_rfl
theorem bSS1 (s : ByteArray) (w : World) : (Instr.buildSlice 48 1 #[(0, .string s)]).run Try.prog w = .ok (.slice (some ⟨w.heap.size, 0, none⟩) 1 1) (w.alloc (.cells #[.string s] 9)) := by kernel_rfl
theorem rowII1 {W : World} {b : Nat} {E : TypeId} {l1 : List Int} {A1 : Option Addr} {c1 : Nat} (h : W.heap[b]? = some (.cells #[.slice A1 l1.length c1] E (0, 0))) (r1 : RowI W Any A1 l1) (h1 : l1.length ≤ c1) : RowII W Any (some ⟨b, 0, none⟩) [l1] := fun i hi => by
  match i, hi with
  | 0, _ => exact ⟨⟨b, 0, none⟩, A1, c1, rfl, trivial, cell_of_blk h rfl, h1, r1⟩
theorem rowS_one {W : World} {b : Nat} {E : TypeId} {s : ByteArray} (h : W.heap[b]? = some (.cells #[.string s] E (0, 0))) : RowS W (some ⟨b, 0, none⟩) [s] := fun i hi => by
  match i, hi with
  | 0, _ => exact ⟨⟨b, 0, none⟩, rfl, cell_of_blk h rfl⟩
theorem fldX : ∀ v ∈ [vX], FldV v := by
  intro v hv
  simp at hv
  subst hv
  exact ⟨by decide, ⟨by decide, by decide⟩, by decide, by decide⟩

set_option maxHeartbeats 4000000 in
set_option maxRecDepth 100000 in
theorem Depth_walk (n : Int) (hn : 0 ≤ n ∧ n < 256) (w : World) : Calls Try.prog 5 #[.int .u8 n] w fun e w' => e = .returned (.bool true) ∧ Below w.heap.size w w' := by
  have h1 := bV2
  have h2 := bSV1
  have h3 := buildI1
  have h4 := bII1
  have h5 := bS1
  have hc : IntKind.i64.wrap n = n := IntWalk.i64_in _ (by omega)
  go_enter Try.func5, Try.ntmps5
  go_wp2_with fail
  refine (awake_any w).mono ?_
  rintro e w0 ⟨rfl, bw0⟩
  have HB0 := Lib.hid bw0
  clear bw0
  go_wp2_with fail
  obtain ⟨w1, hw1⟩ : ∃ x, w0.alloc (.cells #[.string ⟨#[120]⟩, .int .u8 1, .int .i64 0] 24) = x := ⟨_, rfl⟩
  obtain ⟨w2, hw2⟩ : ∃ x, w1.alloc (.cells #[.int .i64 n] 3) = x := ⟨_, rfl⟩
  obtain ⟨w4, hw4⟩ : ∃ x, w2.alloc (.cells #[.slice (some ⟨w0.heap.size + 1, 0, none⟩) 1 1] 26) = x := ⟨_, rfl⟩
  rw [hw1, hw2, hw4]
  have b1 : Below w0.heap.size w0 w1 := hw1 ▸ bl_al (Below.refl _ _) _
  have b2 : Below w1.heap.size w1 w2 := hw2 ▸ bl_al (Below.refl _ _) _
  have b4 : Below w2.heap.size w2 w4 := hw4 ▸ bl_al (Below.refl _ _) _
  have z1 : w1.heap.size = w0.heap.size + 1 := by rw [← hw1]; simp
  have z2 : w2.heap.size = w0.heap.size + 1 + 1 := by rw [← hw2]; simp [z1]
  have k1 : w1.heap[w0.heap.size]? = some (.cells (flatV [vX]).toArray 24 (0, 0)) := hw1 ▸ heap_alloc_new w0 _
  have k2 : w2.heap[w0.heap.size + 1]? = some (.cells (flatI [n]).toArray 3 (0, 0)) := by rw [← z1, ← hw2]; exact heap_alloc_new w1 _
  have k4 : w4.heap[w0.heap.size + 1 + 1]? = some (.cells #[.slice (some ⟨w0.heap.size + 1, 0, none⟩) 1 1] 26 (0, 0)) := by rw [← z2, ← hw4]; exact heap_alloc_new w2 _
  have hnI : I64 n := ⟨by omega, by omega⟩
  have hV : RowV w4 Any (some ⟨w0.heap.size, 0, none⟩) [vX] := rowV_blk (blk_bl (blk_bl k1 b2) b4) fldX
  have hSV : SV w4 Any ⟨[[n]], [], []⟩ (.agg #[.slice (some ⟨w0.heap.size + 1 + 1, 0, none⟩) 1 1, .slice none 0 0, .slice none 0 0]) :=
    ⟨_, 1, none, 0, none, 0, rfl, rowII1 (l1 := [n]) k4 (rowI_blk (blk_bl k2 b4) (by intro x hx; simp at hx; subst hx; exact hnI)) (by simp), fun i hi => by simp at hi, fun i hi => by simp at hi, by simp, by simp, by simp, by simp [LI], by intro l hl; simp at hl; subst hl; simp [LI], by simp [LI], by simp [LI]⟩
  have HB4 := Lib.hid (bl_tt (bl_tt (bl_tt HB0.out b1) b2) b4)
  have HNW := Lib.hid (New_any [vX] ⟨[[n]], [], []⟩ (some ⟨w0.heap.size, 0, none⟩) 1 _ w4 hV (by simp [LV]) hSV)
  clear hw1 hw2 hw4 b1 b2 b4 z1 z2 k1 k2 k4 hV hSV h4 h5
  refine HNW.out.mono ?_
  rintro e w5 ⟨bw5, hh⟩
  rcases hh with ⟨hno, -⟩ | ⟨-, P, rfl, hsr⟩
  · rw [dS_fit] at hno; cases hno
  · have HS0 := Lib.hid (show SR w5 w4.heap.size P (dS n 0) from hsr)
    have HB5 := Lib.hid bw5
    clear hsr bw5
    go_wp2_with fail
    obtain ⟨w6, hw6⟩ : ∃ x, w5.alloc (.cells #[.string ⟨#[120]⟩, .int .u8 1, .int .i64 0] 24) = x := ⟨_, rfl⟩
    rw [hw6]
    have b6 : Below w5.heap.size w5 w6 := hw6 ▸ bl_al (Below.refl _ _) _
    have HK6 := Lib.hid (show w6.heap[w5.heap.size]? = some (.cells (flatV [vX]).toArray 24 (0, 0)) from hw6 ▸ heap_alloc_new w5 _)
    have HN6 := Lib.hid (show ¬ OwnB (rows P (dS n 0)) w5.heap.size from fun ⟨q, hq⟩ => by have := (HS0.out.rws.lt q _ hq).2; omega)
    have HS6 := Lib.hid (HS0.out.later b6)
    have HB6 := Lib.hid (bl_tt HB5.out b6)
    have h6 := bSS1
    clear hw6 b6
    go_loopw [6] (fun i wr => ∃ j : Nat, j ≤ 100 ∧ i = .int .i64 j ∧ Hid (Below w4.heap.size w4 wr) ∧ Hid (wr.heap[w5.heap.size]? = some (.cells (flatV [vX]).toArray 24 (0, 0))) ∧ ∃ P' : Ph, Hid (SR wr w4.heap.size P' (dS n j)) ∧ Hid (P'.sb = P.sb) ∧ Hid (¬ OwnB (rows P' (dS n j)) w5.heap.size)) (fun i _ => 100 - (intOf i).toNat)
    case atStart => exact ⟨0, by omega, rfl, HB6, HK6, P, HS6, Lib.hid rfl, HN6⟩
    case round =>
      obtain ⟨j, hj, rfl, HBL, HK, P', HS, HSB, HNO⟩ := hrel
      by_cases hlt : j < 100
      · have hba := bl_al (Below.refl wr.heap.size wr) (.cells #[.string ⟨#[120]⟩] 9)
        have HEN := Lib.hid (Enter_any (HS.out.later hba) [vX] [⟨#[120]⟩] (some ⟨w5.heap.size, 0, none⟩) (some ⟨wr.heap.size, 0, none⟩) 1 1 (rowV_blk (blk_bl HK.out hba) fldX) (rowS_one (heap_alloc_new wr _)) (by simp) (by simp))
        rw [dS_enter, if_neg (by omega), HSB.out] at HEN
        have hj1 : (j : Int) < 100 := by omega
        clear hba
        go_wp2_with fail
        refine HEN.out.mono ?_
        rintro e w7 ⟨rfl, P2, hst, hp2⟩
        have hlt5 := blk_lt HK.out
        have HS2 := Lib.hid hst.sr
        have HP2 := Lib.hid (hp2.trans rfl)
        have HK2 := Lib.hid (hst.st.chg.keep (blk_al HK.out (.cells #[.string ⟨#[120]⟩] 9)) HNO.out)
        have HN2 := Lib.hid (show ¬ OwnB (rows P2 (dS n (j + 1))) w5.heap.size from fun hb => by
          rcases hst.st.own _ hb with h | h
          · exact HNO.out h
          · simp at h; omega)
        have HB2 := Lib.hid (show Below w4.heap.size w4 w7 from (bl_al HBL.out _).trans (hst.st.chg.below (by have := HBL.out.size; simp; omega) fun b ⟨q, hq⟩ => (HS.out.rws.lt q b hq).1))
        clear hst hp2
        go_wp2_with fail
        go_roundw
        case rel => exact ⟨j + 1, by omega, by go_num, HB2, HK2, P2, HS2, HP2, HN2⟩
        case measure => simp [intOf]; omega
      · obtain rfl : j = 100 := by omega
        have hba := bl_al (Below.refl wr.heap.size wr) (.cells #[.string ⟨#[120]⟩] 9)
        have HEN := Lib.hid (Enter_any (HS.out.later hba) [vX] [⟨#[120]⟩] (some ⟨w5.heap.size, 0, none⟩) (some ⟨wr.heap.size, 0, none⟩) 1 1 (rowV_blk (blk_bl HK.out hba) fldX) (rowS_one (heap_alloc_new wr _)) (by simp) (by simp))
        rw [dS_enter, if_pos (by omega), HSB.out] at HEN
        obtain ⟨k, hk, hk1⟩ : ∃ k : Nat, n.tmod 100 = (k : Int) ∧ k < 100 := ⟨(n % 100).toNat, by rw [Int.tmod_eq_emod_of_nonneg hn.1]; omega, by omega⟩
        clear hba
        go_wp2_with fail
        refine HEN.out.mono ?_
        rintro e w7 ⟨rfl, P2, hst, hp2⟩
        have HS2 := Lib.hid (show SR w7 w4.heap.size P2 (dS n 100) from hst.sr)
        have HP2 := Lib.hid hp2
        have HB2 := Lib.hid (show Below w4.heap.size w4 w7 from (bl_al HBL.out _).trans (hst.st.chg.below (by have := HBL.out.size; simp; omega) fun b ⟨q, hq⟩ => (HS.out.rws.lt q b hq).1))
        have HDE := Lib.hid (Depth_any HS2.out)
        rw [show (dS n 100).calls.length = 100 by simp [dS], hp2] at HDE
        clear hst hp2
        go_wp2_with fail
        refine HDE.out.mono ?_
        rintro e w8 ⟨rfl, rfl⟩
        go_wp2_with fail
        go_loopw [8] (fun i wr => ∃ j : Nat, j ≤ k ∧ i = .int .i64 j ∧ Hid (Below w4.heap.size w4 wr) ∧ ∃ P' : Ph, Hid (SR wr w4.heap.size P' (dS n (100 - j))) ∧ Hid (P'.sb = P.sb)) (fun i _ => k - (intOf i).toNat)
        case atStart => exact ⟨0, by omega, rfl, HB2, P2, HS2, HP2⟩
        case round =>
          obtain ⟨j, hj, rfl, HBL, P3, HS3, HSB3⟩ := hrel
          by_cases hlt2 : j < k
          · have HLV := Lib.hid (Leave_any HS3.out)
            rw [show 100 - j = (100 - (j + 1)) + 1 by omega, dS_leave, HSB3.out] at HLV
            have hj1 : (j : Int) < (k : Int) := by omega
            go_wp2_with fail
            refine HLV.out.mono ?_
            rintro e w9 ⟨rfl, P4, hst, hp4⟩
            have HS4 := Lib.hid (show SR w9 w4.heap.size P4 (dS n (100 - (j + 1))) from hst.sr)
            have HP4 := Lib.hid hp4
            have HB4' := Lib.hid (show Below w4.heap.size w4 w9 from HBL.out.trans (hst.st.chg.below HBL.out.size fun b ⟨q, hq⟩ => by
              refine (HS3.out.rws.lt q b ?_).1
              rw [show 100 - j = (100 - (j + 1)) + 1 by omega]
              exact hq))
            clear hst hp4
            go_wp2_with fail
            go_roundw
            case rel => exact ⟨j + 1, by omega, by go_num, HB4', P4, HS4, HP4⟩
            case measure => simp [intOf]; omega
          · obtain rfl : j = k := by omega
            have HCE := Lib.hid (SCell_any HS3.out ⟨#[120]⟩)
            have HDE := Lib.hid (fun W' (hb : Below wr.heap.size wr W') => Depth_any (HS3.out.later hb))
            rw [show (dS n (100 - j)).calls.length = 100 - j by simp [dS], HSB3.out] at HDE
            rw [HSB3.out] at HCE
            have hj1 : ¬ (j : Int) < (j : Int) := by omega
            have hw1 : IntKind.i64.wrap (100 - (j : Int)) = 100 - (j : Int) := IntWalk.i64_in _ (by omega)
            have hcast : ((100 - j : Nat) : Int) = 100 - (j : Int) := by omega
            rw [hcast] at HDE
            go_wp2_with fail
            refine HCE.out.mono ?_
            rintro e w9 ⟨v9, l, b9, rfl, hlk, hl0, ho9, hf9, bw9⟩
            rw [dS_look] at hlk
            cases b9
            · cases hlk
            · injection hlk with hlk
              subst hlk
              obtain ⟨A9, c9, rfl, hc9, hr9⟩ := row_I (l := [n]) ho9 hf9
              have HB9 := Lib.hid bw9
              have HR9 := Lib.hid hr9
              clear ho9 bw9 hl0 hr9
              go_wp2_with fail
              refine (HDE.out _ HB9.out).mono ?_
              rintro e w10 ⟨rfl, rfl⟩
              go_wp2_with fail
              have hba := bl_al (Below.refl w10.heap.size w10) (.cells #[.int .i64 n] 3)
              have HIN := Lib.hid (Ints_any [n] [n] A9 (some ⟨w10.heap.size, 0, none⟩) c9 1 (w10.alloc (.cells #[.int .i64 n] 3)) (HR9.out.later hba) (rowI_blk (heap_alloc_new w10 _) (by intro x hx; simp at hx; subst hx; exact hnI)) (by simp) (by simp))
              have HBA := Lib.hid hba
              clear hba
              refine HIN.out.mono ?_
              rintro e w11 ⟨rfl, bw11⟩
              have HB11 := Lib.hid bw11
              clear bw11
              rw [show decide ([n] = [n]) = true by simp]
              go_wp2_with fail
              go_ret
              refine ⟨rfl, ?_⟩
              have t4 : Below w.heap.size w wr := HB4.out.trans (HBL.out.mono HB4.out.size)
              exact bl_tt (bl_tt (bl_tt t4 HB9.out) HBA.out) HB11.out

end Go.Proofs.Ytekjfbnggfbfhaa
