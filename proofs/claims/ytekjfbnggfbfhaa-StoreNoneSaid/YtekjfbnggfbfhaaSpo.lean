/-
  The laws of the store: a nil store; spoil.
-/
import Derived.Test.YtekjfbnggfbfhaaLo
namespace Go.Proofs.Ytekjfbnggfbfhaa
open Go Go.RowKit

set_option maxHeartbeats 1000000 in
theorem nil_Cell (s : ByteArray) (w : World) : Calls Try.prog 16 #[.pointer none, .string s] w fun e w' => e = .returned (.tuple #[.slice none 0 0, .bool false]) ∧ w' = w := by
  go_enter Try.func16, Try.ntmps16
  go_wp2_with fail
  go_ret2
  exact ⟨rfl, rfl⟩
set_option maxHeartbeats 1000000 in
theorem nil_Depth (w : World) : Calls Try.prog 18 #[.pointer none] w fun e w' => e = .returned (.int .i64 0) ∧ w' = w := by
  go_enter Try.func18, Try.ntmps18
  go_wp2_with fail
  go_ret
  exact ⟨rfl, rfl⟩
set_option maxHeartbeats 1000000 in
theorem nil_Leave (w : World) : Calls Try.prog 20 #[.pointer none] w fun e w' => e = .returned (.int .i64 1) ∧ w' = w := by
  go_enter Try.func20, Try.ntmps20
  go_wp2_with fail
  go_ret
  exact ⟨rfl, rfl⟩
set_option maxHeartbeats 1000000 in
theorem nil_Close (s : ByteArray) (x : Int) (w : World) : Calls Try.prog 23 #[.pointer none, .string s, .int .i64 x] w fun e w' => e = .returned (.int .i64 1) ∧ w' = w := by
  go_enter Try.func23, Try.ntmps23
  go_wp2_with fail
  go_ret
  exact ⟨rfl, rfl⟩
set_option maxHeartbeats 1000000 in
theorem nil_Enter (A D : Option Addr) (l c m d : Nat) (w : World) : Calls Try.prog 17 #[.pointer none, .slice A l c, .slice D m d] w fun e w' => e = .returned (.int .i64 1) ∧ w' = w := by
  go_enter Try.func17, Try.ntmps17
  go_wp2_with fail
  go_ret
  exact ⟨rfl, rfl⟩
set_option maxHeartbeats 1000000 in
theorem nil_Open (s : ByteArray) (k n x : Int) (w : World) : Calls Try.prog 22 #[.pointer none, .agg #[.string s, .int .u8 k, .int .i64 n], .int .i64 x] w fun e w' => e = .returned (.int .i64 1) ∧ Below w.heap.size w w' := by
  go_enter Try.func22, Try.ntmps22
  go_wp2_with fail
  go_ret
  exact ⟨rfl, bl_al (Below.refl _ _) _⟩
set_option maxHeartbeats 1000000 in
theorem nil_Do (k n : Int) (s : ByteArray) (A : Option Addr) (l c : Nat) (w : World) : Calls Try.prog 12 #[.pointer none, nv k n s A l c] w fun e w' => e = .returned (.int .i64 1) ∧ Below w.heap.size w w' := by
  go_enter Try.func12, Try.ntmps12
  go_wp2_with fail
  go_ret
  exact ⟨rfl, bl_al (Below.refl _ _) _⟩
set_option maxHeartbeats 1000000 in
theorem nil_Undo (k n : Int) (s : ByteArray) (A : Option Addr) (l c : Nat) (w : World) : Calls Try.prog 13 #[.pointer none, nv k n s A l c] w fun e w' => e = .returned (.int .i64 1) ∧ Below w.heap.size w w' := by
  have HIN := Lib.hid (fun w => inverse_any k w)
  go_enter Try.func13, Try.ntmps13
  go_wp2_with fail
  refine (HIN.out _).mono ?_
  rintro e w1 ⟨rfl, rfl⟩
  go_wp2_with fail
  refine (nil_Do _ _ _ _ _ _ _).mono ?_
  rintro e w6 ⟨rfl, hb⟩
  have HB := Lib.hid hb
  clear hb
  go_wp2_with fail
  go_ret
  exact ⟨rfl, bl_tt (bl_al (Below.refl _ _) _) HB.out⟩
theorem buildS0 (w : World) : (Instr.build 29 #[]).run Try.prog w = .ok (.agg #[.slice none 0 0, .slice none 0 0, .slice none 0 0]) w := by kernel_rfl
set_option maxHeartbeats 1000000 in
theorem nil_State (w : World) : Calls Try.prog 25 #[.pointer none] w fun e w' => e = .returned (.agg #[.slice none 0 0, .slice none 0 0, .slice none 0 0]) ∧ Below w.heap.size w w' := by
  have hb := buildS0
  go_enter Try.func25, Try.ntmps25
  go_wp2_with fail
  exact bodyPost_ret (v := .agg #[.slice none 0 0, .slice none 0 0, .slice none 0 0]) (by simp [results, Try.results25, go_sem]) rfl ⟨rfl, bl_al (Below.refl _ _) _⟩

/-- A state of its own whose numbers may have turned. -/
structure SpR (n0 : Nat) (d0 : SI → RowD) (W0 W : World) : Prop where
  ex : ∃ d, Rws W n0 d ∧ (∀ q, (d q).v = (d0 q).v ∧ (d q).n = (d0 q).n ∧ (d q).xs.length = (d0 q).xs.length) ∧ (d .all = d0 .all) ∧ ∀ q, q ≠ .all → ∀ u ∈ (d q).xs, ∃ n : Int, u = .int .i64 n
  chg : Chg (OwnB d0) W0 W
section
variable {n0 : Nat} {d0 : SI → RowD} {W0 W : World}
theorem SpR.new (h : Rws W n0 d0) (hi : ∀ q, q ≠ .all → ∀ u ∈ (d0 q).xs, ∃ n : Int, u = .int .i64 n) : SpR n0 d0 W W := ⟨⟨d0, h, fun _ => ⟨rfl, rfl, rfl⟩, rfl, hi⟩, Chg.refl _ _⟩
theorem SpR.read (h : SpR n0 d0 W0 W) {q : SI} (hq : q ≠ .all) {g o : Nat} (hg : (d0 q).v.ownBlock = some g) (ho : o < (d0 q).xs.length) : (∃ n : Int, W.cell? ⟨g, o, none⟩ = some (.int .i64 n)) ∧ W.frozen? ⟨g, o, none⟩ = false := by
  obtain ⟨d, h1, h2, -, h4⟩ := h.ex
  have hl : o < (d q).xs.length := by rw [(h2 q).2.2]; exact ho
  obtain ⟨n, hn⟩ := h4 q hq _ (List.getElem_mem hl)
  refine ⟨⟨n, h1.cell q (by rw [(h2 q).1]; exact hg) (by rw [List.getElem?_eq_getElem hl, hn])⟩, h1.frozen q (by rw [(h2 q).1]; exact hg) o⟩
theorem SpR.all (h : SpR n0 d0 W0 W) {g o : Nat} {u : Value} (hg : (d0 .all).v.ownBlock = some g) (ho : (d0 .all).xs[o]? = some u) : W.cell? ⟨g, o, none⟩ = some u := by
  obtain ⟨d, h1, h2, h3, -⟩ := h.ex
  exact h1.cell .all (by rw [(h2 .all).1]; exact hg) (by rw [h3]; exact ho)
theorem SpR.set (h : SpR n0 d0 W0 W) {q : SI} (hq : q ≠ .all) {g o : Nat} (hg : (d0 q).v.ownBlock = some g) (ho : o < (d0 q).xs.length) (y : Int) : SpR n0 d0 W0 (W.setCell ⟨g, o, none⟩ (.int .i64 y)) := by
  obtain ⟨d, h1, h2, h3, h4⟩ := h.ex
  have hg' : (d q).v.ownBlock = some g := by rw [(h2 q).1]; exact hg
  have hl : o < (d q).xs.length := by rw [(h2 q).2.2]; exact ho
  refine ⟨⟨_, h1.set q hg' hl (.int .i64 y), fun r => ?_, ?_, fun r hr u hu => ?_⟩, h.chg.setCell (.inl ⟨q, hg⟩) _⟩
  · by_cases e : r = q
    · subst e; rw [updR_same]; exact ⟨(h2 r).1, (h2 r).2.1, by simp [(h2 r).2.2]⟩
    · rw [updR_other e]; exact h2 r
  · rw [updR_other (Ne.symm hq)]; exact h3
  · by_cases e : r = q
    · subst e
      rw [updR_same] at hu
      rcases List.mem_or_eq_of_mem_set hu with hu | rfl
      · exact h4 r hr u hu
      · exact ⟨y, rfl⟩
    · rw [updR_other e] at hu; exact h4 r hr u hu
theorem SpR.drew (h : SpR n0 d0 W0 W) : SpR n0 d0 W0 W.drew := by
  obtain ⟨d, h1, h2⟩ := h.ex
  exact ⟨⟨d, h1.later (Below.refl _ _).drew, h2⟩, h.chg.drew⟩
end
theorem rowsS_ints (vc vi vo : Value) (fc : Nat → Value) (s : SS) : ∀ q, q ≠ .all → ∀ u ∈ (rowsS vc vi vo fc s q).xs, ∃ n : Int, u = .int .i64 n := by
  intro q hq u hu
  cases q with
  | all => exact absurd rfl hq
  | el i =>
    simp only [rowsS] at hu
    split at hu
    · simp only [flatI, List.mem_map] at hu; obtain ⟨n, _, rfl⟩ := hu; exact ⟨n, rfl⟩
    · simp [nilR] at hu
  | inp => simp only [rowsS, flatI, List.mem_map] at hu; obtain ⟨n, _, rfl⟩ := hu; exact ⟨n, rfl⟩
  | out => simp only [rowsS, flatI, List.mem_map] at hu; obtain ⟨n, _, rfl⟩ := hu; exact ⟨n, rfl⟩

set_option maxHeartbeats 4000000 in
set_option maxRecDepth 100000 in
theorem spoil_any {n0 : Nat} {vc vi vo : Value} {fc : Nat → Value} {s : SS} (y : Int) (w : World) (h : Rws w n0 (rowsS vc vi vo fc s)) (hl : s.Lim) : Calls Try.prog 28 #[.agg #[vc, vi, vo], .int .i64 y] w fun e w' => (∃ u, e = .returned u) ∧ Chg (OwnB (rowsS vc vi vo fc s)) w w' := by
  have HR := Lib.hid h
  have HL := Lib.hid hl
  have hk := heap_alloc_new w (.cells #[vc, vi, vo] 29)
  have HBA := Lib.hid (bl_al (Below.refl w.heap.size w) (.cells #[vc, vi, vo] 29))
  have HNO := Lib.hid (show ¬ OwnB (rowsS vc vi vo fc s) w.heap.size from fun ⟨q, hq⟩ => by have := (h.lt q _ hq).2; omega)
  have HSP := Lib.hid (SpR.new (h.later HBA.out) (rowsS_ints vc vi vo fc s))
  obtain ⟨A, c, hvv, -⟩ := row_slice (h.row .all)
  change vc = .slice A s.cells.length c at hvv
  obtain ⟨AI, cI, hvi, -⟩ := row_slice (h.row .inp)
  change vi = .slice AI s.tin.length cI at hvi
  obtain ⟨AO, cO, hvo, -⟩ := row_slice (h.row .out)
  change vo = .slice AO s.tout.length cO at hvo
  obtain ⟨k1, k2, k3, k4⟩ := hl
  unfold LI at k1 k3 k4
  have e0 : (.agg #[vc, vi, vo] : Value) = .agg #[.slice A s.cells.length c, .slice AI s.tin.length cI, .slice AO s.tout.length cO] := by rw [hvv, hvi, hvo]
  rw [e0]
  rw [show (#[vc, vi, vo] : Array Value) = #[.slice A s.cells.length c, .slice AI s.tin.length cI, .slice AO s.tout.length cO] by rw [hvv, hvi, hvo]] at hk HBA HSP
  have HVC := Lib.hid hvv
  have HVI := Lib.hid hvi
  have HVO := Lib.hid hvo
  have HK := Lib.hid hk
  clear h hk e0 hvv hvi hvo k2
  go_enter Try.func28, Try.ntmps28
  go_wp2_with fail
  obtain ⟨W1, hW1⟩ : ∃ x, w.alloc (.cells #[.slice A s.cells.length c, .slice AI s.tin.length cI, .slice AO s.tout.length cO] 29) = x := ⟨_, rfl⟩
  rw [hW1] at HSP HK HBA ⊢
  have hw1 : w.heap.size < W1.heap.size := by rw [← hW1]; simp
  clear hW1
  go_loopw [4] (fun i wr => ∃ j : Nat, j ≤ s.cells.length ∧ i = .int .i64 j ∧ Hid (SpR n0 (rowsS vc vi vo fc s) W1 wr)) (fun i _ => s.cells.length - (intOf i).toNat)
  case atStart => exact ⟨0, Nat.zero_le _, rfl, HSP⟩
  case round =>
    clear HSP
    obtain ⟨i, hi, rfl, HSP⟩ := hrel
    obtain ⟨x0, x1, x2⟩ := box3o (HSP.out.chg.keep HK.out HNO.out)
    by_cases hlt : i < s.cells.length
    · have hj1 : (i : Int) < (s.cells.length : Int) := by omega
      have hj0 : (0 : Int) ≤ (i : Int) := by omega
      obtain ⟨ga, ca, hga, -, -, -⟩ := row_some (HR.out.row .all) (show 0 < s.cells.length by omega)
      change vc = .slice (some ⟨ga, 0, none⟩) s.cells.length ca at hga
      have hA : A = some ⟨ga, 0, none⟩ := by have := HVC.out; rw [hga] at this; injection this with this; exact this.symm
      subst hA
      have hri := HR.out.row (.el i)
      obtain ⟨l, hll⟩ : ∃ l, s.cells[i] = l := ⟨_, rfl⟩
      have hll2 : l.length ≤ LI := by rw [← hll]; exact HL.out.2.1 _ (List.getElem_mem hlt)
      unfold LI at hll2
      have hel : rowsS vc vi vo fc s (.el i) = ⟨fc i, 3, 1, l.length, flatI l⟩ := by simp [rowsS, hlt, hll]
      rw [hel] at hri
      obtain ⟨Ai, cI2, hvi2, -⟩ := row_slice hri
      change fc i = .slice Ai l.length cI2 at hvi2
      have HFC := Lib.hid hvi2
      have HEL := Lib.hid hel
      have HRI := Lib.hid hri
      have hall : ∀ wr, SpR n0 (rowsS vc vi vo fc s) W1 wr → wr.cell? ⟨ga, i, none⟩ = some (.slice Ai l.length cI2) := fun wr hsp => by
        refine hsp.all (g := ga) (by show vc.ownBlock = _; rw [hga]; rfl) ?_
        simp [rowsS, hlt, hvi2]
      have HALL := Lib.hid hall
      clear hall hga hri hel hvi2 hll
      go_wp2_with fail
      clear x0 x1 x2
      go_loopw [5] (fun k wr => ∃ j : Nat, j ≤ l.length ∧ k = .int .i64 j ∧ Hid (SpR n0 (rowsS vc vi vo fc s) W1 wr)) (fun k _ => l.length - (intOf k).toNat)
      case atStart => exact ⟨0, Nat.zero_le _, rfl, HSP⟩
      case round =>
        clear HSP
        obtain ⟨j, hj, rfl, HSP⟩ := hrel
        obtain ⟨x0, x1, x2⟩ := box3o (HSP.out.chg.keep HK.out HNO.out)
        have z0 := HALL.out _ HSP.out
        by_cases hlt2 : j < l.length
        · have hk1 : (j : Int) < (l.length : Int) := by omega
          have hk0 : (0 : Int) ≤ (j : Int) := by omega
          obtain ⟨g, c2, hvv, -, -, -⟩ := row_some HRI.out (show 0 < l.length by omega)
          change fc i = _ at hvv
          have hAi : Ai = some ⟨g, 0, none⟩ := by have := HFC.out; rw [hvv] at this; injection this with this; exact this.symm
          subst hAi
          have hgb : (rowsS vc vi vo fc s (.el i)).v.ownBlock = some g := by rw [HEL.out]; show (fc i).ownBlock = _; rw [hvv]; rfl
          obtain ⟨⟨n, hn⟩, hfz⟩ := HSP.out.read (q := .el i) (by simp) hgb (o := j) (by rw [HEL.out]; simpa [flatI] using hlt2)
          have HSN := Lib.hid (fun x => HSP.out.set (q := .el i) (by simp) hgb (o := j) (by rw [HEL.out]; simpa [flatI] using hlt2) x)
          clear hgb hvv
          go_wp2_with fail
          exact ⟨⟨j + 1, by omega, by go_num, Lib.hid (HSN.out _)⟩, by simp [intOf]; omega⟩
        · obtain rfl : j = l.length := by omega
          have hk1 : ¬ (l.length : Int) < (l.length : Int) := by omega
          go_wp2_with fail
          exact ⟨⟨i + 1, by omega, by go_num, HSP⟩, by simp [intOf]; omega⟩
    · obtain rfl : i = s.cells.length := by omega
      have hj1 : ¬ (s.cells.length : Int) < (s.cells.length : Int) := by omega
      go_wp2_with fail
      clear x0 x1 x2
      go_loopw [6] (fun k wr => ∃ j : Nat, j ≤ s.tin.length ∧ k = .int .i64 j ∧ Hid (SpR n0 (rowsS vc vi vo fc s) W1 wr)) (fun k _ => s.tin.length - (intOf k).toNat)
      case atStart => exact ⟨0, Nat.zero_le _, rfl, HSP⟩
      case round =>
        clear HSP
        obtain ⟨j, hj, rfl, HSP⟩ := hrel
        obtain ⟨x0, x1, x2⟩ := box3o (HSP.out.chg.keep HK.out HNO.out)
        by_cases hlt2 : j < s.tin.length
        · have hk1 : (j : Int) < (s.tin.length : Int) := by omega
          have hk0 : (0 : Int) ≤ (j : Int) := by omega
          obtain ⟨g, c2, hvv, -, -, -⟩ := row_some (HR.out.row .inp) (show 0 < s.tin.length by omega)
          change vi = .slice (some ⟨g, 0, none⟩) s.tin.length c2 at hvv
          have hAi : AI = some ⟨g, 0, none⟩ := by have := HVI.out; rw [hvv] at this; injection this with this; exact this.symm
          subst hAi
          have hgb : (rowsS vc vi vo fc s .inp).v.ownBlock = some g := by show vi.ownBlock = _; rw [hvv]; rfl
          obtain ⟨⟨n, hn⟩, hfz⟩ := HSP.out.read (q := .inp) (by simp) hgb (o := j) (by simpa [rowsS, flatI] using hlt2)
          have HSN := Lib.hid (fun x => HSP.out.set (q := .inp) (by simp) hgb (o := j) (by simpa [rowsS, flatI] using hlt2) x)
          clear hgb hvv
          go_wp2_with fail
          exact ⟨⟨j + 1, by omega, by go_num, Lib.hid (HSN.out _)⟩, by simp [intOf]; omega⟩
        · obtain rfl : j = s.tin.length := by omega
          have hk1 : ¬ (s.tin.length : Int) < (s.tin.length : Int) := by omega
          go_wp2_with fail
          clear x0 x1 x2
          go_loopw [7] (fun k wr => ∃ j : Nat, j ≤ s.tout.length ∧ k = .int .i64 j ∧ Hid (SpR n0 (rowsS vc vi vo fc s) W1 wr)) (fun k _ => s.tout.length - (intOf k).toNat)
          case atStart => exact ⟨0, Nat.zero_le _, rfl, HSP⟩
          case round =>
            clear HSP
            obtain ⟨j, hj, rfl, HSP⟩ := hrel
            obtain ⟨x0, x1, x2⟩ := box3o (HSP.out.chg.keep HK.out HNO.out)
            by_cases hlt2 : j < s.tout.length
            · have hk1 : (j : Int) < (s.tout.length : Int) := by omega
              have hk0 : (0 : Int) ≤ (j : Int) := by omega
              obtain ⟨g, c2, hvv, -, -, -⟩ := row_some (HR.out.row .out) (show 0 < s.tout.length by omega)
              change vo = .slice (some ⟨g, 0, none⟩) s.tout.length c2 at hvv
              have hAi : AO = some ⟨g, 0, none⟩ := by have := HVO.out; rw [hvv] at this; injection this with this; exact this.symm
              subst hAi
              have hgb : (rowsS vc vi vo fc s .out).v.ownBlock = some g := by show vo.ownBlock = _; rw [hvv]; rfl
              obtain ⟨⟨n, hn⟩, hfz⟩ := HSP.out.read (q := .out) (by simp) hgb (o := j) (by simpa [rowsS, flatI] using hlt2)
              have HSN := Lib.hid (fun x => HSP.out.set (q := .out) (by simp) hgb (o := j) (by simpa [rowsS, flatI] using hlt2) x)
              clear hgb hvv
              go_wp2_with fail
              exact ⟨⟨j + 1, by omega, by go_num, Lib.hid (HSN.out _)⟩, by simp [intOf]; omega⟩
            · obtain rfl : j = s.tout.length := by omega
              have hk1 : ¬ (s.tout.length : Int) < (s.tout.length : Int) := by omega
              go_wp2_with fail
              go_end0
              exact ⟨⟨_, rfl⟩, (Chg.of_below HBA.out).trans2 HSP.out.chg fun _ _ h => h⟩

theorem KS.chg {w W W' : World} {n0 sb : Nat} {kb C : Nat → Prop} {S : ST} (h : KS w n0 sb kb W S) (hc : Chg C W W') (hC : ∀ b, b < W.heap.size → C b → w.heap.size ≤ b ∧ (b < n0 ∨ kb b)) : KS w n0 sb kb W' S := by
  obtain ⟨P, hs, e, hk⟩ := h.sr
  have hno : ∀ b, OwnB (rows P S) b → ¬ C b := fun b ho hcb => by
    obtain ⟨-, h2⟩ := hC b (hs.own_lt ho).2 hcb
    rcases h2 with h2 | h2
    · have := (hs.own_lt ho).1; omega
    · exact (hk b h2).2 ho
  refine ⟨?_, h.hn, P, ⟨hs.rws.chg hc fun i b hb => hno b ⟨i, hb⟩, hs.wf⟩, e, fun b hb => ⟨Nat.lt_of_lt_of_le (hk b hb).1 hc.size, (hk b hb).2⟩⟩
  exact ⟨hc.os.trans h.bl.os, hc.tape.trans h.bl.tape, hc.output.trans h.bl.output, Nat.le_trans h.bl.size hc.size, fun b hb => by
    rw [hc.block b (Nat.lt_of_lt_of_le hb h.bl.size) fun hcb => by have := (hC b (Nat.lt_of_lt_of_le hb h.bl.size) hcb).1; omega]
    exact h.bl.block b hb⟩
/-- One row of integers, as a family. -/
def oneR (v : Value) (l : List Int) : SI → RowD
  | .inp => ⟨v, 3, 1, l.length, flatI l⟩
  | _ => nilR
theorem oneR_rws {W : World} {n0 : Nat} {v : Value} {l : List Int} (h : W.ownsRow n0 3 1 v l.length (flatI l)) : Rws W n0 (oneR v l) := by
  refine ⟨fun i => ?_, fun i j b hij hi hj => ?_⟩
  · cases i with
    | inp => exact h
    | all => exact ownsRow_nilR _ _
    | el i => exact ownsRow_nilR _ _
    | out => exact ownsRow_nilR _ _
  · cases i with
    | inp => cases j with
      | inp => exact hij rfl
      | all => simp [oneR, nilR, Value.ownBlock] at hj
      | el j => simp [oneR, nilR, Value.ownBlock] at hj
      | out => simp [oneR, nilR, Value.ownBlock] at hj
    | all => simp [oneR, nilR, Value.ownBlock] at hi
    | el i => simp [oneR, nilR, Value.ownBlock] at hi
    | out => simp [oneR, nilR, Value.ownBlock] at hi
theorem oneR_ints (v : Value) (l : List Int) : ∀ q, q ≠ .all → ∀ u ∈ (oneR v l q).xs, ∃ n : Int, u = .int .i64 n := by
  intro q _ u hu
  cases q with
  | inp => simp only [oneR, flatI, List.mem_map] at hu; obtain ⟨n, _, rfl⟩ := hu; exact ⟨n, rfl⟩
  | all => simp [oneR, nilR] at hu
  | el i => simp [oneR, nilR] at hu
  | out => simp [oneR, nilR] at hu
theorem bVD0 (w : World) : (Instr.build 24 #[]).run Try.prog w = .ok (.agg #[.string ⟨#[]⟩, .int .u8 0, .int .i64 0]) w := by kernel_rfl

end Go.Proofs.Ytekjfbnggfbfhaa
