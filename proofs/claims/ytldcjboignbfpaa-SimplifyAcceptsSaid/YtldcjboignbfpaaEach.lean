/-
  The contract of simplify.each (with the function that simplify.simplified hands to it).
-/
import Derived.Test.YtldcjboignbfpaaBld
import Derived.Deep.RegionLaw
import Derived.Deep.DeepCutAuto
namespace Go.Proofs.Ytldcjboignbfpaa
open Go.RowKit

theorem build3 (k n : Int) (s : ByteArray) (w : World) : (Instr.build 24 #[(0, .int .u8 k), (1, .int .i64 n), (2, .string s)]).run Try.prog w = .ok (nv k n s none 0 0) w := by kernel_rfl

theorem fnSimp1 : IsFn Try.prog 62 Try.f62 := ⟨Try.func62, by kernel_rfl, by kernel_rfl⟩
/-- What a function on nodes does at one node. -/
def MapC (f : FuncId) (F : T → T) (t : T) : Prop := ∀ (v : Value) (w : World), NV w Any t v → Calls Try.prog f #[v] w (NewNode w (F t))

set_option maxHeartbeats 2000000 in
set_option maxRecDepth 100000 in
theorem each_any (t : T) (v : Value) (w : World) (hv : NV w Any t v) (F : T → T) (hF : ∀ kid ∈ t.ks, MapC 62 F kid) :
    Calls Try.prog 61 #[v, .func (.func 62) #[] #[]] w (NewNode w (.nd t.k t.n t.s (t.ks.map F))) := by
  obtain ⟨i0, hi0, hz0, hz1, hz2⟩ := info_parts nodeInfo
  obtain ⟨A, c, rfl, hf, hlk, hlc, hrow⟩ := hv.open_
  have hlk' := LK_int hlk
  have HF := Lib.hid hF
  clear hF hv
  generalize t.k = k, t.n = n, t.s = s, t.ks = ks at *
  have hbs := build1
  have hb3 := build3
  go_enter Try.func61, Try.ntmps61
  go_wp2_with fail
  go_loopw [18] (fun i wr => ∃ (j : Nat) (A' : Option Addr) (c' : Nat), j ≤ ks.length ∧ i = .int .i64 j ∧ j ≤ c' ∧ Bld w wr 24 k n s A ks.length c k n s (From (w.heap.size + 3)) (.slice A' j c') ((ks.take j).map F)) (fun i _ => ks.length - (intOf i).toNat)
  case atStart => exact ⟨0, none, 0, Nat.zero_le _, rfl, Nat.zero_le _, Bld.start w _ k n s A _ c k n s _ (fun b hb => .inr hb)⟩
  case round =>
    obtain ⟨j, A', c', hj, rfl, hjc, hs⟩ := hrel
    by_cases hlt : j < ks.length
    · obtain ⟨a, t, A1, c1, rfl, _, Ht, ⟨q0, q1, q2, q3⟩, hn⟩ := (hrow.later hs.below).nd hlt
      have hF1 := HF.out ks[j] (List.getElem_mem hlt)
      rw [Ht.out] at hF1
      have HF1 := Lib.hid hF1
      have g3 : wr.cell? ⟨w.heap.size + 1 + 1, 3, none⟩ = some (.slice A' j c') := cell_of_blk hs.box rfl
      have g3' := cell_al g3
      have hsz := hs.size
      have hlen1 : ((ks.take j).map F).length + 1 ≤ LK := by simp; exact Nat.le_trans (by omega) hlk
      clear hF1 hrow
      go_wp2_with fail
      go_region_law (first
        | (refine step_call1 (by rfl) (.tmp 24) (.tmp 25) _ (by rfl) 62 _ fnSimp1 (by rfl) _ (by rfl) _ (newV_of (HF1.out _ _ (hn.later ((Below.refl _ _).alloc (Nat.le_refl _) _).drew))) ?_; rintro v1 w1 ⟨k1, n1, s1, A2, l1, c2, rfl, hn1, hb1⟩; have hx := cell_bl hb1 (g3' _); have hx' := cell_al hx; have hs1 := hs.later (((Below.refl _ _).alloc (Nat.le_refl _) _).drew.trans (hb1.mono (by simp))))
        | (refine step_append_node (by rfl) (.tmp 23) (.tmp 27) 22 (by rfl) 24 i0 _ Try.underlying22 hi0 hz0 hz1 hz2 rfl (w.heap.size + 3) (From (w.heap.size + 3)) (.slice A' j c') _ (by rfl) hs1.own (F t) k1 n1 s1 A2 l1 c2 (by rfl) (hn1.mono (fresh_far hs.own hsz)) hlen1 hs1.size ?_; intro v2 w2 hown2 hg2 hob2; obtain ⟨A3, c3, hv3, hc3, _, _⟩ := hown2.row; have hst := hs1.put hown2 hg2; have hbx := (hg2.block _ (blk_lt hs1.box) (own_ne hs1.own)).trans hs1.box; have hy0 : w2.cell? ⟨w.heap.size + 1 + 1, 3, none⟩ = some (.slice A' j c') := cell_of_blk hbx rfl; have hy1 : w2.frozen? ⟨w.heap.size + 1 + 1, 3, none⟩ = false := frozen_of_blk hbx; rw [hv3] at hst; have HST := Lib.hid hst; have HC3 := Lib.hid hc3; clear hst hc3; rw [hv3]))
      all_goals
        have hst := HST.out
        have hc3 := HC3.out
        have e1 : ((ks.take j).map F ++ [F t]).length = j + 1 := by simp; omega
        have e2 : (ks.take j).map F ++ [F t] = (ks.take (j + 1)).map F := by rw [List.take_succ_eq_append_getElem hlt, Ht.out]; simp
        rw [e1] at hst hc3
        rw [e2] at hst
        have HX := Lib.hid hst
        clear e1 e2 hst
        go_wp2_with fail
        go_roundw
        case rel => exact ⟨j + 1, A3, c3, by omega, by go_num, hc3, HX.out⟩
        case measure => simp [intOf]; omega
    · obtain rfl : j = ks.length := by omega
      rw [List.take_of_length_le (by omega)] at hs
      have g0 : wr.cell? ⟨w.heap.size + 1 + 1, 0, none⟩ = some (.int .u8 k) := cell_of_blk hs.box rfl
      have g1 : wr.cell? ⟨w.heap.size + 1 + 1, 1, none⟩ = some (.int .i64 n) := cell_of_blk hs.box rfl
      have g2 : wr.cell? ⟨w.heap.size + 1 + 1, 2, none⟩ = some (.string s) := cell_of_blk hs.box rfl
      have g3 : wr.cell? ⟨w.heap.size + 1 + 1, 3, none⟩ = some (.slice A' ks.length c') := cell_of_blk hs.box rfl
      have r0 : wr.cell? ⟨w.heap.size + 1, 0, none⟩ = some (.int .u8 0) := cell_of_blk hs.res rfl
      have r1 : wr.cell? ⟨w.heap.size + 1, 1, none⟩ = some (.int .i64 0) := cell_of_blk hs.res rfl
      have r2 : wr.cell? ⟨w.heap.size + 1, 2, none⟩ = some (.string ⟨#[]⟩) := cell_of_blk hs.res rfl
      have r3 : wr.cell? ⟨w.heap.size + 1, 3, none⟩ = some (.slice none 0 0) := cell_of_blk hs.res rfl
      have rz : ∀ i, wr.frozen? ⟨w.heap.size + 1, i, none⟩ = false := fun i => frozen_of_blk hs.res
      have hr := hs.result hf rfl
      clear hrow
      go_wp2_with fail
      refine bodyPost_ret (v := nv k n s A' ks.length c') (by simp [results, Try.results61, go_sem, r0, r1, r2, r3]) rfl ⟨k, n, s, A', ks.length, c', rfl, hr.1.mono ?_, hr.2⟩
      intro b hb
      rcases hb with hb | hb
      · exact Nat.le_trans (by omega) hb
      · exact Nat.le_trans (by omega) hb
end Go.Proofs.Ytldcjboignbfpaa
