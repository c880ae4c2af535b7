/-
  The contract of ast.Clone.
-/
import Derived.Test.YtldcjboignbfpaaAst
import Derived.Test.YtldcjboignbfpaaOwn
namespace Go.Proofs.Ytldcjboignbfpaa
open Go.RowKit

theorem nodeInfo : (Try.prog.info? 24).map (fun i => (i.zero, i.size, i.bytes)) = some (some (.agg #[.int .u8 0, .int .i64 0, .string ⟨#[]⟩, .slice none 0 0]), 4, 56) := by kernel_rfl

theorem build1 (u0 u1 u2 u3 : Value) (w : World) : (Instr.buildSlice 22 1 #[(0, .agg #[u0, u1, u2, u3])]).run Try.prog w = .ok (.slice (some ⟨w.heap.size, 0, none⟩) 1 1) (w.alloc (.cells #[u0, u1, u2, u3] 24)) := by kernel_rfl

/-- A call hands back a node that reads as t, in memory of its own. -/
def NewNode (w : World) (t : T) (e : Ending) (w' : World) : Prop := ∃ k n s A l c, e = .returned (nv k n s A l c) ∧ NV w' (From w.heap.size) t (nv k n s A l c) ∧ Below w.heap.size w w'

set_option maxHeartbeats 1000000 in
theorem Clone_any (t : T) : ∀ (v : Value) (w : World), NV w Any t v → Calls Try.prog 21 #[v] w (NewNode w t) := by
  obtain ⟨i0, hi0, hz0, hz1, hz2⟩ := info_parts nodeInfo
  induction t using T.ind with
  | _ k n s ks ih =>
  intro v w hv
  obtain ⟨A, c, rfl, hf, hlk, hlc, hrow⟩ := hv.open_
  simp only [T.k_nd, T.n_nd, T.s_nd, T.ks_nd] at *
  have hlk' := LK_int hlk
  generalize hlen : ks.length = l at *
  have HL := Lib.hid hlen
  clear hlen hv
  have hbs := build1
  go_enter Try.func21, Try.ntmps21
  go_wp2
  go_loopw [3, 9] (fun x i wr => ∃ j : Nat, j ≤ l ∧ i = .int .i64 j ∧ OwnN wr (w.heap.size + 2) 24 (From (w.heap.size + 2)) x (ks.take j) ∧
      Below (w.heap.size + 2) ((w.alloc (.cells #[.int .u8 k, .int .i64 n, .string s, .slice A l c] 24)).alloc (.cells #[.int .u8 0, .int .i64 0, .string ⟨#[]⟩, .slice none 0 0] 24)) wr) (fun _ i _ => l - (intOf i).toNat)
  case atStart => exact ⟨0, Nat.zero_le _, rfl, OwnN.nil _ _ _ _, Below.refl _ _⟩
  case round =>
    obtain ⟨j, hj, rfl, hown, hb⟩ := hrel
    have hb0 : Below w.heap.size w wr := (((Below.refl _ _).alloc (Nat.le_refl _) _).alloc (by simp) _).trans (hb.mono (by omega))
    have hsz : w.heap.size + 2 ≤ wr.heap.size := by have := hb.size; simpa using this
    by_cases hlt : j < l
    · have hi : j < ks.length := by rw [HL.out]; exact hlt
      obtain ⟨a, t, A', c', rfl, _, Ht, c0, c1, c2, c3, hn⟩ := (hrow.later hb0).get hi
      have ih1 := Lib.hid (ih ks[j] (List.getElem_mem hi))
      rw [Ht.out] at ih1
      clear ih hrow
      go_wp2_with fail
      refine (ih1.out _ _ ?_).mono ?_
      · exact hn.later ((Below.refl _ _).alloc (Nat.le_refl _) _)
      rintro e w1 ⟨k1, n1, s1, A1, l1, c1', rfl, hn1, hb1⟩
      have hb2 : Below wr.heap.size wr w1 := ((Below.refl _ _).alloc (Nat.le_refl _) _).trans (hb1.mono (by simp))
      have hb3 := hb.trans (hb2.mono hsz)
      have hown1 := hown.later hb2
      have hA : NV w1 (fun b => From (w.heap.size + 2) b ∧ some b ≠ u3.ownBlock) t (nv k1 n1 s1 A1 l1 c1') := hn1.mono fun b hb => by
        have hb' : wr.heap.size + 1 ≤ b := by simpa using hb
        refine ⟨by show w.heap.size + 2 ≤ b; omega, fun e => ?_⟩
        have := (hown.block b e.symm).2
        omega
      have hlen1 : (ks.take j).length + 1 ≤ LK := by rw [List.length_take]; exact Nat.le_trans (by omega) hlk
      have hbase : w.heap.size + 2 ≤ w1.heap.size := Nat.le_trans hsz hb2.size
      have htk : ks.take (j + 1) = ks.take j ++ [t] := by rw [List.take_succ_eq_append_getElem hi, Ht.out]
      have HT := Lib.hid htk
      have hblk := hown.block
      have HB := Lib.hid hblk
      clear htk hown hb1 hblk
      go_wp2_with (at_builtin; refine wpList_append_node rfl (.tmp 13) (.tmp 16) 22 rfl 24 i0 _ Try.underlying22 hi0 hz0 hz1 hz2 rfl (w.heap.size + 2) (From (w.heap.size + 2)) u3 _ rfl hown1 t k1 n1 s1 A1 l1 c1' rfl hA hlen1 hbase ?_; intro v' w' hown' hg' hob')
      go_roundw
      case rel => exact ⟨j + 1, by omega, by go_num, by rw [HT.out]; exact hown', hb3.grown hg' hbase (fun g hg => (HB.out g hg).1)⟩
      case measure => simp [intOf]; omega
    · have hj' : j = l := by omega
      subst hj'
      have hl : ks.length = j := HL.out
      rw [List.take_of_length_le (by omega)] at hown
      obtain ⟨A2, c2, hv2, hc2, hr2, ha2⟩ := hown.row
      rw [hl] at hv2
      have HR := Lib.hid (hr2.mono (S' := From (w.heap.size + 2)) fun b hb => by
        rcases hb with hb | hb
        · exact hb
        · exact (hown.block b hb).1)
      have HC := Lib.hid hc2
      have HF := Lib.hid hf
      subst hv2
      clear ha2 hr2 hown hc2 hl ih hrow hf
      have g0 : wr.cell? ⟨w.heap.size, 0, none⟩ = some (.int .u8 k) := (hb.cell (p := ⟨w.heap.size, 0, none⟩) (by simp)).trans (by simp)
      have g1 : wr.cell? ⟨w.heap.size, 1, none⟩ = some (.int .i64 n) := (hb.cell (p := ⟨w.heap.size, 1, none⟩) (by simp)).trans (by simp)
      have g2 : wr.cell? ⟨w.heap.size, 2, none⟩ = some (.string s) := (hb.cell (p := ⟨w.heap.size, 2, none⟩) (by simp)).trans (by simp)
      have g3 : wr.cell? ⟨w.heap.size, 3, none⟩ = some (.slice A j c) := (hb.cell (p := ⟨w.heap.size, 3, none⟩) (by simp)).trans (by simp)
      have f3 : wr.frozen? ⟨w.heap.size, 3, none⟩ = false := (hb.frozen (p := ⟨w.heap.size, 3, none⟩) (by simp)).trans (by simp)
      have r0 : wr.cell? ⟨w.heap.size + 1, 0, none⟩ = some (.int .u8 0) := (hb.cell (p := ⟨w.heap.size + 1, 0, none⟩) (by simp)).trans (by simp)
      have r1 : wr.cell? ⟨w.heap.size + 1, 1, none⟩ = some (.int .i64 0) := (hb.cell (p := ⟨w.heap.size + 1, 1, none⟩) (by simp)).trans (by simp)
      have r2 : wr.cell? ⟨w.heap.size + 1, 2, none⟩ = some (.string ⟨#[]⟩) := (hb.cell (p := ⟨w.heap.size + 1, 2, none⟩) (by simp)).trans (by simp)
      have r3 : wr.cell? ⟨w.heap.size + 1, 3, none⟩ = some (.slice none 0 0) := (hb.cell (p := ⟨w.heap.size + 1, 3, none⟩) (by simp)).trans (by simp)
      have q0 : wr.frozen? ⟨w.heap.size + 1, 0, none⟩ = false := (hb.frozen (p := ⟨w.heap.size + 1, 0, none⟩) (by simp)).trans (by simp)
      have q1 : wr.frozen? ⟨w.heap.size + 1, 1, none⟩ = false := (hb.frozen (p := ⟨w.heap.size + 1, 1, none⟩) (by simp)).trans (by simp)
      have q2 : wr.frozen? ⟨w.heap.size + 1, 2, none⟩ = false := (hb.frozen (p := ⟨w.heap.size + 1, 2, none⟩) (by simp)).trans (by simp)
      have q3 : wr.frozen? ⟨w.heap.size + 1, 3, none⟩ = false := (hb.frozen (p := ⟨w.heap.size + 1, 3, none⟩) (by simp)).trans (by simp)
      go_wp2_with fail
      refine bodyPost_ret (v := nv k n s A2 j c2) (by simp [results, Try.results21, go_sem, r0, r1, r2, r3]) rfl ⟨k, n, s, A2, j, c2, rfl, ?_, ?_⟩
      · rw [← HL.out]
        refine NV.shut HF.out (by rw [HL.out]; exact hlk) HC.out (HR.out.keep (fun b hb _ => Nat.le_trans (Nat.le_add_right _ 2) hb) fun b hb _ => ?_)
        have hb' : w.heap.size + 2 ≤ b := hb
        rw [Below.heap_setCell _ _ _ _ (by simp; omega), Below.heap_setCell _ _ _ _ (by simp; omega), Below.heap_setCell _ _ _ _ (by simp; omega), Below.heap_setCell _ _ _ _ (by simp; omega), Below.heap_setCell _ _ _ _ (by simp; omega)]
      · exact ((((hb0.setCell (by simp) _).setCell (by simp) _).setCell (by simp) _).setCell (by simp) _).setCell (by simp) _
end Go.Proofs.Ytldcjboignbfpaa
