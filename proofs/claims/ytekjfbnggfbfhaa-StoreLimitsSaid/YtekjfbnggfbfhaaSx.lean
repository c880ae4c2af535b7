/-
  store: the contracts of Depth and Cell.
-/
import Derived.Test.YtekjfbnggfbfhaaTp
namespace Go.Proofs.Ytekjfbnggfbfhaa
open Go Go.RowKit

set_option maxHeartbeats 4000000 in
set_option maxRecDepth 100000 in
theorem Depth_any {W : World} {n0 : Nat} {P : Ph} {S : ST} (h : SR W n0 P S) : Calls Try.prog 18 #[.pointer (some ⟨P.sb, 0, none⟩)] W fun e w' => e = .returned (.int .i64 S.calls.length) ∧ w' = W := by
  obtain ⟨A, c, hvF, hc, -⟩ := h.calls
  have hx : W.cell? ⟨P.sb, 3, none⟩ = some (.slice A S.calls.length c) := by rw [← hvF]; exact cell_of_blk h.box rfl
  obtain ⟨L, hL⟩ : ∃ L, S.calls.length = L := ⟨_, rfl⟩
  rw [hL] at hx ⊢
  clear h hvF hc hL
  go_enter Try.func18, Try.ntmps18
  go_wp2_with fail
  go_ret
  exact ⟨rfl, rfl⟩

/-- What Cell hands back. -/
def CellP (W : World) (S : ST) (s : ByteArray) (e : Ending) (W' : World) : Prop := ∃ v l b, e = .returned (.tuple #[v, .bool b]) ∧ S.look s = (if b = true then some l else none) ∧ (b = false → l = []) ∧ W'.ownsRow W.heap.size 3 1 v l.length (flatI l) ∧ (∀ x ∈ l, I64 x) ∧ Below W.heap.size W W'

set_option maxHeartbeats 4000000 in
set_option maxRecDepth 100000 in
theorem SCell_any {W : World} {n0 : Nat} {P : Ph} {S : ST} (h : SR W n0 P S) (s : ByteArray) : Calls Try.prog 16 #[.pointer (some ⟨P.sb, 0, none⟩), .string s] W (CellP W S s) := by
  have HLK := Lib.hid (lookup_any h s)
  have HFT := Lib.hid ((lookC n0 P S h.wf).fits s)
  clear h
  go_enter Try.func16, Try.ntmps16
  go_wp2_with fail
  refine HLK.out.mono ?_
  rintro e w1 ⟨bw1, hr⟩
  have HB1 := Lib.hid bw1
  clear bw1
  rcases hr with ⟨hno, A, c, rfl⟩ | ⟨l, A, c, hso, rfl, hri⟩
  · have HNO := Lib.hid hno
    have HCL := Lib.hid (CloneI_own [] A c Any w1 (fun i hi => by simp at hi) (by simp [LI]))
    clear hno
    simp only [List.length_nil] at HCL
    go_wp2_with fail
    refine HCL.out.mono ?_
    rintro e w2 ⟨v2, rfl, ho2, hf2, bw2⟩
    obtain ⟨A2, c2, rfl, -⟩ := row_slice ho2
    have HO := Lib.hid ho2
    have HB2 := Lib.hid bw2
    clear ho2 bw2
    go_wp2_with fail
    go_ret2
    refine ⟨.slice A2 0 c2, [], false, rfl, HNO.out, fun _ => rfl, ?_, by simp, bl_tt HB1.out HB2.out⟩
    obtain ⟨x1, x2⟩ := HO.out
    refine ⟨x1, ?_⟩
    rcases x2 with x2 | ⟨g, cap, cur, y1, y2, y3⟩
    · exact .inl x2
    · exact .inr ⟨g, cap, cur, y1, by have := HB1.out.size; omega, y3⟩
  · have hll := HFT.out l hso
    have HSO := Lib.hid hso
    have HCL := Lib.hid (CloneI_own l A c Any w1 hri (by unfold LI; omega))
    clear hso hri
    go_wp2_with fail
    refine HCL.out.mono ?_
    rintro e w2 ⟨v2, rfl, ho2, hf2, bw2⟩
    obtain ⟨A2, c2, rfl, -⟩ := row_slice ho2
    have HO := Lib.hid ho2
    have HF2 := Lib.hid hf2
    have HB2 := Lib.hid bw2
    clear ho2 bw2 hf2
    go_wp2_with fail
    go_ret2
    refine ⟨.slice A2 l.length c2, l, true, rfl, HSO.out, (fun h => by cases h), ?_, HF2.out, bl_tt HB1.out HB2.out⟩
    obtain ⟨x1, x2⟩ := HO.out
    refine ⟨x1, ?_⟩
    rcases x2 with x2 | ⟨g, cap, cur, y1, y2, y3⟩
    · exact .inl x2
    · exact .inr ⟨g, cap, cur, y1, by have := HB1.out.size; omega, y3⟩

end Go.Proofs.Ytekjfbnggfbfhaa
