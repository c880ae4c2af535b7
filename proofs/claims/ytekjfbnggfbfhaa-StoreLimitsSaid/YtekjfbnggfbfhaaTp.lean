/-
  tape: the contracts of New, In, Out.
-/
import Derived.Test.YtekjfbnggfbfhaaSq
import Derived.Test.YtekjfbnggfbfhaaSs
namespace Go.Proofs.Ytekjfbnggfbfhaa
open Go Go.RowKit

theorem buildTp (a0 a1 : Value) (w : World) (h0 : ∃ A l c, a0 = .slice A l c) (h1 : ∃ A l c, a1 = .slice A l c) : (Instr.build 93 #[(0, a0), (1, a1)]).run Try.prog w = .ok (.agg #[a0, a1]) w := by
  obtain ⟨A, l, c, rfl⟩ := h0
  obtain ⟨A', l', c', rfl⟩ := h1
  kernel_rfl

set_option maxHeartbeats 4000000 in
set_option maxRecDepth 100000 in
theorem TNew_any (xs ys : List Int) (A B : Option Addr) (c d : Nat) (w : World) (hx : RowI w Any A xs) (hy : RowI w Any B ys) (hl : xs.length ≤ 4096) (hm : ys.length ≤ 4096) :
    Calls Try.prog 31 #[.slice A xs.length c, .slice B ys.length d] w fun e w' => ∃ tb vI vO, e = .returned (.tuple #[.pointer (some ⟨tb, 0, none⟩), .int .i64 0]) ∧ w.heap.size ≤ tb ∧ w'.heap[tb]? = some (.cells #[vI, vO] 93 (0, 0)) ∧
      w'.ownsRow w.heap.size 3 1 vI xs.length (flatI xs) ∧ w'.ownsRow w.heap.size 3 1 vO ys.length (flatI ys) ∧ vI.ownBlock ≠ some tb ∧ vO.ownBlock ≠ some tb ∧ (∀ b, vI.ownBlock = some b → vO.ownBlock ≠ some b) ∧ Below w.heap.size w w' := by
  have hxl : ¬ (4096 : Int) < (xs.length : Int) := by omega
  have hyl : ¬ (4096 : Int) < (ys.length : Int) := by omega
  have HX := Lib.hid (fun w' (hb : Below w.heap.size w w') => CloneI_own xs A c Any w' (hx.later hb) (by unfold LI; omega))
  have HY := Lib.hid (fun w' (hb : Below w.heap.size w w') => CloneI_own ys B d Any w' (hy.later hb) (by unfold LI; omega))
  obtain ⟨n, hn⟩ : ∃ n, xs.length = n := ⟨_, rfl⟩
  obtain ⟨m, hm'⟩ : ∃ m, ys.length = m := ⟨_, rfl⟩
  rw [hn, hm']
  rw [hn] at hxl HX
  rw [hm'] at hyl HY
  have HN := Lib.hid hn
  have HM := Lib.hid hm'
  clear hx hy hn hm' hl hm
  go_enter Try.func31, Try.ntmps31
  go_wp2_with fail
  refine (HX.out _ (Below.refl _ _)).mono ?_
  rintro e w1 ⟨v1, rfl, ho1, hf1, bw1⟩
  rw [HN.out] at ho1
  obtain ⟨A1, c1, rfl, -⟩ := row_slice ho1
  have HO1 := Lib.hid ho1
  have HB1 := Lib.hid bw1
  clear ho1 bw1
  go_wp2_with fail
  refine (HY.out _ HB1.out).mono ?_
  rintro e w2 ⟨v2, rfl, ho2, hf2, bw2⟩
  rw [HM.out] at ho2
  obtain ⟨A2, c2, rfl, -⟩ := row_slice ho2
  have HO2 := Lib.hid ho2
  have HB2 := Lib.hid bw2
  have hbt := fun w => buildTp (.slice A1 n c1) (.slice A2 m c2) w ⟨_, _, _, rfl⟩ ⟨_, _, _, rfl⟩
  clear ho2 bw2
  go_wp2_with fail
  go_ret2
  have h1 := own_later HO1.out HB2.out
  have hs1 := HB1.out.size
  have hs2 := HB2.out.size
  refine ⟨w2.heap.size, .slice A1 n c1, .slice A2 m c2, rfl, by omega, heap_alloc_new w2 _, ?_, ?_, fun e => ?_, fun e => ?_, fun b e1 e2 => ?_, bl_al (bl_tt HB1.out HB2.out) _⟩
  · exact h1.alloc _
  · obtain ⟨x1, x2⟩ := HO2.out.alloc (.cells #[.slice A1 n c1, .slice A2 m c2] 93)
    refine ⟨x1, ?_⟩
    rcases x2 with x2 | ⟨g, cap, cur, y1, y2, y3⟩
    · exact .inl x2
    · exact .inr ⟨g, cap, cur, y1, by omega, y3⟩
  · have := (h1.lt _ e).2; omega
  · have := (HO2.out.lt _ e).2; omega
  · have := (HO1.out.lt _ e1).2
    have := (HO2.out.lt _ e2).1
    omega

set_option maxHeartbeats 4000000 in
set_option maxRecDepth 100000 in
theorem TIn_any {W : World} {n0 : Nat} {P : Ph} {S : ST} (h : SR W n0 P S) : Calls Try.prog 44 #[.pointer (some ⟨P.tb, 0, none⟩)] W (OwnI W S.tin) := by
  obtain ⟨A, c, hv, hc, hr⟩ := row_I (h.rws.row .tin) h.wf.tin.2
  have hv' : P.vI = .slice A S.tin.length c := hv
  have x0 : W.cell? ⟨P.tb, 0, none⟩ = some (.slice A S.tin.length c) := by rw [← hv']; exact cell_of_blk h.tbox rfl
  have HC := Lib.hid (CloneI_own S.tin A c Any W hr (by have := h.wf.tin.1; unfold LI; omega))
  obtain ⟨n, hn⟩ : ∃ n, S.tin.length = n := ⟨_, rfl⟩
  rw [hn] at x0 HC
  clear h hv hv' hr hn hc
  go_enter Try.func44, Try.ntmps44
  go_wp2_with fail
  refine HC.out.mono ?_
  rintro e w1 ⟨v1, rfl, h1⟩
  have H1 := Lib.hid h1
  obtain ⟨A1, c1, rfl, -⟩ := row_slice h1.1
  clear h1
  go_wp2_with fail
  go_ret
  exact ⟨_, rfl, H1.out⟩

set_option maxHeartbeats 4000000 in
set_option maxRecDepth 100000 in
theorem TOut_any {W : World} {n0 : Nat} {P : Ph} {S : ST} (h : SR W n0 P S) : Calls Try.prog 45 #[.pointer (some ⟨P.tb, 0, none⟩)] W (OwnI W S.tout) := by
  obtain ⟨A, c, hv, hc, hr⟩ := row_I (h.rws.row .tout) h.wf.tout.2
  have hv' : P.vO = .slice A S.tout.length c := hv
  have x0 : W.cell? ⟨P.tb, 1, none⟩ = some (.slice A S.tout.length c) := by rw [← hv']; exact cell_of_blk h.tbox rfl
  have HC := Lib.hid (CloneI_own S.tout A c Any W hr (by have := h.wf.tout.1; unfold LI; omega))
  obtain ⟨n, hn⟩ : ∃ n, S.tout.length = n := ⟨_, rfl⟩
  rw [hn] at x0 HC
  clear h hv hv' hr hn hc
  go_enter Try.func45, Try.ntmps45
  go_wp2_with fail
  refine HC.out.mono ?_
  rintro e w1 ⟨v1, rfl, h1⟩
  have H1 := Lib.hid h1
  obtain ⟨A1, c1, rfl, -⟩ := row_slice h1.1
  clear h1
  go_wp2_with fail
  go_ret
  exact ⟨_, rfl, H1.out⟩

end Go.Proofs.Ytekjfbnggfbfhaa
