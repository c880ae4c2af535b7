/-
  The store in memory: what its cells read as; the contracts of current, find, lookup, cell.
-/
import Derived.Test.YtekjfbnggfbfhaaSr
import Derived.Test.YtekjfbnggfbfhaaScf
import Derived.Test.YtekjfbnggfbfhaaEv
import Derived.Deep.RegionHeld3
import Derived.Deep.DeepCutAuto
namespace Go.Proofs.Ytekjfbnggfbfhaa
open Go Go.RowKit

theorem box_row {W : World} {n0 b k : Nat} {E : TypeId} {xs : List Value} (h : W.ownsRow n0 E k (boxV b) 1 xs) : W.heap[b]? = some (.cells xs.toArray E (0, 0)) := by
  rcases h.2 with ⟨h1, _⟩ | ⟨g, cap, cur, hv, _, hg, hn, _, hz, hx⟩
  · cases h1
  · injection hv with e1 e2 e3
    injection e1 with e1
    injection e1 with e1
    subst e1 e3
    have : cur = xs.toArray := by
      rw [List.take_of_length_le (by simp; omega)] at hx
      rw [← hx]
    rw [this] at hg
    exact hg
theorem row_slice {W : World} {n0 sz n : Nat} {E : TypeId} {v : Value} {xs : List Value} (h : W.ownsRow n0 E sz v n xs) : ∃ A c, v = .slice A n c ∧ n ≤ c ∧ c ≤ maxLen := by
  rcases h.2 with ⟨rfl, rfl⟩ | ⟨g, cap, cur, rfl, _, _, hn, hm, _⟩
  · exact ⟨none, 0, rfl, Nat.le_refl _, Nat.zero_le _⟩
  · exact ⟨_, _, rfl, hn, hm⟩
theorem row_some {W : World} {n0 sz n : Nat} {E : TypeId} {v : Value} {xs : List Value} (h : W.ownsRow n0 E sz v n xs) (hn : 0 < n) : ∃ g c, v = .slice (some ⟨g, 0, none⟩) n c ∧ n ≤ c ∧ c ≤ maxLen ∧ ∀ j, j < n * sz → W.cell? ⟨g, j, none⟩ = xs[j]? := by
  rcases h.2 with ⟨rfl, rfl⟩ | ⟨g, cap, cur, rfl, _, _, hc, hm, _⟩
  · omega
  · exact ⟨g, cap, rfl, hc, hm, fun j hj => h.cellAt j hj⟩
theorem row_V {W : World} {n0 : Nat} {E : TypeId} {v : Value} {vs : List VD} (h : W.ownsRow n0 E 3 v vs.length (flatV vs)) (hf : ∀ v ∈ vs, FldV v) : ∃ A c, v = .slice A vs.length c ∧ vs.length ≤ c ∧ RowV W Any A vs := by
  rcases Nat.eq_zero_or_pos vs.length with h0 | h0
  · obtain ⟨A, c, rfl, hc, _⟩ := row_slice h
    exact ⟨A, c, rfl, hc, fun i hi => by omega⟩
  · obtain ⟨g, c, rfl, hc, _, hcell⟩ := row_some h h0
    refine ⟨_, c, rfl, hc, fun i hi => ⟨_, rfl, trivial, ?_, hf _ (List.getElem_mem hi)⟩⟩
    have ha : (⟨g, 0, none⟩ : Addr).add (i * 3) = ⟨g, i * 3, none⟩ := by unfold Addr.add; split <;> simp_all
    obtain ⟨h1, h2, h3⟩ := flatV_get vs i hi
    rw [ha]
    exact ⟨(hcell (i * 3) (by omega)).trans h1, (hcell (i * 3 + 1) (by omega)).trans h2, (hcell (i * 3 + 2) (by omega)).trans h3⟩
theorem row_I {W : World} {n0 : Nat} {E : TypeId} {v : Value} {l : List Int} (h : W.ownsRow n0 E 1 v l.length (flatI l)) (hf : ∀ x ∈ l, I64 x) : ∃ A c, v = .slice A l.length c ∧ l.length ≤ c ∧ RowI W Any A l := by
  obtain ⟨A, c, e, hc, hr⟩ := ownsRow_rowI (xs := l) h hf
  exact ⟨A, c, e, hc, hr.any⟩

/-- The block of the frames that were entered. -/
def Ph.gF (P : Ph) : Nat := P.vF.ownBlock.getD 0
/-- The current frame: where it lies, its slices. -/
def curP (P : Ph) (S : ST) : Addr := if S.calls.length = 0 then ⟨P.sb, 0, none⟩ else ⟨P.gF, (S.calls.length - 1) * 3, none⟩
def curV (P : Ph) (S : ST) : Value := if S.calls.length = 0 then P.vV else P.fV (S.calls.length - 1)
def curC (P : Ph) (S : ST) : Value := if S.calls.length = 0 then P.vC else P.fC (S.calls.length - 1)
theorem cur_0 {S : ST} (h : S.calls.length = 0) : S.cur = S.base := by
  have : S.calls = [] := List.length_eq_zero_iff.1 h
  simp [ST.cur, this]
theorem cur_1 {S : ST} (h : 0 < S.calls.length) : S.cur = S.calls[S.calls.length - 1] := by
  unfold ST.cur
  rw [List.getLast?_eq_getElem?, List.getElem?_eq_getElem (by omega)]
  rfl

section
variable {W W' : World} {n0 : Nat} {P : Ph} {S : ST}
theorem SR.later (h : SR W n0 P S) (hb : Below W.heap.size W W') : SR W' n0 P S := ⟨h.rws.later hb, h.wf⟩
theorem SR.box (h : SR W n0 P S) : W.heap[P.sb]? = some (.cells #[P.vV, P.vC, .int .i64 S.base.loc, P.vF, .pointer (some ⟨P.tb, 0, none⟩)] 77 (0, 0)) := box_row (h.rws.row .sb)
theorem SR.tbox (h : SR W n0 P S) : W.heap[P.tb]? = some (.cells #[P.vI, P.vO] 93 (0, 0)) := box_row (h.rws.row .tb)
theorem SR.cbox (h : SR W n0 P S) {i : Nat} (hi : i < S.nc) : W.heap[P.cb i]? = some (.cells #[P.ci i] 82 (0, 0)) := by
  have := h.rws.row (.cb i)
  simp only [rows, hi, if_true] at this
  exact box_row this
theorem SR.items (h : SR W n0 P S) {i : Nat} (hi : i < S.nc) : ∃ A c, P.ci i = .slice A (S.cell i).length c ∧ (S.cell i).length ≤ c ∧ RowI W Any A (S.cell i) := by
  have := h.rws.row (.ci i)
  simp only [rows, hi, if_true] at this
  exact row_I this (h.wf.cells i hi).2
theorem SR.calls (h : SR W n0 P S) : ∃ A c, P.vF = .slice A S.calls.length c ∧ S.calls.length ≤ c ∧ (0 < S.calls.length → A = some ⟨P.gF, 0, none⟩ ∧ ∀ j, j < S.calls.length * 3 → W.cell? ⟨P.gF, j, none⟩ = (flatF P 0 S.calls)[j]?) := by
  have hr : W.ownsRow n0 74 3 P.vF S.calls.length (flatF P 0 S.calls) := h.rws.row .calls
  rcases Nat.eq_zero_or_pos S.calls.length with h0 | h0
  · obtain ⟨A, c, e, hc, _⟩ := row_slice hr
    exact ⟨A, c, e, hc, fun h => by omega⟩
  · obtain ⟨g, c, e, hc, _, hcell⟩ := row_some hr h0
    have hg : P.gF = g := by simp [Ph.gF, e, Value.ownBlock]
    exact ⟨_, c, e, hc, fun _ => ⟨by rw [hg], by rw [hg]; exact hcell⟩⟩
theorem SR.curWF (h : SR W n0 P S) : ∃ kd, S.cur.WF kd S.nc := by
  obtain ⟨kd, h1, h2, _⟩ := h.wf.ex
  refine ⟨kd, ?_⟩
  rcases Nat.eq_zero_or_pos S.calls.length with h0 | h0
  · rw [cur_0 h0]; exact h1
  · rw [cur_1 h0]; exact h2 _ (List.getElem_mem _)
/-- The three cells of the current frame. -/
theorem SR.cur3 (h : SR W n0 P S) : W.cell? (curP P S) = some (curV P S) ∧ W.cell? ⟨(curP P S).block, (curP P S).off + 1, none⟩ = some (curC P S) ∧ W.cell? ⟨(curP P S).block, (curP P S).off + 2, none⟩ = some (.int .i64 S.cur.loc) := by
  rcases Nat.eq_zero_or_pos S.calls.length with h0 | h0
  · rw [cur_0 h0]
    simp only [curP, curV, curC, h0, if_true]
    exact ⟨cell_of_blk h.box rfl, cell_of_blk h.box rfl, cell_of_blk h.box rfl⟩
  · rw [cur_1 h0]
    have hne : S.calls.length ≠ 0 := by omega
    simp only [curP, curV, curC, hne, if_false]
    obtain ⟨A, c, _, _, h2⟩ := h.calls
    obtain ⟨_, hcell⟩ := h2 h0
    obtain ⟨g1, g2, g3⟩ := flatF_get P S.calls 0 (S.calls.length - 1) (by omega)
    simp only [Nat.zero_add] at g1 g2
    exact ⟨(hcell _ (by omega)).trans g1, (hcell _ (by omega)).trans g2, (hcell _ (by omega)).trans g3⟩
theorem SR.curVs (h : SR W n0 P S) : ∃ A c, curV P S = .slice A S.cur.vs.length c ∧ S.cur.vs.length ≤ c ∧ RowV W Any A S.cur.vs := by
  obtain ⟨kd, hw⟩ := h.curWF
  rcases Nat.eq_zero_or_pos S.calls.length with h0 | h0
  · rw [cur_0 h0] at hw ⊢
    simp only [curV, h0, if_true]
    exact row_V (h.rws.row .bv) hw.fld
  · rw [cur_1 h0] at hw ⊢
    have hne : S.calls.length ≠ 0 := by omega
    simp only [curV, hne, if_false]
    have := h.rws.row (.fv (S.calls.length - 1))
    simp only [rows, List.getElem?_eq_getElem (show S.calls.length - 1 < S.calls.length by omega)] at this
    exact row_V this hw.fld
theorem SR.curCs (h : SR W n0 P S) : W.ownsRow n0 79 1 (curC P S) S.cur.cs.length (ptrs P.cb S.cur.cs) := by
  rcases Nat.eq_zero_or_pos S.calls.length with h0 | h0
  · rw [cur_0 h0]
    simp only [curC, h0, if_true]
    exact h.rws.row .bc
  · rw [cur_1 h0]
    have hne : S.calls.length ≠ 0 := by omega
    simp only [curC, hne, if_false]
    have := h.rws.row (.fc (S.calls.length - 1))
    simp only [rows, List.getElem?_eq_getElem (show S.calls.length - 1 < S.calls.length by omega)] at this
    exact this
end

/-- An index, or -1. -/
def idxZ : Option Nat → Int
  | none => -1
  | some i => i

set_option maxHeartbeats 4000000 in
set_option maxRecDepth 100000 in
theorem current_any {W : World} {n0 : Nat} {P : Ph} {S : ST} (h : SR W n0 P S) : Calls Try.prog 36 #[.pointer (some ⟨P.sb, 0, none⟩)] W fun e w' => e = .returned (.pointer (some (curP P S))) ∧ w' = W := by
  obtain ⟨A, c, hvF, hc, h2⟩ := h.calls
  have hx : W.cell? ⟨P.sb, 3, none⟩ = some (.slice A S.calls.length c) := by rw [← hvF]; exact cell_of_blk h.box rfl
  have hcal := h.wf.ncalls
  obtain ⟨cp, hcp⟩ : ∃ cp, curP P S = cp := ⟨_, rfl⟩
  rw [hcp]
  have HCP := Lib.hid hcp
  have H2 := Lib.hid h2
  obtain ⟨L, hL⟩ : ∃ L, S.calls.length = L := ⟨_, rfl⟩
  rw [hL] at hx hcal
  have HL := Lib.hid hL
  clear h hvF hc h2 hcp hL
  rcases Nat.eq_zero_or_pos L with h0 | h0
  · subst h0
    have HX := Lib.hid (show cp = ⟨P.sb, 0, none⟩ by rw [← HCP.out, curP, if_pos HL.out])
    clear HL HCP H2
    go_enter Try.func36, Try.ntmps36
    go_wp2_with fail
    go_ret
    exact ⟨by rw [HX.out]; rfl, rfl⟩
  · obtain ⟨rfl, -⟩ := H2.out (by rw [HL.out]; exact h0)
    obtain ⟨m, hm⟩ : ∃ m, L = m + 1 := ⟨L - 1, by omega⟩
    subst hm
    have HX := Lib.hid (show cp = ⟨P.gF, m * 3, none⟩ by rw [← HCP.out, curP, if_neg (by have := HL.out; omega), HL.out]; rfl)
    clear HL HCP H2 h0
    go_enter Try.func36, Try.ntmps36
    go_wp2_with fail
    go_ret
    exact ⟨by rw [HX.out]; simp, rfl⟩

set_option maxHeartbeats 4000000 in
set_option maxRecDepth 100000 in
theorem find_any (vs : List VD) (A : Option Addr) (c : Nat) (s : ByteArray) (fp : Addr) (w : World) (hc : w.cell? fp = some (.slice A vs.length c)) (hrow : RowV w Any A vs) (hl : vs.length ≤ 4398046511000) :
    Calls Try.prog 41 #[.pointer (some fp), .string s] w fun e w' => e = .returned (.int .i64 (idxZ (lastI vs s vs.length))) ∧ Below w.heap.size w w' := by
  obtain ⟨R, hR⟩ : ∃ R, lastI vs s vs.length = R := ⟨_, rfl⟩
  rw [hR]
  have HR := Lib.hid hR
  have HROW := Lib.hid hrow
  have HC := Lib.hid hc
  clear hR hrow
  go_enter Try.func41, Try.ntmps41
  go_wp2_with fail
  go_loopw [5] (fun i wr => ∃ j : Nat, j ≤ vs.length ∧ i = .int .i64 ((j : Int) - 1) ∧ wr = w ∧ Hid (lastI vs s j = R)) (fun i _ => (intOf i + 1).toNat)
  case atStart => exact ⟨vs.length, Nat.le_refl _, by go_num, rfl, HR⟩
  case round =>
    obtain ⟨j, hj, rfl, rfl, HJ⟩ := hrel
    by_cases h0 : j = 0
    · subst h0
      have HX := Lib.hid (show R = none by rw [← HJ.out]; rfl)
      go_wp2_with fail
      go_ret
      exact ⟨by rw [HX.out]; rfl, Below.refl _ _⟩
    · obtain ⟨m, rfl⟩ : ∃ m, j = m + 1 := ⟨j - 1, by omega⟩
      have hm : m < vs.length := by omega
      obtain ⟨a, rfl, -, ⟨y0, y1, y2⟩, -⟩ := HROW.out m hm
      have hjm : ((m + 1 : Nat) : Int) - 1 = (m : Int) := by omega
      rw [hjm]
      obtain ⟨vm, hvm⟩ : ∃ v, vs[m] = v := ⟨_, rfl⟩
      rw [hvm] at y0 y1 y2
      have HL := Lib.hid (show (if vm.s.toList == s.toList then some m else lastI vs s m) = R by rw [← HJ.out, lastI_succ hm, hvm])
      obtain ⟨b, hb⟩ : ∃ b, (vm.s.toList == s.toList) = b := ⟨_, rfl⟩
      rw [hb] at HL
      clear HJ hvm hjm
      cases b
      · go_wp2_with fail
        go_roundw
        case rel => exact ⟨m, by omega, by go_num, trivial, Lib.hid (by have := HL.out; simpa using this)⟩
        case measure => simp [intOf]
      · have HX := Lib.hid (show R = some m by rw [← HL.out]; rfl)
        go_wp2_with fail
        go_ret
        exact ⟨by rw [HX.out]; rfl, Below.refl _ _⟩

set_option maxHeartbeats 4000000 in
set_option maxRecDepth 100000 in
theorem lookup_any {W : World} {n0 : Nat} {P : Ph} {S : ST} (h : SR W n0 P S) (s : ByteArray) : Calls Try.prog 40 #[.pointer (some ⟨P.sb, 0, none⟩), .string s] W fun e W' => Below W.heap.size W W' ∧
    ((S.look s = none ∧ ∃ A c, e = .returned (.tuple #[.slice A 0 c, .bool false])) ∨ ∃ l A c, S.look s = some l ∧ e = .returned (.tuple #[.slice A l.length c, .bool true]) ∧ RowI W' Any A l) := by
  have HS := Lib.hid h
  obtain ⟨kd, hw⟩ := h.curWF
  obtain ⟨A, c, hcv, hc, hrow⟩ := h.curVs
  obtain ⟨h1, h2, h3⟩ := h.cur3
  rw [hcv] at h1
  have HCU := Lib.hid (current_any h)
  have HFI := Lib.hid (fun W' (hb : Below W.heap.size W W') => find_any S.cur.vs A c s (curP P S) W' (cell_bl hb h1) (hrow.later hb) hw.lim)
  have HCS := Lib.hid h.curCs
  have HWF := Lib.hid hw
  obtain ⟨cp, hcp⟩ : ∃ cp, curP P S = cp := ⟨_, rfl⟩
  rw [hcp] at h1 h2 h3 HCU HFI
  obtain ⟨r, hr⟩ : ∃ r, S.cur.at s = r := ⟨_, rfl⟩
  have hr' : lastI S.cur.vs s S.cur.vs.length = r := hr
  rw [hr'] at HFI
  have HRR := Lib.hid hr
  have H2 := Lib.hid h2
  clear h hw hcv hrow h1 h2 h3 hcp hr hr'
  go_enter Try.func40, Try.ntmps40
  go_wp2_with fail
  refine HCU.out.mono ?_
  rintro e w1 ⟨rfl, rfl⟩
  go_wp2_with fail
  refine (HFI.out _ (Below.refl _ _)).mono ?_
  rintro e w2 ⟨rfl, bw2⟩
  have hy := cell_bl bw2 H2.out
  have HS2 := Lib.hid (HS.out.later bw2)
  have HB2 := Lib.hid bw2
  clear bw2
  rcases r with _ | i
  · have HX := Lib.hid (show S.look s = none by unfold ST.look ST.num; rw [HRR.out]; rfl)
    simp only [idxZ]
    go_wp2_with fail
    go_ret2
    exact ⟨HB2.out, .inl ⟨HX.out, none, 0, rfl⟩⟩
  · have hil : i < S.cur.vs.length := FR.at_lt HRR.out
    have hic : i < S.cur.cs.length := by rw [HWF.out.len]; exact hil
    obtain ⟨id, hid⟩ : ∃ id, S.cur.cs[i] = id := ⟨_, rfl⟩
    have hidn : id < S.nc := by rw [← hid]; exact HWF.out.num _ (List.getElem_mem hic)
    have HX := Lib.hid (show S.look s = some (S.cell id) by unfold ST.look ST.num; rw [HRR.out]; simp [hic, hid])
    obtain ⟨g, c2, hcc, hc2, hm2, hcell⟩ := row_some HS2.out.curCs (by omega)
    rw [hcc] at hy
    have hz : w2.cell? ⟨g, i, none⟩ = some (.pointer (some ⟨P.cb id, 0, none⟩)) := by rw [hcell i (by omega)]; simp [ptrs, hic, hid]
    obtain ⟨A3, c3, hci, hc3, hri⟩ := HS2.out.items hidn
    have hz2 : w2.cell? ⟨P.cb id, 0, none⟩ = some (.slice A3 (S.cell id).length c3) := by rw [← hci]; exact cell_of_blk (HS2.out.cbox hidn) rfl
    have HRI := Lib.hid hri
    have hi1 : (i : Int) < (S.cur.cs.length : Int) := by omega
    have hi2 : ¬ (i : Int) < 0 := by omega
    simp only [idxZ]
    clear hcell hcc hri hci hid hil
    go_wp2_with fail
    go_ret2
    exact ⟨HB2.out, .inr ⟨_, HX.out, A3, ⟨c3, rfl⟩, HRI.out⟩⟩

theorem fnLookup : IsFn Try.prog 40 Try.f40 := ⟨Try.func40, by kernel_rfl, by kernel_rfl⟩
theorem ST.look_num {S : ST} {s : ByteArray} {l : List Int} (h : S.look s = some l) : ∃ i id, S.cur.at s = some i ∧ S.cur.cs[i]? = some id ∧ l = S.cell id := by
  unfold ST.look ST.num at h
  simp only [Option.map_eq_some_iff, Option.bind_eq_some_iff] at h
  obtain ⟨id, ⟨i, h1, h2⟩, rfl⟩ := h
  exact ⟨i, id, h1, h2, rfl⟩
theorem ST.WF.cur {S : ST} (h : S.WF) : ∃ kd, S.cur.WF kd S.nc := by
  obtain ⟨kd, h1, h2, _⟩ := h.ex
  refine ⟨kd, ?_⟩
  rcases Nat.eq_zero_or_pos S.calls.length with h0 | h0
  · rw [cur_0 h0]; exact h1
  · rw [cur_1 h0]; exact h2 _ (List.getElem_mem _)
/-- The store's lookup is one. -/
theorem lookC (n0 : Nat) (P : Ph) (S : ST) (hw : S.WF) : LookC 40 Try.f40 (.pointer (some ⟨P.sb, 0, none⟩)) (fun W => SR W n0 P S) S.look where
  isFn := fnLookup
  later := fun _ _ h hb => h.later hb
  fits := fun s l hl => by
    obtain ⟨i, id, h1, h2, rfl⟩ := ST.look_num hl
    obtain ⟨kd, hc⟩ := hw.cur
    have := (hw.cells id (hc.num id (List.mem_of_getElem? h2))).1
    omega
  call := fun s W h => lookup_any h s

set_option maxHeartbeats 4000000 in
set_option maxRecDepth 100000 in
/-- Store.cell of a visible name. -/
theorem scell_any {W : World} {n0 : Nat} {P : Ph} {S : ST} (h : SR W n0 P S) (s : ByteArray) (id : Nat) (hid : S.num s = some id) : Calls Try.prog 60 #[.pointer (some ⟨P.sb, 0, none⟩), .string s] W fun e W' => e = .returned (.pointer (some ⟨P.cb id, 0, none⟩)) ∧ Below W.heap.size W W' := by
  have HS := Lib.hid h
  obtain ⟨kd, hw⟩ := h.curWF
  obtain ⟨A, c, hcv, hc, hrow⟩ := h.curVs
  obtain ⟨h1, h2, h3⟩ := h.cur3
  rw [hcv] at h1
  unfold ST.num at hid
  rw [Option.bind_eq_some_iff] at hid
  obtain ⟨i, hr, hci⟩ := hid
  have hr' : lastI S.cur.vs s S.cur.vs.length = some i := hr
  have HCU := Lib.hid (current_any h)
  have hfi := fun W' (hb : Below W.heap.size W W') => find_any S.cur.vs A c s (curP P S) W' (cell_bl hb h1) (hrow.later hb) hw.lim
  rw [hr'] at hfi
  simp only [idxZ] at hfi
  have HFI := Lib.hid hfi
  have hic : i < S.cur.cs.length := (List.getElem?_eq_some_iff.1 hci).1
  have hidd : S.cur.cs[i] = id := (List.getElem?_eq_some_iff.1 hci).2
  obtain ⟨cp, hcp⟩ : ∃ cp, curP P S = cp := ⟨_, rfl⟩
  rw [hcp] at h1 h2 h3 HCU HFI
  have H2 := Lib.hid h2
  clear hw hcv hrow h1 h2 h3 hcp hr hr' hfi h hci
  go_enter Try.func60, Try.ntmps60
  go_wp2_with fail
  refine HCU.out.mono ?_
  rintro e w1 ⟨rfl, rfl⟩
  have hy0 := H2.out
  obtain ⟨g, c2, hcc, hc2, hm2, hcell⟩ := row_some HS.out.curCs (by omega)
  rw [hcc] at hy0
  have hz : w1.cell? ⟨g, i, none⟩ = some (.pointer (some ⟨P.cb id, 0, none⟩)) := by rw [hcell i (by omega)]; simp [ptrs, hic, hidd]
  have HSS := Lib.hid (show ∀ w', Below w1.heap.size w1 w' → w'.cell? ⟨cp.block, cp.off + 1, none⟩ = some (.slice (some ⟨g, 0, none⟩) S.cur.cs.length c2) ∧ w'.cell? ⟨g, i, none⟩ = some (.pointer (some ⟨P.cb id, 0, none⟩)) from fun w' hb => ⟨cell_bl hb hy0, cell_bl hb hz⟩)
  have HK0 := Lib.hid (HSS.out _ (Below.refl _ _).drew)
  obtain ⟨L, hL⟩ : ∃ L, S.cur.cs.length = L := ⟨_, rfl⟩
  have hi1 : (i : Int) < (L : Int) := by omega
  have hi0 : (0 : Int) ≤ (i : Int) := by omega
  have hi2 : i < L := by omega
  rw [hL] at HSS HK0
  clear hcell hcc hy0 hz hL
  go_upto_region 2 with fail
  go_region_held3 (fun w' : World => w'.cell? ⟨cp.block, cp.off + 1, none⟩ = some (.slice (some ⟨g, 0, none⟩) L c2) ∧ w'.cell? ⟨g, i, none⟩ = some (.pointer (some ⟨P.cb id, 0, none⟩)))
    (first | with_reducible exact HK1.out | with_reducible exact HK0.out)
    (first
      | (go_at_call 41; refine (HFI.out _ (Below.refl _ _).drew).mono ?_; rintro e y1 ⟨rfl, by1⟩; have b1 := bl_tt (Below.refl w1.heap.size w1).drew by1; have HK1 := Lib.hid (HSS.out _ b1))
      | fail)
  have HB1 := Lib.hid b1
  clear b1 by1 HK1
  go_wp2_with fail
  go_ret
  exact ⟨rfl, HB1.out⟩

end Go.Proofs.Ytekjfbnggfbfhaa
