/-
  The contract of the reference's Same (backstepref46): are two programs equal?
-/
import Derived.Test.YtldcjboignbfpaaClV
import Derived.Test.YtldcjboignbfpaaEqualR
import Derived.Test.YtldcjboignbfpaaLim
import Derived.Laws.StructEq
import Derived.Deep.RegionHeld3
import Derived.Deep.DeepCutAuto
import Derived.BigQuiet
namespace Go.Proofs.Ytldcjboignbfpaa
open Go.RowKit

/-- Are two declarations equal, field by field? -/
def vdEqF (s s' : ByteArray) (k k' n n' : Int) : Bool := s.toList == s'.toList && (k == k' && n == n')
theorem neqV (s s' : ByteArray) (k k' n n' : Int) (w : World) : (binOp BinOp.neq 56 (.agg #[.string s, .int .u8 k, .int .i64 n]) (.agg #[.string s', .int .u8 k', .int .i64 n'])).run Try.prog w = .ok (.bool (!(vdEqF s s' k k' n n'))) w := by
  unfold vdEqF
  have hp : Try.prog.stoodInHeld 56 = false := by kernel_rfl
  rw [run_neq_struct, show (10000 : Nat) = 9998 + 1 + 1 from rfl, run_equalIn_struct _ _ _ _ _ (by simp [Program.fieldsOf, Try.underlying56]) hp]
  simp only [Program.fieldsOf, Try.underlying56]
  cases h1 : (s.toList == s'.toList) <;> cases h2 : (k == k') <;> cases h3 : (n == n') <;> simp [Op.eqFields, go_sem, h1, h2, h3]

/-- Are two declarations equal? -/
def vdEq (a b : VD) : Bool := vdEqF a.s b.s a.k b.k a.n b.n
theorem vdEq_iff (a b : VD) : vdEq a b = true ↔ a = b := by
  rcases a with ⟨s, k, n⟩
  rcases b with ⟨s', k', n'⟩
  simp only [vdEq, vdEqF, Bool.and_eq_true, beq_iff_eq, VD.mk.injEq]
  constructor
  · rintro ⟨h1, h2, h3⟩; exact ⟨ba_inj h1, h2, h3⟩
  · rintro ⟨rfl, rfl, rfl⟩; exact ⟨rfl, rfl, rfl⟩
theorem take_step {α : Type} {l m : List α} {j : Nat} (h : l.take j = m.take j) (hl : j < l.length) (hm : j < m.length) (he : l[j] = m[j]) : l.take (j + 1) = m.take (j + 1) := by
  rw [List.take_succ_eq_append_getElem hl, List.take_succ_eq_append_getElem hm, h, he]
theorem ne_of_get {α : Type} {l m : List α} {j : Nat} (hl : j < l.length) (hm : j < m.length) (he : l[j] ≠ m[j]) : l ≠ m := by
  rintro rfl; exact he rfl
theorem below_dN {B : Nat} {w w' : World} (h : Below B w w') (n : Nat) : Below B w (w'.drewN n) := ⟨h.os, h.tape, h.output, h.size, h.block⟩

theorem two_new (w : World) (c c' : Array Value) (E : TypeId) : (((w.alloc (.cells c E)).alloc (.cells c' E)).drew).heap[w.heap.size]? = some (.cells c E (0, 0)) ∧ (((w.alloc (.cells c E)).alloc (.cells c' E)).drew).heap[w.heap.size + 1]? = some (.cells c' E (0, 0)) ∧ Below w.heap.size w (((w.alloc (.cells c E)).alloc (.cells c' E)).drew) := by
  refine ⟨?_, ?_, (((Below.refl _ _).alloc (Nat.le_refl _) _).alloc (by simp) _).drew⟩
  · exact (Below.heap_alloc (w.alloc (.cells c E)) _ _ (by simp)).trans (heap_alloc_new w _)
  · have := heap_alloc_new (w.alloc (.cells c E)) (.cells c' E)
    simp only [World.size_alloc] at this
    exact this

/-- What such a test does. -/
def SameC (p q : PG) (w : World) (e : Ending) (w' : World) : Prop := ∃ r : Bool, e = .returned (.bool r) ∧ (r = true ↔ p = q) ∧ Below w.heap.size w w'

theorem SameC.no {p q : PG} {w w' : World} (h : p ≠ q) (hb : Below w.heap.size w w') : SameC p q w (.returned (.bool false)) w' := ⟨false, rfl, ⟨(fun h => by cases h), (fun e => absurd e h)⟩, hb⟩

set_option maxHeartbeats 8000000 in
set_option maxRecDepth 100000 in
theorem Same_any (p q : PG) (S S' : Nat → Prop) (v1 v2 : Value) (w : World) (hv1 : PV w S p v1) (hv2 : PV w S' q v2) : Calls Try.prog 24 #[v1, v2] w (SameC p q w) := by
  obtain ⟨A1, c1, A2, c2, A3, c3, rfl, hr⟩ := hv1
  obtain ⟨B1, d1, B2, d2, B3, d3, rfl, hr'⟩ := hv2
  have HR := Lib.hid hr
  have HR' := Lib.hid hr'
  have hv1 := LV_int hr.lv
  have hv2 := LV_int hr.lp
  have hv3 := LV_int hr'.lv
  have hv4 := LV_int hr'.lp
  have hm := hr.main
  have hm' := hr'.main
  obtain ⟨L1, hL1⟩ : ∃ L, p.vs.length = L := ⟨_, rfl⟩
  obtain ⟨L2, hL2⟩ : ∃ L, p.prs.length = L := ⟨_, rfl⟩
  obtain ⟨k, hk⟩ : ∃ k, p.m.k = k := ⟨_, rfl⟩
  obtain ⟨n, hn⟩ : ∃ n, p.m.n = n := ⟨_, rfl⟩
  obtain ⟨s, hs⟩ : ∃ s, p.m.s = s := ⟨_, rfl⟩
  obtain ⟨l3, hl3⟩ : ∃ l, p.m.ks.length = l := ⟨_, rfl⟩
  obtain ⟨M1, hM1⟩ : ∃ L, q.vs.length = L := ⟨_, rfl⟩
  obtain ⟨M2, hM2⟩ : ∃ L, q.prs.length = L := ⟨_, rfl⟩
  obtain ⟨k', hk'⟩ : ∃ k, q.m.k = k := ⟨_, rfl⟩
  obtain ⟨n', hn'⟩ : ∃ n, q.m.n = n := ⟨_, rfl⟩
  obtain ⟨s', hs'⟩ : ∃ s, q.m.s = s := ⟨_, rfl⟩
  obtain ⟨m3, hm3⟩ : ∃ l, q.m.ks.length = l := ⟨_, rfl⟩
  rw [hk, hn, hs, hl3] at hm
  rw [hk', hn', hs', hm3] at hm'
  rw [hL1] at hv1
  rw [hL2] at hv2
  rw [hM1] at hv3
  rw [hM2] at hv4
  rw [hL1, hL2, hk, hn, hs, hl3, hM1, hM2, hk', hn', hs', hm3]
  have HL1 := Lib.hid hL1
  have HL2 := Lib.hid hL2
  have HM1 := Lib.hid hM1
  have HM2 := Lib.hid hM2
  have HMN := Lib.hid hm
  have HMN' := Lib.hid hm'
  clear hr hr' hm hm' hL1 hL2 hk hn hs hl3 hM1 hM2 hk' hn' hs' hm3
  have hb2 : ∀ o o', Below w.heap.size w ((w.alloc o).alloc o') := fun o o' => ((Below.refl _ _).alloc (Nat.le_refl _) _).alloc (by simp) _
  have HB2 := Lib.hid hb2
  clear hb2
  by_cases h1 : L1 = M1
  case neg =>
    have HN := Lib.hid (show p ≠ q from fun e => h1 (by rw [← HL1.out, ← HM1.out, e]))
    have f1 : ((L1 : Int) != (M1 : Int)) = true := by simp; omega
    go_enter Try.func24, Try.ntmps24
    go_wp2_with fail
    go_ret
    exact SameC.no HN.out (HB2.out _ _)
  subst h1
  by_cases h2 : L2 = M2
  case neg =>
    have HN := Lib.hid (show p ≠ q from fun e => h2 (by rw [← HL2.out, ← HM2.out, e]))
    have f1 : ((L2 : Int) != (M2 : Int)) = true := by simp; omega
    go_enter Try.func24, Try.ntmps24
    go_wp2_with fail
    go_ret
    exact SameC.no HN.out (HB2.out _ _)
  subst h2
  go_enter Try.func24, Try.ntmps24
  go_wp2_with fail
  refine (refEqual_any p.m q.m _ _ _ (HMN.out.any.later (HB2.out _ _)) (HMN'.out.any.later (HB2.out _ _))).mono ?_
  rintro e w1 ⟨rfl, bw1⟩
  have q1 : Below w.heap.size w w1 := (HB2.out _ _).trans (bw1.mono (by simp; omega))
  cases hte : teq p.m q.m
  · have HN := Lib.hid (show p ≠ q from fun e => by rw [e, teq_refl] at hte; cases hte)
    clear hte
    go_wp2_with fail
    go_ret
    exact SameC.no HN.out (q1)
  have HME := Lib.hid ((teq_iff _ _).1 hte)
  have hx : w1.heap[w.heap.size]? = some (.cells #[.slice A1 L1 c1, .slice A2 L2 c2, .int .u8 k, .int .i64 n, .string s, .slice A3 l3 c3] 38 (0, 0)) := (bw1.block _ (by simp; omega)).trans ((Below.heap_alloc _ _ _ (by simp)).trans (heap_alloc_new w _))
  have hy : w1.heap[w.heap.size + 1]? = some (.cells #[.slice B1 L1 d1, .slice B2 L2 d2, .int .u8 k', .int .i64 n', .string s', .slice B3 m3 d3] 38 (0, 0)) := (bw1.block _ (by simp)).trans (by
    have := heap_alloc_new (w.alloc (.cells #[.slice A1 L1 c1, .slice A2 L2 c2, .int .u8 k, .int .i64 n, .string s, .slice A3 l3 c3] 38)) (.cells #[.slice B1 L1 d1, .slice B2 L2 d2, .int .u8 k', .int .i64 n', .string s', .slice B3 m3 d3] 38)
    simpa using this)
  have HXB := Lib.hid hx
  have HYB := Lib.hid hy
  have x0 : w1.cell? ⟨w.heap.size, 0, none⟩ = some (.slice A1 L1 c1) := cell_of_blk hx rfl
  clear hte bw1 hx hy
  have hne := neqV
  go_wp2_with fail
  go_loopw [5] (fun i wr => ∃ j : Nat, j ≤ L1 ∧ i = .int .i64 j ∧ Below w1.heap.size w1 wr ∧ Hid (p.vs.take j = q.vs.take j)) (fun i _ => L1 - (intOf i).toNat)
  case atStart => exact ⟨0, Nat.zero_le _, rfl, Below.refl _ _, Lib.hid (by simp)⟩
  case round =>
    obtain ⟨j, hj, rfl, hb, HA⟩ := hrel
    clear x0
    have hq : Below w.heap.size w wr := q1.trans (hb.mono q1.size)
    have x0 : wr.cell? ⟨w.heap.size, 0, none⟩ = some (.slice A1 L1 c1) := cell_bl hb (cell_of_blk HXB.out rfl)
    have x1 : wr.cell? ⟨w.heap.size, 1, none⟩ = some (.slice A2 L2 c2) := cell_bl hb (cell_of_blk HXB.out rfl)
    have y0 : wr.cell? ⟨w.heap.size + 1, 0, none⟩ = some (.slice B1 L1 d1) := cell_bl hb (cell_of_blk HYB.out rfl)
    by_cases hlt : j < L1
    · have hl1 : j < p.vs.length := by rw [HL1.out]; exact hlt
      have hl2 : j < q.vs.length := by rw [HM1.out]; exact hlt
      obtain ⟨a, v, rfl, _, Hv, ⟨a0, a1, a2⟩, _⟩ := (HR.out.vars.later hq).nd hl1
      obtain ⟨b, u, rfl, _, Hu, ⟨b0, b1, b2⟩, _⟩ := (HR'.out.vars.later hq).nd hl2
      have HVE := Lib.hid (show vdEq v u = vdEqF v.s u.s v.k u.k v.n u.n from rfl)
      obtain ⟨z, hz⟩ : ∃ z, vdEq v u = z := ⟨_, rfl⟩
      have hz' := HVE.out
      rw [hz] at hz'
      have HZ := Lib.hid hz
      have HZ' := Lib.hid hz'.symm
      clear hz hz'
      go_wp2_with fail
      go_quiet (fail)
      rw [HZ'.out]
      have HQN := Lib.hid (below_dN hb nq)
      cases z
      · have HN := Lib.hid (show p ≠ q from fun e => ne_of_get hl1 hl2 (by rw [Hv.out, Hu.out]; intro e2; have := (vdEq_iff v u).2 e2; rw [HZ.out] at this; cases this) (by rw [e]))
        go_wp2_with fail
        go_ret
        exact SameC.no HN.out (q1.trans (HQN.out.mono q1.size))
      · have HG := Lib.hid (take_step HA.out hl1 hl2 (by rw [Hv.out, Hu.out]; exact (vdEq_iff v u).1 HZ.out))
        go_wp2_with fail
        go_roundw
        case rel => exact ⟨j + 1, by omega, by go_num, HQN.out, HG⟩
        case measure => simp [intOf]; omega
    · obtain rfl : j = L1 := by omega
      have HVS := Lib.hid (show p.vs = q.vs by have := HA.out; rw [List.take_of_length_le (by rw [HL1.out]; omega), List.take_of_length_le (by rw [HM1.out]; omega)] at this; exact this)
      have y1 : wr.cell? ⟨w.heap.size + 1, 1, none⟩ = some (.slice B2 L2 d2) := cell_bl hb (cell_of_blk HYB.out rfl)
      have HQR := Lib.hid hq
      have HBR := Lib.hid hb
      clear hb hq y0
      rename World => wa
      go_wp2_with fail
      go_loopw [6] (fun i wx => ∃ j2 : Nat, j2 ≤ L2 ∧ i = .int .i64 j2 ∧ Below wa.heap.size wa wx ∧ Hid (p.prs.take j2 = q.prs.take j2)) (fun i _ => L2 - (intOf i).toNat)
      case atStart => exact ⟨0, Nat.zero_le _, rfl, Below.refl _ _, Lib.hid (by simp)⟩
      case round =>
        obtain ⟨j2, hj2, rfl, hb2, HA2⟩ := hrel
        have hq2 : Below w.heap.size w wr := HQR.out.trans (hb2.mono HQR.out.size)
        have x1' := cell_bl hb2 x1
        have y1' := cell_bl hb2 y1
        clear x1 y1 x0
        by_cases hlt2 : j2 < L2
        · have hl1 : j2 < p.prs.length := by rw [HL2.out]; exact hlt2
          have hl2 : j2 < q.prs.length := by rw [HM2.out]; exact hlt2
          obtain ⟨a, r, P1, e1, P2, e2, rfl, _, Hr, ⟨rac0, rac1, rac2, rac3, rac4, rac5⟩, hrra⟩ := (HR.out.procs.later hq2).nd hl1
          obtain ⟨b, t, Q1, f1, Q2, f2, rfl, _, Ht, ⟨rbc0, rbc1, rbc2, rbc3, rbc4, rbc5⟩, hrrb⟩ := (HR'.out.procs.later hq2).nd hl2
          have HNE := Lib.hid (show r ≠ t → p ≠ q from fun h e => ne_of_get hl1 hl2 (by rw [Hr.out, Ht.out]; exact h) (by rw [e]))
          have HST := Lib.hid (show r = t → p.prs.take (j2 + 1) = q.prs.take (j2 + 1) from fun h => take_step HA2.out hl1 hl2 (by rw [Hr.out, Ht.out]; exact h))
          obtain ⟨ras, hras⟩ : ∃ s, r.s = s := ⟨_, rfl⟩
          obtain ⟨ral, hral⟩ : ∃ l, r.ps.length = l := ⟨_, rfl⟩
          obtain ⟨rak, hrak⟩ : ∃ k, r.b.k = k := ⟨_, rfl⟩
          obtain ⟨ran, hran⟩ : ∃ k, r.b.n = k := ⟨_, rfl⟩
          obtain ⟨rab, hrab⟩ : ∃ k, r.b.s = k := ⟨_, rfl⟩
          obtain ⟨ram, hram⟩ : ∃ k, r.b.ks.length = k := ⟨_, rfl⟩
          have hbda := hrra.body.any
          have hlva := LV_int hrra.lp
          rw [hras] at rac0
          rw [hral] at rac1 hlva
          rw [hrak] at rac2 hbda
          rw [hran] at rac3 hbda
          rw [hrab] at rac4 hbda
          rw [hram] at rac5 hbda
          have HSa := Lib.hid hras
          have HLa := Lib.hid hral
          have HDa := Lib.hid hbda
          have HRa := Lib.hid hrra.row
          clear hras hral hrak hran hrab hram hbda hrra
          obtain ⟨rbs, hrbs⟩ : ∃ s, t.s = s := ⟨_, rfl⟩
          obtain ⟨rbl, hrbl⟩ : ∃ l, t.ps.length = l := ⟨_, rfl⟩
          obtain ⟨rbk, hrbk⟩ : ∃ k, t.b.k = k := ⟨_, rfl⟩
          obtain ⟨rbn, hrbn⟩ : ∃ k, t.b.n = k := ⟨_, rfl⟩
          obtain ⟨rbb, hrbb⟩ : ∃ k, t.b.s = k := ⟨_, rfl⟩
          obtain ⟨rbm, hrbm⟩ : ∃ k, t.b.ks.length = k := ⟨_, rfl⟩
          have hbdb := hrrb.body.any
          have hlvb := LV_int hrrb.lp
          rw [hrbs] at rbc0
          rw [hrbl] at rbc1 hlvb
          rw [hrbk] at rbc2 hbdb
          rw [hrbn] at rbc3 hbdb
          rw [hrbb] at rbc4 hbdb
          rw [hrbm] at rbc5 hbdb
          have HSb := Lib.hid hrbs
          have HLb := Lib.hid hrbl
          have HDb := Lib.hid hbdb
          have HRb := Lib.hid hrrb.row
          clear hrbs hrbl hrbk hrbn hrbb hrbm hbdb hrrb
          have HS6 := Lib.hid (show ∀ w', Below wr.heap.size wr w' → ((w'.cell? ⟨w.heap.size, 1, none⟩ = some (.slice (some a) L2 c2) ∧ w'.cell? ⟨w.heap.size + 1, 1, none⟩ = some (.slice (some b) L2 d2)) ∧ (w'.cell? (a.add (j2 * 6)) = some (.string ras) ∧ w'.cell? ⟨(a.add (j2 * 6)).block, (a.add (j2 * 6)).off + 1, none⟩ = some (.slice P1 ral e1) ∧ w'.cell? ⟨(a.add (j2 * 6)).block, (a.add (j2 * 6)).off + 2, none⟩ = some (.int .u8 rak) ∧ w'.cell? ⟨(a.add (j2 * 6)).block, (a.add (j2 * 6)).off + 3, none⟩ = some (.int .i64 ran) ∧ w'.cell? ⟨(a.add (j2 * 6)).block, (a.add (j2 * 6)).off + 4, none⟩ = some (.string rab) ∧ w'.cell? ⟨(a.add (j2 * 6)).block, (a.add (j2 * 6)).off + 5, none⟩ = some (.slice P2 ram e2)) ∧ (w'.cell? (b.add (j2 * 6)) = some (.string rbs) ∧ w'.cell? ⟨(b.add (j2 * 6)).block, (b.add (j2 * 6)).off + 1, none⟩ = some (.slice Q1 rbl f1) ∧ w'.cell? ⟨(b.add (j2 * 6)).block, (b.add (j2 * 6)).off + 2, none⟩ = some (.int .u8 rbk) ∧ w'.cell? ⟨(b.add (j2 * 6)).block, (b.add (j2 * 6)).off + 3, none⟩ = some (.int .i64 rbn) ∧ w'.cell? ⟨(b.add (j2 * 6)).block, (b.add (j2 * 6)).off + 4, none⟩ = some (.string rbb) ∧ w'.cell? ⟨(b.add (j2 * 6)).block, (b.add (j2 * 6)).off + 5, none⟩ = some (.slice Q2 rbm f2))) from fun w' h => ⟨⟨cell_bl h x1', cell_bl h y1'⟩, ⟨cell_bl h rac0, cell_bl h rac1, cell_bl h rac2, cell_bl h rac3, cell_bl h rac4, cell_bl h rac5⟩, cell_bl h rbc0, cell_bl h rbc1, cell_bl h rbc2, cell_bl h rbc3, cell_bl h rbc4, cell_bl h rbc5⟩)
          clear rac0 rac1 rac2 rac3 rac4 rac5 rbc0 rbc1 rbc2 rbc3 rbc4 rbc5 y1'
          go_upto_region 11 with fail
          go_cut [7, 8] (fun s7 s8 wx => ∃ g7 g8 : Nat, s7 = .pointer (some ⟨g7, 0, none⟩) ∧ s8 = .pointer (some ⟨g8, 0, none⟩) ∧ wx.heap[g7]? = some (.cells #[.string ras, .slice P1 ral e1, .int .u8 rak, .int .i64 ran, .string rab, .slice P2 ram e2] 58 (0, 0)) ∧ wx.heap[g8]? = some (.cells #[.string rbs, .slice Q1 rbl f1, .int .u8 rbk, .int .i64 rbn, .string rbb, .slice Q2 rbm f2] 58 (0, 0)) ∧ Below wr.heap.size wr wx)
          case first =>
            go_region_held3 (fun w' => ((w'.cell? ⟨w.heap.size, 1, none⟩ = some (.slice (some a) L2 c2) ∧ w'.cell? ⟨w.heap.size + 1, 1, none⟩ = some (.slice (some b) L2 d2)) ∧ (w'.cell? (a.add (j2 * 6)) = some (.string ras) ∧ w'.cell? ⟨(a.add (j2 * 6)).block, (a.add (j2 * 6)).off + 1, none⟩ = some (.slice P1 ral e1) ∧ w'.cell? ⟨(a.add (j2 * 6)).block, (a.add (j2 * 6)).off + 2, none⟩ = some (.int .u8 rak) ∧ w'.cell? ⟨(a.add (j2 * 6)).block, (a.add (j2 * 6)).off + 3, none⟩ = some (.int .i64 ran) ∧ w'.cell? ⟨(a.add (j2 * 6)).block, (a.add (j2 * 6)).off + 4, none⟩ = some (.string rab) ∧ w'.cell? ⟨(a.add (j2 * 6)).block, (a.add (j2 * 6)).off + 5, none⟩ = some (.slice P2 ram e2)) ∧ (w'.cell? (b.add (j2 * 6)) = some (.string rbs) ∧ w'.cell? ⟨(b.add (j2 * 6)).block, (b.add (j2 * 6)).off + 1, none⟩ = some (.slice Q1 rbl f1) ∧ w'.cell? ⟨(b.add (j2 * 6)).block, (b.add (j2 * 6)).off + 2, none⟩ = some (.int .u8 rbk) ∧ w'.cell? ⟨(b.add (j2 * 6)).block, (b.add (j2 * 6)).off + 3, none⟩ = some (.int .i64 rbn) ∧ w'.cell? ⟨(b.add (j2 * 6)).block, (b.add (j2 * 6)).off + 4, none⟩ = some (.string rbb) ∧ w'.cell? ⟨(b.add (j2 * 6)).block, (b.add (j2 * 6)).off + 5, none⟩ = some (.slice Q2 rbm f2))))
              (exact HS6.out _ (by repeat first | with_reducible exact Below.refl _ _ | with_reducible refine Below.drew ?_ | with_reducible refine Below.alloc ?_ (by simp) _))
              (fail)
            all_goals (go_wp2_with fail; go_meet)
            all_goals first
              | (have h := two_new wr #[.string ras, .slice P1 ral e1, .int .u8 rak, .int .i64 ran, .string rab, .slice P2 ram e2] #[.string rbs, .slice Q1 rbl f1, .int .u8 rbk, .int .i64 rbn, .string rbb, .slice Q2 rbm f2] 58; exact ⟨_, _, rfl, rfl, h.1, h.2.1, h.2.2⟩)
              | (have h := two_new wr #[.string rbs, .slice Q1 rbl f1, .int .u8 rbk, .int .i64 rbn, .string rbb, .slice Q2 rbm f2] #[.string ras, .slice P1 ral e1, .int .u8 rak, .int .i64 ran, .string rab, .slice P2 ram e2] 58; exact ⟨_, _, rfl, rfl, h.2.1, h.1, h.2.2⟩)
          case rest =>
            obtain ⟨g7, g8, rfl, rfl, hg7, hg8, bwc⟩ := hcut
            have cm0 : wc.cell? ⟨g7, 0, none⟩ = some (.string ras) := cell_of_blk hg7 rfl
            have cm1 : wc.cell? ⟨g7, 1, none⟩ = some (.slice P1 ral e1) := cell_of_blk hg7 rfl
            have cm2 : wc.cell? ⟨g7, 2, none⟩ = some (.int .u8 rak) := cell_of_blk hg7 rfl
            have cm3 : wc.cell? ⟨g7, 3, none⟩ = some (.int .i64 ran) := cell_of_blk hg7 rfl
            have cm4 : wc.cell? ⟨g7, 4, none⟩ = some (.string rab) := cell_of_blk hg7 rfl
            have cm5 : wc.cell? ⟨g7, 5, none⟩ = some (.slice P2 ram e2) := cell_of_blk hg7 rfl
            have cn0 : wc.cell? ⟨g8, 0, none⟩ = some (.string rbs) := cell_of_blk hg8 rfl
            have cn1 : wc.cell? ⟨g8, 1, none⟩ = some (.slice Q1 rbl f1) := cell_of_blk hg8 rfl
            have cn2 : wc.cell? ⟨g8, 2, none⟩ = some (.int .u8 rbk) := cell_of_blk hg8 rfl
            have cn3 : wc.cell? ⟨g8, 3, none⟩ = some (.int .i64 rbn) := cell_of_blk hg8 rfl
            have cn4 : wc.cell? ⟨g8, 4, none⟩ = some (.string rbb) := cell_of_blk hg8 rfl
            have cn5 : wc.cell? ⟨g8, 5, none⟩ = some (.slice Q2 rbm f2) := cell_of_blk hg8 rfl
            have HQC := Lib.hid (hq2.trans (bwc.mono hq2.size))
            have HBC := Lib.hid (hb2.trans (bwc.mono hb2.size))
            have HDa' := Lib.hid (HDa.out.later bwc)
            have HDb' := Lib.hid (HDb.out.later bwc)
            have HG7 := Lib.hid hg7
            have HG8 := Lib.hid hg8
            have HRa' := Lib.hid (HRa.out.later bwc)
            have HRb' := Lib.hid (HRb.out.later bwc)
            clear HDa HDb HRa HRb hg7 hg8 bwc hb2 hq2 HS6 x1'
            cases hsn : (ras.toList == rbs.toList)
            · have hpn : ¬ ras.toList = rbs.toList := by simpa using hsn
              have HN := Lib.hid (HNE.out (fun e => by rw [← HSa.out, ← HSb.out, e] at hsn; simp at hsn))
              go_wp2_with fail
              go_ret
              exact SameC.no HN.out HQC.out
            have hpe : ras.toList = rbs.toList := by simpa using hsn
            by_cases hln : ral = rbl
            case neg =>
              have f2 : ((ral : Int) != (rbl : Int)) = true := by simp; omega
              have HN := Lib.hid (HNE.out (fun e => hln (by rw [← HLa.out, ← HLb.out, e])))
              go_wp2_with fail
              go_ret
              exact SameC.no HN.out HQC.out
            subst hln
            have HSN := Lib.hid (show r.s = t.s from ba_inj (by rw [HSa.out, HSb.out]; simpa using hsn))
            clear hsn
            go_wp2_with fail
            refine (refEqual_any r.b t.b _ _ _ HDa'.out HDb'.out).mono ?_
            rintro e w4 ⟨rfl, bw4⟩
            have HQ4 := Lib.hid (HQC.out.trans (bw4.mono HQC.out.size))
            have HB4 := Lib.hid (HBC.out.trans (bw4.mono HBC.out.size))
            have k1 : w4.cell? ⟨g7, 1, none⟩ = some (.slice P1 ral e1) := cell_bl bw4 cm1
            have k2 : w4.cell? ⟨g8, 1, none⟩ = some (.slice Q1 ral f1) := cell_bl bw4 cn1
            have HRa4 := Lib.hid (HRa'.out.later bw4)
            have HRb4 := Lib.hid (HRb'.out.later bw4)
            clear cm0 cm1 cm2 cm3 cm4 cm5 cn0 cn1 cn2 cn3 cn4 cn5 bw4
            cases hte : teq r.b t.b
            · have HN := Lib.hid (HNE.out (fun e => by rw [e, teq_refl] at hte; cases hte))
              clear hte
              go_wp2_with fail
              go_ret
              exact SameC.no HN.out HQ4.out
            have HTE := Lib.hid ((teq_iff _ _).1 hte)
            clear hte
            go_wp2_with fail
            rename World => wd
            have HXC := Lib.hid k1
            have HYC := Lib.hid k2
            go_loopw [9] (fun i wx => ∃ j3 : Nat, j3 ≤ ral ∧ i = .int .i64 j3 ∧ Below wd.heap.size wd wx ∧ Hid (r.ps.take j3 = t.ps.take j3)) (fun i _ => ral - (intOf i).toNat)
            case atStart => exact ⟨0, Nat.zero_le _, rfl, Below.refl _ _, Lib.hid (by simp)⟩
            case round =>
              obtain ⟨j3, hj3, rfl, hb3, HA3⟩ := hrel
              clear k1 k2
              have k1 := cell_bl hb3 HXC.out
              have k2 := cell_bl hb3 HYC.out
              have HQ5 := Lib.hid (HQ4.out.trans (hb3.mono HQ4.out.size))
              have HB5 := Lib.hid (HB4.out.trans (hb3.mono HB4.out.size))
              by_cases hlt3 : j3 < ral
              · have hi1 : j3 < r.ps.length := by rw [HLa.out]; exact hlt3
                have hi2 : j3 < t.ps.length := by rw [HLb.out]; exact hlt3
                obtain ⟨a4, v, rfl, _, Hv, ⟨a0, a1, a2⟩, _⟩ := (HRa4.out.later hb3).nd hi1
                obtain ⟨b4, u, rfl, _, Hu, ⟨b0, b1, b2⟩, _⟩ := (HRb4.out.later hb3).nd hi2
                obtain ⟨z, hz⟩ : ∃ z, vdEq v u = z := ⟨_, rfl⟩
                have hz' := show vdEqF v.s u.s v.k u.k v.n u.n = z from hz
                have HZ := Lib.hid hz
                have HZ' := Lib.hid hz'
                clear hz hz'
                go_wp2_with fail
                go_quiet (fail)
                rw [HZ'.out]
                have HQN := Lib.hid (below_dN hb3 nq)
                cases z
                · have HN := Lib.hid (HNE.out (fun e => ne_of_get hi1 hi2 (by rw [Hv.out, Hu.out]; intro e2; have := (vdEq_iff v u).2 e2; rw [HZ.out] at this; cases this) (by rw [e])))
                  go_wp2_with fail
                  go_ret
                  exact SameC.no HN.out (HQ4.out.trans (HQN.out.mono HQ4.out.size))
                · have HG := Lib.hid (take_step HA3.out hi1 hi2 (by rw [Hv.out, Hu.out]; exact (vdEq_iff v u).1 HZ.out))
                  go_wp2_with fail
                  go_roundw
                  case rel => exact ⟨j3 + 1, by omega, by go_num, HQN.out, HG⟩
                  case measure => simp [intOf]; omega
              · obtain rfl : j3 = ral := by omega
                have HRT := Lib.hid (HST.out (by
                  have e1' : r.ps = t.ps := by have := HA3.out; rw [List.take_of_length_le (by rw [HLa.out]; omega), List.take_of_length_le (by rw [HLb.out]; omega)] at this; exact this
                  have e2' := HSN.out
                  have e3' := HTE.out
                  rcases r with ⟨r1, r2, r3⟩
                  rcases t with ⟨t1, t2, t3⟩
                  simp only at e1' e2' e3'
                  rw [e1', e2', e3']))
                go_wp2_with fail
                go_roundw
                case rel => exact ⟨j2 + 1, by omega, by go_num, HB5.out, HRT⟩
                case measure => simp [intOf]; omega
        · obtain rfl : j2 = L2 := by omega
          have HPS := Lib.hid (show p.prs = q.prs by have := HA2.out; rw [List.take_of_length_le (by rw [HL2.out]; omega), List.take_of_length_le (by rw [HM2.out]; omega)] at this; exact this)
          have HEQ := Lib.hid (show p = q by rcases p with ⟨v1, v2, v3⟩; rcases q with ⟨q1, q2, q3⟩; have a1 := HVS.out; have a2 := HPS.out; have a3 := HME.out; simp only at a1 a2 a3; rw [a1, a2, a3])
          go_wp2_with fail
          go_ret
          exact ⟨true, rfl, ⟨(fun _ => HEQ.out), (fun _ => rfl)⟩, hq2⟩

end Go.Proofs.Ytldcjboignbfpaa
