/-
  The contract of simplify.Program.
-/
import Derived.Test.YtldcjboignbfpaaPq
import Derived.Test.YtldcjboignbfpaaClV
import Derived.Test.YtldcjboignbfpaaVal
import Derived.Test.YtldcjboignbfpaaSimp
import Derived.Deep.RegionHeld3
import Derived.Deep.DeepCutAuto
import Derived.Test.YtldcjboignbfpaaRg
namespace Go.Proofs.Ytldcjboignbfpaa
open Go.RowKit

/-- A procedure with its body turned. -/
def mapR (F : T → T) (r : PR) : PR := ⟨r.s, r.ps, F r.b⟩
/-- simplify.Program. -/
def progF (p : PG) : PG := if validB p then ⟨p.vs, p.prs.map (mapR simp), simp p.m⟩ else p
theorem progF_yes {p : PG} (h : validB p = true) : progF p = ⟨p.vs, p.prs.map (mapR simp), simp p.m⟩ := by unfold progF; rw [if_pos h]
theorem progF_no {p : PG} (h : validB p = false) : progF p = ⟨p.vs, p.prs.map (mapR id), id p.m⟩ := by
  unfold progF; rw [if_neg (by simp [h])]
  have : ∀ l : List PR, l.map (mapR id) = l := by intro l; induction l with | nil => rfl | cons a l ih => simp [mapR, ih]
  rw [this]; rfl

theorem fnClone : IsFn Try.prog 21 Try.f21 := ⟨Try.func21, by kernel_rfl, by kernel_rfl⟩
theorem fnSimplified : IsFn Try.prog 41 Try.f41 := ⟨Try.func41, by kernel_rfl, by kernel_rfl⟩

/-- A new node as a value, its fields spelt by the tree. -/
def NewB (w : World) (t : T) (v : Value) (w' : World) : Prop := ∃ A c, v = nv t.k t.n t.s A t.ks.length c ∧ NV w' (From w.heap.size) t (nv t.k t.n t.s A t.ks.length c) ∧ Below w.heap.size w w'
theorem newB_of {P : Program} {f : FuncId} {args : Array Value} {w : World} {t : T} (h : Calls P f args w (NewNode w t)) : Calls P f args w fun e w' => ∃ v, e = .returned v ∧ NewB w t v w' :=
  h.mono fun e _ ⟨k, n, s, A, l, c, he, hn, hb⟩ => by
    obtain ⟨A6, c6, e6, _⟩ := hn.open_
    exact ⟨_, he, A6, c6, e6, by rw [← e6]; exact hn, hb⟩
/-- A new row of declarations, its length spelt otherwise. -/
def NewL (w : World) (vs : List VD) (L : Nat) (e : Ending) (w' : World) : Prop := ∃ A' c', e = .returned (.slice A' L c') ∧ RowV w' (From w.heap.size) A' vs ∧ vs.length ≤ c' ∧ Below w.heap.size w w'

def NewLV (w : World) (vs : List VD) (L : Nat) (v : Value) (w' : World) : Prop := ∃ A' c', v = .slice A' L c' ∧ RowV w' (From w.heap.size) A' vs ∧ vs.length ≤ c' ∧ Below w.heap.size w w'
theorem newLV_of {P : Program} {f : FuncId} {args : Array Value} {w : World} {vs : List VD} {L : Nat} (h : Calls P f args w (NewL w vs L)) : Calls P f args w fun e w' => ∃ v, e = .returned v ∧ NewLV w vs L v w' :=
  h.mono fun _ _ ⟨A, c, he, hn⟩ => ⟨_, he, A, c, rfl, hn⟩
theorem fnCloneV : IsFn Try.prog 43 Try.f43 := ⟨Try.func43, by kernel_rfl, by kernel_rfl⟩

set_option maxHeartbeats 16000000 in
set_option maxRecDepth 100000 in
theorem Program_any (p : PG) (S0 : Nat → Prop) (v : Value) (w : World) (hv : PV w S0 p v) (hlen : p.prs.length ≤ 64) :
    Calls Try.prog 22 #[v] w fun e w' => ∃ v', e = .returned v' ∧ PV w' (From w.heap.size) (progF p) v' ∧ Below w.heap.size w w' := by
  obtain ⟨i0, hi0, hz0, hz1, hz2⟩ := info_parts prInfo
  have hv' := hv
  obtain ⟨A1, c1, A2, c2, A3, c3, rfl, hr⟩ := hv
  have HR := Lib.hid hr
  have hmm := hr.main
  obtain ⟨L1, hL1⟩ : ∃ L, p.vs.length = L := ⟨_, rfl⟩
  obtain ⟨L2, hL2⟩ : ∃ L, p.prs.length = L := ⟨_, rfl⟩
  obtain ⟨k, hk⟩ : ∃ k, p.m.k = k := ⟨_, rfl⟩
  obtain ⟨n, hn⟩ : ∃ n, p.m.n = n := ⟨_, rfl⟩
  obtain ⟨s, hs⟩ : ∃ s, p.m.s = s := ⟨_, rfl⟩
  obtain ⟨l3, hl3⟩ : ∃ l, p.m.ks.length = l := ⟨_, rfl⟩
  rw [hk, hn, hs, hl3] at hmm
  rw [hL2] at hlen
  rw [hL1, hL2, hk, hn, hs, hl3]
  rw [hL1, hL2, hk, hn, hs, hl3] at hv'
  have HL1 := Lib.hid hL1
  have HL2 := Lib.hid hL2
  have HMN := Lib.hid hmm
  have HV := Lib.hid hv'
  obtain ⟨vb, hvb⟩ : ∃ vb, validB p = vb := ⟨_, rfl⟩
  have HVB := Lib.hid hvb
  clear hr hmm hL1 hL2 hk hn hs hl3 hv' hvb
  have hb38 := build38
  have q0 : ∀ o o', Below w.heap.size w ((w.alloc o).alloc o') := fun o o' => ((Below.refl _ _).alloc (Nat.le_refl _) _).alloc (by simp) _
  go_enter Try.func22, Try.ntmps22
  go_wp2_with fail
  refine (Valid_any p S0 _ _ (HV.out.later (q0 _ _))).mono ?_
  rintro e w1 ⟨rfl, bw1⟩
  rw [HVB.out]
  have HQ1 := Lib.hid (show Below (w.heap.size + 2) ((w.alloc (.cells #[.slice A1 L1 c1, .slice A2 L2 c2, .int .u8 k, .int .i64 n, .string s, .slice A3 l3 c3] 38)).alloc (.cells ZP 38)) w1 by simpa using bw1)
  clear bw1 q0
  go_upto_if 8 with fail
  go_cut [3] (fun s3 wx => ∃ (f : FuncId) (fn : Func) (F : T → T), s3 = .func (.func f) #[] #[] ∧ IsFn Try.prog f fn ∧ (∀ t, MapC f F t) ∧ Hid (progF p = ⟨p.vs, p.prs.map (mapR F), F p.m⟩) ∧ Below w1.heap.size w1 wx)
  case first =>
    cases vb
    · go_wp2_with fail
      go_meet
      exact ⟨21, _, id, rfl, fnClone, Clone_any, Lib.hid (progF_no HVB.out), Below.refl _ _⟩
    · go_wp2_with fail
      go_meet
      exact ⟨41, _, simp, rfl, fnSimplified, simplified_any, Lib.hid (progF_yes HVB.out), Below.refl _ _⟩
  case rest =>
    obtain ⟨f, fn, F, rfl, hfn, hmap, HPF, bwc⟩ := hcut
    have hz1 : w.heap.size + 2 ≤ w1.heap.size := by have := HQ1.out.size; simpa using this
    have hq : Below (w.heap.size + 2) ((w.alloc (.cells #[.slice A1 L1 c1, .slice A2 L2 c2, .int .u8 k, .int .i64 n, .string s, .slice A3 l3 c3] 38)).alloc (.cells ZP 38)) wc := HQ1.out.trans (bwc.mono hz1)
    have hbl : Below w.heap.size w wc := (((Below.refl _ _).alloc (Nat.le_refl _) _).alloc (by simp) _).trans (hq.mono (by omega))
    have harg : wc.heap[w.heap.size]? = some (.cells #[.slice A1 L1 c1, .slice A2 L2 c2, .int .u8 k, .int .i64 n, .string s, .slice A3 l3 c3] 38 (0, 0)) := by
      rw [hq.block _ (by omega), Below.heap_alloc _ _ _ (by simp)]; exact heap_alloc_new w _
    have hzc : w.heap.size + 2 ≤ wc.heap.size := Nat.le_trans hz1 bwc.size
    have HS1 := Lib.hid (show ∀ w', Below wc.heap.size wc w' → (w'.cell? ⟨w.heap.size, 0, none⟩ = some (.slice A1 L1 c1) ∧ w'.cell? ⟨w.heap.size, 2, none⟩ = some (.int .u8 k) ∧ w'.cell? ⟨w.heap.size, 3, none⟩ = some (.int .i64 n) ∧ w'.cell? ⟨w.heap.size, 4, none⟩ = some (.string s) ∧ w'.cell? ⟨w.heap.size, 5, none⟩ = some (.slice A3 l3 c3)) from
      fun w' h => ⟨cell_bl h (cell_of_blk harg rfl), cell_bl h (cell_of_blk harg rfl), cell_bl h (cell_of_blk harg rfl), cell_bl h (cell_of_blk harg rfl), cell_bl h (cell_of_blk harg rfl)⟩)
    have HQ := Lib.hid hq
    have HBL := Lib.hid hbl
    obtain ⟨B0, hB0⟩ : ∃ B, F p.m = B := ⟨_, rfl⟩
    have HB0 := Lib.hid hB0
    have HCV := Lib.hid (show ∀ W, Below wc.heap.size wc W → Calls Try.prog 43 #[.slice A1 L1 c1] W (NewL W p.vs L1) from fun W h => by
      have := CloneV_any p.vs A1 c1 S0 W ((HR.out.vars.later HBL.out).later h) HR.out.lv
      rw [HL1.out] at this
      exact this.mono fun e w' ⟨A', c', h1, h2, h3, h4⟩ => ⟨A', c', by rw [h1, HL1.out], h2, h3, h4⟩)
    have HCM := Lib.hid (show ∀ W, Below wc.heap.size wc W → Calls Try.prog f #[nv k n s A3 l3 c3] W fun e w' => ∃ v, e = .returned v ∧ NewB W B0 v w' from fun W h => by
      rw [← HB0.out]; exact newB_of (hmap p.m _ _ ((HMN.out.later HBL.out).later h).any))
    have hp0 : Pq wc wc 38 none none none := Pq.start wc _
    clear hq hbl harg hB0 bwc hz1 HQ1
    go_upto_region 4 with fail
    go_cut [4] (fun s4 wx => ∃ (g : Nat) (A4 : Option Addr) (c4 : Nat) (A5 : Option Addr) (c5 : Nat), s4 = .pointer (some ⟨g, 0, none⟩) ∧ p.vs.length ≤ c4 ∧ PI w wx 38 58 (.cells #[.slice A1 L1 c1, .slice A2 L2 c2, .int .u8 k, .int .i64 n, .string s, .slice A3 l3 c3] 38) (fun b => w.heap.size + 2 ≤ b ∧ b ≠ g) g A4 L1 c4 B0.k B0.n B0.s A5 B0.ks.length c5 (.slice none 0 0) p.vs B0 [])
    case first =>
      clear HV HVB HPF HR HMN HBL HB0 hlen HL1 HL2
      have HK0 := Lib.hid (HS1.out _ hp0.drew.low)
      have HK0l := Lib.hid (HS1.out _ hp0.lay.drew.low)
      go_region_held3 (fun w' => (w'.cell? ⟨w.heap.size, 0, none⟩ = some (.slice A1 L1 c1) ∧ w'.cell? ⟨w.heap.size, 2, none⟩ = some (.int .u8 k) ∧ w'.cell? ⟨w.heap.size, 3, none⟩ = some (.int .i64 n) ∧ w'.cell? ⟨w.heap.size, 4, none⟩ = some (.string s) ∧ w'.cell? ⟨w.heap.size, 5, none⟩ = some (.slice A3 l3 c3)))
        (first | with_reducible exact HK3.out | with_reducible exact HK3s.out _ _ _ _ _ _ | with_reducible exact HK3a.out _ | with_reducible exact HK2.out | with_reducible exact HK2l.out | with_reducible exact HK0.out | with_reducible exact HK0l.out)
        (first
          | (go_at_call 43; refine (HCV.out _ (by first | with_reducible exact hp0.drew.low | with_reducible exact hp0.lay.drew.low)).mono ?_; rintro e w2 ⟨A4, c4, rfl, hr4, hc4, bw4⟩; first | ((with_reducible have hpv := Pq.putV (w := wc) (b := none) hp0.drew hr4 bw4); have HK2 := Lib.hid (HS1.out _ hpv.low); have HK2l := Lib.hid (HS1.out _ hpv.lay.low)) | ((with_reducible have hpv := Pq.putV (w := wc) hp0.lay.drew hr4 bw4); have HK2 := Lib.hid (HS1.out _ hpv.low)))
          | (refine step_call1 (by rfl) (.tmp 12) (.tmp 14) _ (by rfl) f fn hfn (by rfl) _ (by rfl) _ (HCM.out _ (by first | with_reducible exact hpv.low | with_reducible exact hpv.lay.low)) ?_; rintro v3 w3 ⟨A5, c5, rfl, hn5, bw5⟩; first | ((with_reducible have hpq := Pq.putM (w := wc) (b := none) hpv hn5 bw5); have HK3 := Lib.hid (HS1.out _ hpq.low); have HK3a := Lib.hid (fun o => HS1.out _ (hpq.alloc o).low)) | ((with_reducible have hpq := Pq.putM (w := wc) hpv hn5 bw5); have hbx := (hpq.box _ rfl).2; have e0 : w3.cell? ⟨_, 0, none⟩ = some (.slice none 0 0) := cell_of_blk hbx rfl; have e1 : w3.cell? ⟨_, 1, none⟩ = some (.slice none 0 0) := cell_of_blk hbx rfl; have e2 : w3.cell? ⟨_, 2, none⟩ = some (.int .u8 0) := cell_of_blk hbx rfl; have e3 : w3.cell? ⟨_, 3, none⟩ = some (.int .i64 0) := cell_of_blk hbx rfl; have e4 : w3.cell? ⟨_, 4, none⟩ = some (.string ⟨#[]⟩) := cell_of_blk hbx rfl; have e5 : w3.cell? ⟨_, 5, none⟩ = some (.slice none 0 0) := cell_of_blk hbx rfl; have ef := fun i => frozen_of_blk (i := i) hbx; clear hbx; have HK3 := Lib.hid (HS1.out _ hpq.low); have HK3s := Lib.hid (fun u0 u1 u2 u3 u4 u5 => HS1.out _ (hpq.set6 u0 u1 u2 u3 u4 u5))) | ((with_reducible have hpq := Pq.putM (w := wc) hpv.lay hn5 bw5); have hbx := (hpq.box _ rfl).2; have e0 : w3.cell? ⟨_, 0, none⟩ = some (.slice none 0 0) := cell_of_blk hbx rfl; have e1 : w3.cell? ⟨_, 1, none⟩ = some (.slice none 0 0) := cell_of_blk hbx rfl; have e2 : w3.cell? ⟨_, 2, none⟩ = some (.int .u8 0) := cell_of_blk hbx rfl; have e3 : w3.cell? ⟨_, 3, none⟩ = some (.int .i64 0) := cell_of_blk hbx rfl; have e4 : w3.cell? ⟨_, 4, none⟩ = some (.string ⟨#[]⟩) := cell_of_blk hbx rfl; have e5 : w3.cell? ⟨_, 5, none⟩ = some (.slice none 0 0) := cell_of_blk hbx rfl; have ef := fun i => frozen_of_blk (i := i) hbx; clear hbx; have HK3 := Lib.hid (HS1.out _ hpq.low); have HK3s := Lib.hid (fun u0 u1 u2 u3 u4 u5 => HS1.out _ (hpq.set6 u0 u1 u2 u3 u4 u5))))
          | fail)
      all_goals (go_wp2_with fail; go_meet)
      · exact ⟨_, A4, c4, A5, c5, rfl, hc4, hpq.done2 HQ.out⟩
      · exact ⟨_, A4, c4, A5, c5, rfl, hc4, hpq.done HQ.out⟩
      · exact ⟨_, A4, c4, A5, c5, rfl, hc4, hpq.done HQ.out⟩
    case rest =>
      obtain ⟨g, A4, c4, A5, c5, rfl, hc4, hpi⟩ := hcut
      clear HS1 HQ HMN hb38 HCV HCM hp0 HV HVB
      have HC4 := Lib.hid hc4
      clear hc4
      have hbP := buildP1
      have hb58 := build58
      have aw : wc.cell? ⟨w.heap.size, 1, none⟩ = some (.slice A2 L2 c2) := cell_of_blk hpi.arg rfl
      go_wp2_with fail
      go_loopw [20] (fun i wr => ∃ (j : Nat) (A' : Option Addr) (c' : Nat), j ≤ L2 ∧ i = .int .i64 j ∧ PI w wr 38 58 (.cells #[.slice A1 L1 c1, .slice A2 L2 c2, .int .u8 k, .int .i64 n, .string s, .slice A3 l3 c3] 38) (fun b => w.heap.size + 2 ≤ b ∧ b ≠ g) g A4 L1 c4 B0.k B0.n B0.s A5 B0.ks.length c5 (.slice A' j c') p.vs B0 ((p.prs.take j).map (mapR F))) (fun i _ => L2 - (intOf i).toNat)
      case atStart => exact ⟨0, none, 0, Nat.zero_le _, rfl, hpi⟩
      case round =>
        obtain ⟨j, A', c', hj, rfl, hs⟩ := hrel
        clear hpi aw
        by_cases hlt : j < L2
        · have hltp : j < p.prs.length := by rw [HL2.out]; exact hlt
          obtain ⟨a, r, P1, d1, P2, d2, rfl, _, Hr, ⟨q0, q1, q2, q3, q4, q5⟩, hpr⟩ := (HR.out.procs.later hs.below).nd hltp
          have g1 : wr.cell? ⟨g, 1, none⟩ = some (.slice A' j c') := cell_of_blk hs.box rfl
          have hsz := hs.size
          have hge := hs.ge
          have hgl : g < wr.heap.size := blk_lt hs.box
          have HT := Lib.hid (show (p.prs.take j).map (mapR F) ++ [mapR F r] = (p.prs.take (j + 1)).map (mapR F) by rw [List.take_succ_eq_append_getElem hltp, Hr.out]; simp)
          have HT1 := Lib.hid (show ∀ x : PR, ((p.prs.take j).map (mapR F) ++ [x]).length = j + 1 from fun x => by simp; omega)
          have hlen1 : ((p.prs.take j).map (mapR F)).length + 1 ≤ 1000 := by simp; omega
          obtain ⟨B, hB⟩ : ∃ B, F r.b = B := ⟨_, rfl⟩
          have HB := Lib.hid hB
          obtain ⟨rl, hrl⟩ : ∃ l, r.ps.length = l := ⟨_, rfl⟩
          obtain ⟨rk, hrk⟩ : ∃ l, r.b.k = l := ⟨_, rfl⟩
          obtain ⟨rn, hrn⟩ : ∃ l, r.b.n = l := ⟨_, rfl⟩
          obtain ⟨rs, hrs⟩ : ∃ l, r.b.s = l := ⟨_, rfl⟩
          obtain ⟨rm, hrm⟩ : ∃ l, r.b.ks.length = l := ⟨_, rfl⟩
          have hbd := hpr.body
          rw [hrl] at q1
          rw [hrk] at q2
          rw [hrn] at q3
          rw [hrs] at q4
          rw [hrm] at q5
          rw [hrk, hrn, hrs, hrm] at hbd
          have HRL := Lib.hid hrl
          have HBD := Lib.hid hbd
          have HPR := Lib.hid hpr
          clear hB hpr hbd hrl hrk hrn hrs hrm
          go_upto_region 8 with fail
          obtain ⟨Wb, hWb⟩ : ∃ Wb, wr.alloc (.cells #[.string r.s, .slice P1 rl d1, .int .u8 rk, .int .i64 rn, .string rs, .slice P2 rm d2] 58) = Wb := ⟨_, rfl⟩
          rw [hWb]
          have hbb : Below wr.heap.size wr Wb := by rw [← hWb]; exact (Below.refl _ _).alloc (Nat.le_refl _) _
          have hpb : Wb.heap[wr.heap.size]? = some (.cells #[.string r.s, .slice P1 rl d1, .int .u8 rk, .int .i64 rn, .string rs, .slice P2 rm d2] 58 (0, 0)) := by rw [← hWb]; exact heap_alloc_new wr _
          have hzb : Wb.heap.size = wr.heap.size + 1 := by rw [← hWb]; simp
          have g1b : Wb.cell? ⟨g, 1, none⟩ = some (.slice A' j c') := cell_bl hbb g1
          have HS2 := Lib.hid (show ∀ w' : World, w'.heap[wr.heap.size]? = Wb.heap[wr.heap.size]? → (w'.cell? ⟨wr.heap.size, 0, none⟩ = some (.string r.s) ∧ w'.cell? ⟨wr.heap.size, 1, none⟩ = some (.slice P1 rl d1) ∧ w'.cell? ⟨wr.heap.size, 2, none⟩ = some (.int .u8 rk) ∧ w'.cell? ⟨wr.heap.size, 3, none⟩ = some (.int .i64 rn) ∧ w'.cell? ⟨wr.heap.size, 4, none⟩ = some (.string rs) ∧ w'.cell? ⟨wr.heap.size, 5, none⟩ = some (.slice P2 rm d2)) from
            fun w' h => have h' := h.trans hpb; ⟨cell_of_blk h' rfl, cell_of_blk h' rfl, cell_of_blk h' rfl, cell_of_blk h' rfl, cell_of_blk h' rfl, cell_of_blk h' rfl⟩)
          have HSW := Lib.hid (show ∀ w' : World, Below Wb.heap.size Wb w' → (w'.cell? ⟨wr.heap.size, 0, none⟩ = some (.string r.s) ∧ w'.cell? ⟨wr.heap.size, 1, none⟩ = some (.slice P1 rl d1) ∧ w'.cell? ⟨wr.heap.size, 2, none⟩ = some (.int .u8 rk) ∧ w'.cell? ⟨wr.heap.size, 3, none⟩ = some (.int .i64 rn) ∧ w'.cell? ⟨wr.heap.size, 4, none⟩ = some (.string rs) ∧ w'.cell? ⟨wr.heap.size, 5, none⟩ = some (.slice P2 rm d2)) from
            fun w' h => HS2.out w' (h.block _ (by omega)))
          have hlb := hs.below.trans (hbb.mono (by omega))
          have HCV := Lib.hid (show ∀ W, Below Wb.heap.size Wb W → Calls Try.prog 43 #[.slice P1 rl d1] W (NewL W r.ps rl) from fun W h => by
            have := CloneV_any r.ps P1 d1 S0 W ((HPR.out.row.later hbb).later h) HPR.out.lp
            rw [HRL.out] at this
            exact this.mono fun e w' ⟨A', c', h1, h2, h3, h4⟩ => ⟨A', c', by rw [h1, HRL.out], h2, h3, h4⟩)
          have HCM := Lib.hid (show ∀ W, Below Wb.heap.size Wb W → Calls Try.prog f #[nv rk rn rs P2 rm d2] W fun e w' => ∃ v, e = .returned v ∧ NewB W B v w' from fun W h => by
            rw [← HB.out]; exact newB_of (hmap r.b _ _ ((HBD.out.later hbb).later h).any))
          have HOB := Lib.hid (show ∀ b, Wb.heap.size ≤ b ∧ (none : Option Nat) ≠ some b → (w.heap.size + 2 ≤ b ∧ b ≠ g) ∧ some b ≠ (Value.slice A' j c').ownBlock from fun b hb => ⟨⟨by omega, by omega⟩, fun e => by have := hs.own.block b e.symm; omega⟩)
          have HNB := Lib.hid (show some wr.heap.size ≠ (Value.slice A' j c').ownBlock from fun e => by have := hs.own.block _ e.symm; omega)
          have HSB := Lib.hid (hs.later hbb)
          have hp0 : Pq Wb Wb 38 none none none := Pq.start Wb _
          have HZB := Lib.hid hzb
          clear hs hWb hbb hpb hlb q0 q1 q2 q3 q4 q5 g1 hzb
          have hne : ¬ wr.heap.size = g := by omega
          have hne' : ¬ g = wr.heap.size := by omega
          -- region 8 begins
          have hSS : (fun w' : World => (w'.cell? ⟨wr.heap.size, 0, none⟩ = some (.string r.s) ∧ w'.cell? ⟨wr.heap.size, 1, none⟩ = some (.slice P1 rl d1) ∧ w'.cell? ⟨wr.heap.size, 2, none⟩ = some (.int .u8 rk) ∧ w'.cell? ⟨wr.heap.size, 3, none⟩ = some (.int .i64 rn) ∧ w'.cell? ⟨wr.heap.size, 4, none⟩ = some (.string rs) ∧ w'.cell? ⟨wr.heap.size, 5, none⟩ = some (.slice P2 rm d2))) Wb.drew ∧ (fun w' : World => w'.cell? ⟨g, 1, none⟩ = some (.slice A' j c')) Wb.drew := ⟨HSW.out _ hp0.drew.low, g1b⟩
          refine wp_region_noPanic ?_
          refine wp_region_G (fun w' : World => (w'.cell? ⟨wr.heap.size, 0, none⟩ = some (.string r.s) ∧ w'.cell? ⟨wr.heap.size, 1, none⟩ = some (.slice P1 rl d1) ∧ w'.cell? ⟨wr.heap.size, 2, none⟩ = some (.int .u8 rk) ∧ w'.cell? ⟨wr.heap.size, 3, none⟩ = some (.int .i64 rn) ∧ w'.cell? ⟨wr.heap.size, 4, none⟩ = some (.string rs) ∧ w'.cell? ⟨wr.heap.size, 5, none⟩ = some (.slice P2 rm d2))) (fun w' : World => w'.cell? ⟨g, 1, none⟩ = some (.slice A' j c')) 13 (by kernel_rfl) ?_
          refine wpG_take1 (i := 0) (v := ?_) rfl (by kernel_rfl) (by kernel_rfl) (by kernel_rfl) (by decide) (fun _ _ _ h => h) (Or.inl ⟨by rfl, ?_⟩) hSS ?_
          rotate_left 1
          · (intro w hSw; (try dsimp only at hSw); (try simp only [List.getElem_toArray, List.getElem_cons_succ, List.getElem_cons_zero]); go_simp; (try with_reducible rfl))
          (try simp only [Act.put, List.getElem_toArray, List.getElem_cons_succ, List.getElem_cons_zero, List.setIfInBounds_toArray, List.set_cons_zero, List.set_cons_succ])
          refine wpG_take2 (i := 1) (v := ?_) rfl (by kernel_rfl) (by kernel_rfl) (by kernel_rfl) (by decide) rfl (by kernel_rfl) (by kernel_rfl) (fun _ _ _ h => h) (Or.inl ⟨by rfl, ?_⟩) hSS ?_
          rotate_left 1
          · (intro w hSw; (try dsimp only at hSw); (try simp only [List.getElem_toArray, List.getElem_cons_succ, List.getElem_cons_zero]); go_simp; (try with_reducible rfl))
          (try simp only [Act.put, List.getElem_toArray, List.getElem_cons_succ, List.getElem_cons_zero, List.setIfInBounds_toArray, List.set_cons_zero, List.set_cons_succ])
          refine wpG_take1 (i := 2) (v := ?_) rfl (by kernel_rfl) (by kernel_rfl) (by kernel_rfl) (by decide) (fun _ _ _ h => h) (Or.inl ⟨by rfl, ?_⟩) hSS ?_
          rotate_left 1
          · (intro w hSw; (try dsimp only at hSw); (try simp only [List.getElem_toArray, List.getElem_cons_succ, List.getElem_cons_zero]); go_simp; (try with_reducible rfl))
          (try simp only [Act.put, List.getElem_toArray, List.getElem_cons_succ, List.getElem_cons_zero, List.setIfInBounds_toArray, List.set_cons_zero, List.set_cons_succ])
          refine wpG_take1 (i := 3) (v := ?_) rfl (by kernel_rfl) (by kernel_rfl) (by kernel_rfl) (by decide) (fun _ _ _ h => h) (Or.inl ⟨by rfl, ?_⟩) hSS ?_
          rotate_left 1
          · (intro w hSw; (try dsimp only at hSw); (try simp only [List.getElem_toArray, List.getElem_cons_succ, List.getElem_cons_zero]); go_simp; (try with_reducible rfl))
          (try simp only [Act.put, List.getElem_toArray, List.getElem_cons_succ, List.getElem_cons_zero, List.setIfInBounds_toArray, List.set_cons_zero, List.set_cons_succ])
          refine wpG_take1 (i := 4) (v := ?_) rfl (by kernel_rfl) (by kernel_rfl) (by kernel_rfl) (by decide) (fun _ _ _ h => h) (Or.inl ⟨by rfl, ?_⟩) hSS ?_
          rotate_left 1
          · (intro w hSw; (try dsimp only at hSw); (try simp only [List.getElem_toArray, List.getElem_cons_succ, List.getElem_cons_zero]); go_simp; (try with_reducible rfl))
          (try simp only [Act.put, List.getElem_toArray, List.getElem_cons_succ, List.getElem_cons_zero, List.setIfInBounds_toArray, List.set_cons_zero, List.set_cons_succ])
          refine wpG_take1 (i := 5) (v := ?_) rfl (by kernel_rfl) (by kernel_rfl) (by kernel_rfl) (by decide) (fun _ _ _ h => h) (Or.inl ⟨by rfl, ?_⟩) hSS ?_
          rotate_left 1
          · (intro w hSw; (try dsimp only at hSw); (try simp only [List.getElem_toArray, List.getElem_cons_succ, List.getElem_cons_zero]); go_simp; (try with_reducible rfl))
          (try simp only [Act.put, List.getElem_toArray, List.getElem_cons_succ, List.getElem_cons_zero, List.setIfInBounds_toArray, List.set_cons_zero, List.set_cons_succ])
          refine wpG_take1 (i := 7) (v := ?_) rfl (by kernel_rfl) (by kernel_rfl) (by kernel_rfl) (by decide) (fun _ _ _ h => h) (Or.inl ⟨by rfl, ?_⟩) hSS ?_
          rotate_left 1
          · (intro w hSw; (try dsimp only at hSw); (try simp only [List.getElem_toArray, List.getElem_cons_succ, List.getElem_cons_zero]); go_simp; (try with_reducible rfl))
          (try simp only [Act.put, List.getElem_toArray, List.getElem_cons_succ, List.getElem_cons_zero, List.setIfInBounds_toArray, List.set_cons_zero, List.set_cons_succ])
          refine wpG_take1 (i := 8) (v := ?_) rfl (by kernel_rfl) (by kernel_rfl) (by kernel_rfl) (by decide) (fun _ _ _ h => h) (Or.inl ⟨by rfl, ?_⟩) hSS ?_
          rotate_left 1
          · (intro w hSw; (try dsimp only at hSw); (try simp only [List.getElem_toArray, List.getElem_cons_succ, List.getElem_cons_zero]); go_simp; (try with_reducible rfl))
          (try simp only [Act.put, List.getElem_toArray, List.getElem_cons_succ, List.getElem_cons_zero, List.setIfInBounds_toArray, List.set_cons_zero, List.set_cons_succ])
          refine wpG_take1 (i := 9) (v := ?_) rfl (by kernel_rfl) (by kernel_rfl) (by kernel_rfl) (by decide) (fun _ _ _ h => h) (Or.inl ⟨by rfl, ?_⟩) hSS ?_
          rotate_left 1
          · (intro w hSw; (try dsimp only at hSw); (try simp only [List.getElem_toArray, List.getElem_cons_succ, List.getElem_cons_zero]); go_simp; (try with_reducible rfl))
          (try simp only [Act.put, List.getElem_toArray, List.getElem_cons_succ, List.getElem_cons_zero, List.setIfInBounds_toArray, List.set_cons_zero, List.set_cons_succ])
          refine wpG_one (i := 6) (by kernel_rfl) rfl (fun K hK => ?_)
          refine step_call1 (by rfl) (.func 43) (.tmp 29) _ (by rfl) 43 _ fnCloneV (by rfl) _ (by rfl) _ (newLV_of (HCV.out _ hp0.drew.low)) ?_
          rintro v2 w2 ⟨A6, c6, rfl, hr6, hc6, bw6⟩
          have hpv := Pq.putV (w := Wb) hp0.drew hr6 bw6
          have hSS2 : (fun w' : World => (w'.cell? ⟨wr.heap.size, 0, none⟩ = some (.string r.s) ∧ w'.cell? ⟨wr.heap.size, 1, none⟩ = some (.slice P1 rl d1) ∧ w'.cell? ⟨wr.heap.size, 2, none⟩ = some (.int .u8 rk) ∧ w'.cell? ⟨wr.heap.size, 3, none⟩ = some (.int .i64 rn) ∧ w'.cell? ⟨wr.heap.size, 4, none⟩ = some (.string rs) ∧ w'.cell? ⟨wr.heap.size, 5, none⟩ = some (.slice P2 rm d2))) w2 ∧ (fun w' : World => w'.cell? ⟨g, 1, none⟩ = some (.slice A' j c')) w2 := ⟨HSW.out _ hpv.low, cell_bl hpv.low g1b⟩
          refine hK.out _ _ hSS2 ?_
          clear hK K hSS
          (try simp only [Act.put, List.getElem_toArray, List.getElem_cons_succ, List.getElem_cons_zero, List.setIfInBounds_toArray, List.set_cons_zero, List.set_cons_succ])
          refine wpG_one (i := 10) (by kernel_rfl) rfl (fun K hK => ?_)
          refine step_call1 (by rfl) (.tmp 31) (.tmp 33) _ (by rfl) f fn hfn (by rfl) _ (by rfl) _ (HCM.out _ hpv.low) ?_
          rintro v3 w3 ⟨A7, c7, rfl, hn7, bw7⟩
          have hpq := Pq.putM (w := Wb) hpv hn7 bw7
          have g3b : w3.cell? ⟨g, 1, none⟩ = some (.slice A' j c') := cell_bl hpq.low g1b
          have hSS3 : (fun w' : World => (w'.cell? ⟨wr.heap.size, 0, none⟩ = some (.string r.s) ∧ w'.cell? ⟨wr.heap.size, 1, none⟩ = some (.slice P1 rl d1) ∧ w'.cell? ⟨wr.heap.size, 2, none⟩ = some (.int .u8 rk) ∧ w'.cell? ⟨wr.heap.size, 3, none⟩ = some (.int .i64 rn) ∧ w'.cell? ⟨wr.heap.size, 4, none⟩ = some (.string rs) ∧ w'.cell? ⟨wr.heap.size, 5, none⟩ = some (.slice P2 rm d2))) w3 ∧ (fun w' : World => w'.cell? ⟨g, 1, none⟩ = some (.slice A' j c')) w3 := ⟨HSW.out _ hpq.low, g3b⟩
          have hs3 := HSB.out.later hpq.low
          have hpr3 : PrR w3 (fun b => (w.heap.size + 2 ≤ b ∧ b ≠ g) ∧ some b ≠ (Value.slice A' j c').ownBlock) ⟨r.s, r.ps, B⟩ A6 c6 A7 c7 := ⟨HPR.out.name, (hpq.vars _ _ rfl).mono HOB.out, HPR.out.lp, hc6, (hpq.main _ _ rfl).mono HOB.out⟩
          refine hK.out _ _ hSS3 ?_
          clear hK K hSS2
          (try simp only [Act.put, List.getElem_toArray, List.getElem_cons_succ, List.getElem_cons_zero, List.setIfInBounds_toArray, List.set_cons_zero, List.set_cons_succ])
          refine wpG_take1 (i := 11) (v := ?_) rfl (by kernel_rfl) (by kernel_rfl) (by kernel_rfl) (by decide) (fun _ _ _ h => h) (Or.inl ⟨by rfl, ?_⟩) hSS3 ?_
          rotate_left 1
          · (intro w hSw; (try dsimp only at hSw); (try simp only [List.getElem_toArray, List.getElem_cons_succ, List.getElem_cons_zero]); go_simp; (try with_reducible rfl))
          (try simp only [Act.put, List.getElem_toArray, List.getElem_cons_succ, List.getElem_cons_zero, List.setIfInBounds_toArray, List.set_cons_zero, List.set_cons_succ])
          refine wpG_one (i := 12) (by kernel_rfl) rfl (fun K hK => ?_)
          (try simp only [List.getElem_toArray, List.getElem_cons_succ, List.getElem_cons_zero])
          go_simp
          refine hK.out _ _ ⟨HSW.out _ (hpq.alloc _).low, cell_al g3b _⟩ ?_
          clear hK K hSS3
          (try simp only [Act.put, List.getElem_toArray, List.getElem_cons_succ, List.getElem_cons_zero, List.setIfInBounds_toArray, List.set_cons_zero, List.set_cons_succ])
          refine wpG_past (i := 13) (by kernel_rfl) rfl (by kernel_rfl) (fun K hK => ?_)
          refine step_append_procL (by rfl) (.tmp 25) (.tmp 36) 36 (by rfl) 58 i0 _ Try.underlying36 hi0 hz0 hz1 hz2 rfl (w.heap.size + 2) (fun b => w.heap.size + 2 ≤ b ∧ b ≠ g) (.slice A' j c') _ (by rfl) hs3.own ⟨r.s, r.ps, B⟩ rl HRL.out A6 c6 A7 c7 (by rfl) hpr3 hlen1 hs3.size ?_
          intro v8 w4 hown2 hg2 hob2
          obtain ⟨A8, c8, hv8, _, _⟩ := hown2.row
          rw [HT1.out] at hv8
          have hne2 : v8.ownBlock ≠ some g := (fun e => by rcases hob2 with h | ⟨b, h, h'⟩; rw [h] at e; exact hs3.ne e; rw [h] at e; injection e with e; have := hpq.low.size; have := HZB.out; omega)
          have hst := hs3.put hown2 hg2 hne2 hob2
          have hbx := (hg2.block _ (blk_lt hs3.box) (fun e => hs3.ne e.symm)).trans hs3.box
          have hy0 : w4.cell? ⟨g, 1, none⟩ = some (.slice A' j c') := cell_of_blk hbx rfl
          have hy1 : w4.frozen? ⟨g, 1, none⟩ = false := frozen_of_blk hbx
          have hkb := (hg2.block _ (by have := hpq.low.size; have := HZB.out; omega) HNB.out).trans (hpq.low.block _ (by have := HZB.out; omega))
          have HK4 := Lib.hid (HS2.out _ hkb)
          have HK5 := Lib.hid (HS2.out _ ((Below.heap_setCell w4 ⟨g, 1, none⟩ v8 _ hne).trans hkb))
          rw [hv8] at hst HK5
          have HST := Lib.hid hst
          clear hst hne2 hkb hbx hg2 hob2 hown2
          rw [hv8]
          refine hK.out _ _ HK4.out ?_
          clear hK K hpr3 hs3 hpq hpv bw6 bw7 hn7 hr6 g3b
          (try simp only [Act.put, List.getElem_toArray, List.getElem_cons_succ, List.getElem_cons_zero, List.setIfInBounds_toArray, List.set_cons_zero, List.set_cons_succ])
          refine wpG_past (i := 14) (by kernel_rfl) rfl (by kernel_rfl) (fun K hK => ?_)
          (try simp only [List.getElem_toArray, List.getElem_cons_succ, List.getElem_cons_zero])
          go_simp
          refine hK.out _ _ HK4.out ?_
          clear hK K
          (try simp only [Act.put, List.getElem_toArray, List.getElem_cons_succ, List.getElem_cons_zero, List.setIfInBounds_toArray, List.set_cons_zero, List.set_cons_succ])
          refine wpG_past (i := 15) (by kernel_rfl) rfl (by kernel_rfl) (fun K hK => ?_)
          (try simp only [List.getElem_toArray, List.getElem_cons_succ, List.getElem_cons_zero])
          go_simp
          refine hK.out _ _ HK5.out ?_
          clear hK K
          (try simp only [Act.put, List.getElem_toArray, List.getElem_cons_succ, List.getElem_cons_zero, List.setIfInBounds_toArray, List.set_cons_zero, List.set_cons_succ])
          refine wpG_done (by kernel_rfl) ?_
          refine NoPanic.normal ?_
          -- region 8 ends
          all_goals
            go_wp2_with fail
            go_roundw
            case rel =>
              have h1 := HST.out
              have e2 := HT.out
              have e3 : mapR F r = ⟨r.s, r.ps, B⟩ := by unfold mapR; rw [HB.out]
              rw [e3] at e2
              rw [e2] at h1
              exact ⟨j + 1, A8, c8, by omega, by go_num, h1⟩
            case measure => simp [intOf]; omega
        · obtain rfl : j = L2 := by omega
          rw [List.take_of_length_le (by rw [HL2.out]; omega)] at hs
          have g0 : wr.cell? ⟨g, 0, none⟩ = some (.slice A4 L1 c4) := cell_of_blk hs.box rfl
          have g1 : wr.cell? ⟨g, 1, none⟩ = some (.slice A' j c') := cell_of_blk hs.box rfl
          have g2 : wr.cell? ⟨g, 2, none⟩ = some (.int .u8 B0.k) := cell_of_blk hs.box rfl
          have g3 : wr.cell? ⟨g, 3, none⟩ = some (.int .i64 B0.n) := cell_of_blk hs.box rfl
          have g4 : wr.cell? ⟨g, 4, none⟩ = some (.string B0.s) := cell_of_blk hs.box rfl
          have g5 : wr.cell? ⟨g, 5, none⟩ = some (.slice A5 B0.ks.length c5) := cell_of_blk hs.box rfl
          have r0 : wr.cell? ⟨w.heap.size + 1, 0, none⟩ = some (.slice none 0 0) := cell_of_blk hs.res rfl
          have r1 : wr.cell? ⟨w.heap.size + 1, 1, none⟩ = some (.slice none 0 0) := cell_of_blk hs.res rfl
          have r2 : wr.cell? ⟨w.heap.size + 1, 2, none⟩ = some (.int .u8 0) := cell_of_blk hs.res rfl
          have r3 : wr.cell? ⟨w.heap.size + 1, 3, none⟩ = some (.int .i64 0) := cell_of_blk hs.res rfl
          have r4 : wr.cell? ⟨w.heap.size + 1, 4, none⟩ = some (.string ⟨#[]⟩) := cell_of_blk hs.res rfl
          have r5 : wr.cell? ⟨w.heap.size + 1, 5, none⟩ = some (.slice none 0 0) := cell_of_blk hs.res rfl
          have rz : ∀ i, wr.frozen? ⟨w.heap.size + 1, i, none⟩ = false := fun i => frozen_of_blk hs.res
          have HRES := Lib.hid (hs.result (A2 := A') (l2 := j) (c2 := c') rfl HL1.out.symm HR.out.lv HC4.out (From w.heap.size) (fun b hb => by show w.heap.size ≤ b; omega) (fun b hb => by show w.heap.size ≤ b; omega))
          have HEQ := Lib.hid (show progF p = ⟨p.vs, p.prs.map (mapR F), B0⟩ by rw [HPF.out, HB0.out])
          clear hs
          go_wp2_with fail
          exact bodyPost_ret (v := pv A4 L1 c4 A' j c' B0.k B0.n B0.s A5 B0.ks.length c5) (by simp [results, Try.results22, go_sem, r0, r1, r2, r3, r4, r5]) rfl ⟨_, rfl, by rw [HEQ.out]; exact HRES.out.1, HRES.out.2⟩

end Go.Proofs.Ytldcjboignbfpaa
