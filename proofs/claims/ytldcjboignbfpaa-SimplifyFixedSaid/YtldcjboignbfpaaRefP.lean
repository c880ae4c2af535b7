/-
  The contract of the reference's Program (backstepref46).
-/
import Derived.Test.YtldcjboignbfpaaPi
import Derived.Test.YtldcjboignbfpaaRefB
import Derived.Test.YtldcjboignbfpaaVal
import Derived.Test.YtldcjboignbfpaaPq
namespace Go.Proofs.Ytldcjboignbfpaa
open Go.RowKit

/-- A procedure with its body simplified. -/
def simpR (r : PR) : PR := ⟨r.s, r.ps, simp r.b⟩
/-- backstepref46.Program. -/
def simpG (p : PG) : PG := ⟨p.vs, p.prs.map simpR, simp p.m⟩

set_option maxHeartbeats 8000000 in
set_option maxRecDepth 100000 in
theorem RProgram_any (p : PG) (S0 : Nat → Prop) (v : Value) (w : World) (hv : PV w S0 p v) (hm : isB p.m = true) (hps : ∀ r ∈ p.prs, isB r.b = true) (hlen : p.prs.length ≤ 64) :
    Calls Try.prog 26 #[v] w fun e w' => ∃ v', e = .returned v' ∧ PV w' (fun b => S0 b ∨ w.heap.size ≤ b) (simpG p) v' ∧ Below w.heap.size w w' := by
  obtain ⟨i0, hi0, hz0, hz1, hz2⟩ := info_parts prInfo
  obtain ⟨A1, c1, A2, c2, A3, c3, rfl, hr0⟩ := hv
  have hr : PgR w (fun b => S0 b ∧ b < w.heap.size) p A1 c1 A2 c2 A3 c3 := hr0.keep (fun b hb hlt => ⟨hb, hlt⟩) fun _ _ _ => rfl
  have HR := Lib.hid hr
  have HMB := Lib.hid hm
  have HPB := Lib.hid hps
  have hmm := hr.main
  obtain ⟨L1, hL1⟩ : ∃ L, p.vs.length = L := ⟨_, rfl⟩
  obtain ⟨L2, hL2⟩ : ∃ L, p.prs.length = L := ⟨_, rfl⟩
  obtain ⟨k, hk⟩ : ∃ k, p.m.k = k := ⟨_, rfl⟩
  obtain ⟨n, hn⟩ : ∃ n, p.m.n = n := ⟨_, rfl⟩
  obtain ⟨s, hs⟩ : ∃ s, p.m.s = s := ⟨_, rfl⟩
  obtain ⟨l3, hl3⟩ : ∃ l, p.m.ks.length = l := ⟨_, rfl⟩
  rw [hk, hn, hs, hl3] at hmm
  rw [hL2] at hlen
  rw [hL1, hL2, hk, hn, hs, hl3]
  have HL1 := Lib.hid hL1
  have HL2 := Lib.hid hL2
  have HMN := Lib.hid hmm
  clear hr hr0 hmm hm hps hL1 hL2 hk hn hs hl3
  have hb38 := build38
  go_enter Try.func26, Try.ntmps26
  go_upto_region 1 with fail
  obtain ⟨W1, hW1⟩ : ∃ W1, (w.alloc (.cells #[.slice A1 L1 c1, .slice A2 L2 c2, .int .u8 k, .int .i64 n, .string s, .slice A3 l3 c3] 38)).alloc (.cells ZP 38) = W1 := ⟨_, rfl⟩
  have q1 : Below w.heap.size w W1 := by subst hW1; exact ((Below.refl _ _).alloc (Nat.le_refl _) _).alloc (by simp) _
  have hc1 : (fun w' => (w'.cell? ⟨w.heap.size, 0, none⟩ = some (.slice A1 L1 c1) ∧ w'.cell? ⟨w.heap.size, 2, none⟩ = some (.int .u8 k) ∧ w'.cell? ⟨w.heap.size, 3, none⟩ = some (.int .i64 n) ∧ w'.cell? ⟨w.heap.size, 4, none⟩ = some (.string s) ∧ w'.cell? ⟨w.heap.size, 5, none⟩ = some (.slice A3 l3 c3))) W1 := by subst hW1; exact ⟨by simp, by simp, by simp, by simp, by simp⟩
  have HS1 := Lib.hid (show ∀ w', Below W1.heap.size W1 w' → (w'.cell? ⟨w.heap.size, 0, none⟩ = some (.slice A1 L1 c1) ∧ w'.cell? ⟨w.heap.size, 2, none⟩ = some (.int .u8 k) ∧ w'.cell? ⟨w.heap.size, 3, none⟩ = some (.int .i64 n) ∧ w'.cell? ⟨w.heap.size, 4, none⟩ = some (.string s) ∧ w'.cell? ⟨w.heap.size, 5, none⟩ = some (.slice A3 l3 c3)) from fun w' h => ⟨cell_bl h hc1.1, cell_bl h hc1.2.1, cell_bl h hc1.2.2.1, cell_bl h hc1.2.2.2.1, cell_bl h hc1.2.2.2.2⟩)
  have HW1 := Lib.hid hW1
  have HQ1 := Lib.hid q1
  rw [show (w.alloc (.cells #[.slice A1 L1 c1, .slice A2 L2 c2, .int .u8 k, .int .i64 n, .string s, .slice A3 l3 c3] 38)).alloc (.cells #[.slice none 0 0, .slice none 0 0, .int .u8 0, .int .i64 0, .string ⟨#[]⟩, .slice none 0 0] 38) = W1 from hW1]
  clear hW1 q1 hc1
  go_cut [3] (fun s3 wx => ∃ (g : Nat) (k' n' : Int) (s' : ByteArray) (A4 : Option Addr) (l4 c4 : Nat), s3 = .pointer (some ⟨g, 0, none⟩) ∧ PI w wx 38 58 (.cells #[.slice A1 L1 c1, .slice A2 L2 c2, .int .u8 k, .int .i64 n, .string s, .slice A3 l3 c3] 38) (fun b => (S0 b ∧ b < w.heap.size) ∨ (w.heap.size + 2 ≤ b ∧ b ≠ g)) g A1 L1 c1 k' n' s' A4 l4 c4 (.slice none 0 0) p.vs (simp p.m) [])
  case first =>
    go_region_held3 (fun w' => (w'.cell? ⟨w.heap.size, 0, none⟩ = some (.slice A1 L1 c1) ∧ w'.cell? ⟨w.heap.size, 2, none⟩ = some (.int .u8 k) ∧ w'.cell? ⟨w.heap.size, 3, none⟩ = some (.int .i64 n) ∧ w'.cell? ⟨w.heap.size, 4, none⟩ = some (.string s) ∧ w'.cell? ⟨w.heap.size, 5, none⟩ = some (.slice A3 l3 c3)))
      (first | with_reducible exact HS1.out _ (below_set6 bz (Nat.le_refl _) _ _ _ _ _ _) | with_reducible exact HS1.out _ bz | with_reducible exact HS1.out _ (Below.alloc bz bz.size _) | with_reducible exact HS1.out _ (Below.refl _ _).drew | with_reducible exact HS1.out _ (Below.drew ((Below.refl _ _).alloc (Nat.le_refl _) _)))
      (first
        | (go_at_call 20; refine (refBlock_any p.m HMB.out _ _ _ ((HMN.out.later HQ1.out).later (by first | exact (Below.refl _ _).drew | exact ((Below.refl _ _).alloc (Nat.le_refl _) _).drew))).mono ?_; rintro e w2 ⟨k2, n2, s2, A4, l4, c4, rfl, hn2, bw2⟩; first | have bz := (Below.refl W1.heap.size W1).drew.trans (bw2.mono (by simp)) | (have bz := ((Below.refl W1.heap.size W1).alloc (Nat.le_refl _) (.cells ZP 38)).drew.trans (bw2.mono (by simp)); have hbx : w2.heap[W1.heap.size]? = some (.cells ZP 38 (0, 0)) := (bw2.block _ (by simp)).trans (heap_alloc_new W1 _); have z0 : w2.cell? ⟨W1.heap.size, 0, none⟩ = some (.slice none 0 0) := cell_of_blk hbx rfl; have z1 : w2.cell? ⟨W1.heap.size, 1, none⟩ = some (.slice none 0 0) := cell_of_blk hbx rfl; have z2 : w2.cell? ⟨W1.heap.size, 2, none⟩ = some (.int .u8 0) := cell_of_blk hbx rfl; have z3 : w2.cell? ⟨W1.heap.size, 3, none⟩ = some (.int .i64 0) := cell_of_blk hbx rfl; have z4 : w2.cell? ⟨W1.heap.size, 4, none⟩ = some (.string ⟨#[]⟩) := cell_of_blk hbx rfl; have z5 : w2.cell? ⟨W1.heap.size, 5, none⟩ = some (.slice none 0 0) := cell_of_blk hbx rfl; have zf := fun i => frozen_of_blk (i := i) hbx))
        | fail)
    all_goals (go_wp2_with fail; go_meet)
    · exact ⟨_, k2, n2, s2, A4, l4, c4, rfl, PI.start_last HW1.out bz (fun b hb => hb.2) ((HR.out.vars.later HQ1.out).later bz) hn2⟩
    · exact ⟨_, k2, n2, s2, A4, l4, c4, rfl, PI.start_first HW1.out rfl ((Below.refl _ _).drew.trans (bw2.mono (by simp))) (fun b hb => hb.2) ((HR.out.vars.later HQ1.out).later bz) (hn2.mono fun b hb => by rcases hb with hb | hb; exact .inl hb; exact .inr (by simpa using hb))⟩
  case rest =>
    obtain ⟨g, k', n', s', A4, l4, c4, rfl, hpi⟩ := hcut
    clear HS1 HW1 HQ1 HMN hb38
    have hbP := buildP1
    go_wp2_with fail
    go_loopw [4] (fun i wr => ∃ (j : Nat) (A' : Option Addr) (c' : Nat), j ≤ L2 ∧ i = .int .i64 j ∧ PI w wr 38 58 (.cells #[.slice A1 L1 c1, .slice A2 L2 c2, .int .u8 k, .int .i64 n, .string s, .slice A3 l3 c3] 38) (fun b => (S0 b ∧ b < w.heap.size) ∨ (w.heap.size + 2 ≤ b ∧ b ≠ g)) g A1 L1 c1 k' n' s' A4 l4 c4 (.slice A' j c') p.vs (simp p.m) ((p.prs.take j).map simpR)) (fun i _ => L2 - (intOf i).toNat)
    case atStart => exact ⟨0, none, 0, Nat.zero_le _, rfl, hpi⟩
    case round =>
      obtain ⟨j, A', c', hj, rfl, hs⟩ := hrel
      clear hpi
      by_cases hlt : j < L2
      · have hltp : j < p.prs.length := by rw [HL2.out]; exact hlt
        obtain ⟨a, r, P1, d1, P2, d2, rfl, _, Hr, ⟨q0, q1, q2, q3, q4, q5⟩, hpr⟩ := (HR.out.procs.later hs.below).nd hltp
        have a1 : wr.cell? ⟨w.heap.size, 1, none⟩ = some (.slice (some a) L2 c2) := cell_of_blk hs.arg rfl
        have g1 : wr.cell? ⟨g, 1, none⟩ = some (.slice A' j c') := cell_of_blk hs.box rfl
        have hsz := hs.size
        have hge := hs.ge
        have hgl : g < wr.heap.size := blk_lt hs.box
        have HT := Lib.hid (show (p.prs.take j).map simpR ++ [simpR r] = (p.prs.take (j + 1)).map simpR by rw [List.take_succ_eq_append_getElem hltp, Hr.out]; simp)
        have HT1 := Lib.hid (show ∀ x : PR, ((p.prs.take j).map simpR ++ [x]).length = j + 1 from fun x => by simp; omega)
        have hlen1 : ((p.prs.take j).map simpR).length + 1 ≤ 1000 := by simp; omega
        have hBr : isB r.b = true := HPB.out r (by rw [← Hr.out]; exact List.getElem_mem hltp)
        have HOB := Lib.hid (show ∀ b, (S0 b ∧ b < w.heap.size) ∨ (wr.heap.size ≤ b) → ((S0 b ∧ b < w.heap.size) ∨ (w.heap.size + 2 ≤ b ∧ b ≠ g)) ∧ some b ≠ (Value.slice A' j c').ownBlock from fun b hb => ⟨by rcases hb with hb | hb; exact .inl hb; exact .inr ⟨by omega, by omega⟩, fun e => by have := hs.own.block b e.symm; rcases hb with hb | hb <;> omega⟩)
        obtain ⟨B, hB⟩ : ∃ B, simp r.b = B := ⟨_, rfl⟩
        have HB := Lib.hid hB
        have hW0 := (Below.refl wr.heap.size wr).alloc (Nat.le_refl _) (.cells #[.string r.s, .slice P1 r.ps.length d1, .int .u8 r.b.k, .int .i64 r.b.n, .string r.b.s, .slice P2 r.b.ks.length d2] 58)
        have HC := Lib.hid (refBlock_any r.b hBr _ _ _ (hpr.body.later hW0))
        have HPR := Lib.hid hpr
        have HS := Lib.hid hs
        clear hB hBr hpr hs hW0
        go_wp2_with fail
        refine HC.out.mono ?_
        rintro e w1 ⟨k1, n1, s1, A5, l5, c5, rfl, hn1, hb1⟩
        rw [HB.out] at hn1
        obtain ⟨A6, c6, e6, _⟩ := hn1.open_
        simp only [nv, Value.agg.injEq, Array.mk.injEq, List.cons.injEq, Value.int.injEq, Value.string.injEq, Value.slice.injEq, true_and, and_true] at e6
        obtain ⟨rfl, rfl, rfl, rfl, rfl, rfl⟩ := e6
        have hbw : Below wr.heap.size wr w1 := ((Below.refl _ _).alloc (Nat.le_refl _) _).trans (hb1.mono (by simp))
        have z0 : w1.cell? ⟨wr.heap.size, 0, none⟩ = some (.string r.s) := cell_bl hb1 (by simp)
        have z1 : w1.cell? ⟨wr.heap.size, 1, none⟩ = some (.slice P1 r.ps.length d1) := cell_bl hb1 (by simp)
        have z2 : w1.cell? ⟨wr.heap.size, 2, none⟩ = some (.int .u8 r.b.k) := cell_bl hb1 (by simp)
        have z3 : w1.cell? ⟨wr.heap.size, 3, none⟩ = some (.int .i64 r.b.n) := cell_bl hb1 (by simp)
        have z4 : w1.cell? ⟨wr.heap.size, 4, none⟩ = some (.string r.b.s) := cell_bl hb1 (by simp)
        have z5 : w1.cell? ⟨wr.heap.size, 5, none⟩ = some (.slice P2 r.b.ks.length d2) := cell_bl hb1 (by simp)
        have zf : ∀ i, w1.frozen? ⟨wr.heap.size, i, none⟩ = false := fun i => by rw [hb1.frozen (p := ⟨wr.heap.size, i, none⟩) (by simp)]; simp
        have y1 : w1.cell? ⟨g, 1, none⟩ = some (.slice A' j c') := cell_bl hbw g1
        have hne : ¬ wr.heap.size = g := by omega
        have hne' : ¬ g = wr.heap.size := by omega
        have hW : Below wr.heap.size wr ((((w1.setCell ⟨wr.heap.size, 2, none⟩ (.int .u8 B.k)).setCell ⟨wr.heap.size, 3, none⟩ (.int .i64 B.n)).setCell ⟨wr.heap.size, 4, none⟩ (.string B.s)).setCell ⟨wr.heap.size, 5, none⟩ (.slice A5 B.ks.length c5)) := (((hbw.setCell (by simp) _).setCell (by simp) _).setCell (by simp) _).setCell (by simp) _
        have hsW := HS.out.later hW
        have hnW : PrR ((((w1.setCell ⟨wr.heap.size, 2, none⟩ (.int .u8 B.k)).setCell ⟨wr.heap.size, 3, none⟩ (.int .i64 B.n)).setCell ⟨wr.heap.size, 4, none⟩ (.string B.s)).setCell ⟨wr.heap.size, 5, none⟩ (.slice A5 B.ks.length c5)) (fun b => ((S0 b ∧ b < w.heap.size) ∨ (w.heap.size + 2 ≤ b ∧ b ≠ g)) ∧ some b ≠ (Value.slice A' j c').ownBlock) ⟨r.s, r.ps, B⟩ P1 d1 A5 c5 := by
          refine ⟨HPR.out.name, (HPR.out.row.later hW).mono fun b hb => HOB.out b (.inl hb), HPR.out.lp, HPR.out.lc, ?_⟩
          refine hn1.keep (fun b hb _ => HOB.out b (by rcases hb with hb | hb; exact .inl hb; exact .inr (by simp at hb; omega))) fun b hb _ => ?_
          have hb' : b ≠ wr.heap.size := by rcases hb with hb | hb; omega; simp at hb; omega
          rw [Below.heap_setCell _ _ _ _ (by simpa using hb'), Below.heap_setCell _ _ _ _ (by simpa using hb'), Below.heap_setCell _ _ _ _ (by simpa using hb'), Below.heap_setCell _ _ _ _ (by simpa using hb')]
        clear hb1 hn1 hbw
        go_wp2_with (at_builtin; refine wpList_append_procH rfl (.tmp 29) (.tmp 31) 36 rfl 58 i0 _ Try.underlying36 hi0 hz0 hz1 hz2 rfl (w.heap.size + 2) (fun b => (S0 b ∧ b < w.heap.size) ∨ (w.heap.size + 2 ≤ b ∧ b ≠ g)) (.slice A' j c') _ rfl hsW.own ⟨r.s, r.ps, B⟩ P1 d1 A5 c5 w1.heap.size (by simp [World.setCell]) rfl hnW hlen1 hsW.size ?_; intro v2 w2 hown2 hg2 hob2; obtain ⟨A7, c7, hv7, hc7, _⟩ := hown2.row; rw [HT1.out] at hv7; have hne2 : v2.ownBlock ≠ some g := (fun e => by rcases hob2 with h | ⟨b, h, h'⟩; rw [h] at e; exact hsW.ne e; rw [h] at e; injection e with e; have := hW.size; omega); have hst := hsW.put hown2 hg2 hne2 hob2; have hbx := (hg2.block _ (blk_lt hsW.box) (fun e => hsW.ne e.symm)).trans hsW.box; have hy0 : w2.cell? ⟨g, 1, none⟩ = some (.slice A' j c') := cell_of_blk hbx rfl; have hy1 : w2.frozen? ⟨g, 1, none⟩ = false := frozen_of_blk hbx; rw [hv7] at hst; have HST := Lib.hid hst; clear hst hc7 hne2; rw [hv7])
        go_roundw
        case rel =>
          have h1 := HST.out
          have e2 := HT.out
          have e3 : simpR r = ⟨r.s, r.ps, B⟩ := by unfold simpR; rw [HB.out]
          rw [e3] at e2
          rw [e2] at h1
          exact ⟨j + 1, A7, c7, by omega, by go_num, h1⟩
        case measure => simp [intOf]; omega
      · obtain rfl : j = L2 := by omega
        rw [List.take_of_length_le (by rw [HL2.out]; omega)] at hs
        have a1 : wr.cell? ⟨w.heap.size, 1, none⟩ = some (.slice A2 j c2) := cell_of_blk hs.arg rfl
        have g0 : wr.cell? ⟨g, 0, none⟩ = some (.slice A1 L1 c1) := cell_of_blk hs.box rfl
        have g1 : wr.cell? ⟨g, 1, none⟩ = some (.slice A' j c') := cell_of_blk hs.box rfl
        have g2 : wr.cell? ⟨g, 2, none⟩ = some (.int .u8 k') := cell_of_blk hs.box rfl
        have g3 : wr.cell? ⟨g, 3, none⟩ = some (.int .i64 n') := cell_of_blk hs.box rfl
        have g4 : wr.cell? ⟨g, 4, none⟩ = some (.string s') := cell_of_blk hs.box rfl
        have g5 : wr.cell? ⟨g, 5, none⟩ = some (.slice A4 l4 c4) := cell_of_blk hs.box rfl
        have r0 : wr.cell? ⟨w.heap.size + 1, 0, none⟩ = some (.slice none 0 0) := cell_of_blk hs.res rfl
        have r1 : wr.cell? ⟨w.heap.size + 1, 1, none⟩ = some (.slice none 0 0) := cell_of_blk hs.res rfl
        have r2 : wr.cell? ⟨w.heap.size + 1, 2, none⟩ = some (.int .u8 0) := cell_of_blk hs.res rfl
        have r3 : wr.cell? ⟨w.heap.size + 1, 3, none⟩ = some (.int .i64 0) := cell_of_blk hs.res rfl
        have r4 : wr.cell? ⟨w.heap.size + 1, 4, none⟩ = some (.string ⟨#[]⟩) := cell_of_blk hs.res rfl
        have r5 : wr.cell? ⟨w.heap.size + 1, 5, none⟩ = some (.slice none 0 0) := cell_of_blk hs.res rfl
        have rz : ∀ i, wr.frozen? ⟨w.heap.size + 1, i, none⟩ = false := fun i => frozen_of_blk hs.res
        have HRES := Lib.hid (hs.result (A2 := A') (l2 := j) (c2 := c') rfl HL1.out.symm HR.out.lv HR.out.lvc (fun b => S0 b ∨ w.heap.size ≤ b) (fun b hb => by rcases hb with hb | hb; exact .inl hb.1; exact .inr (by omega)) (fun b hb => .inr (by omega)))
        clear hs
        go_wp2_with fail
        exact bodyPost_ret (v := pv A1 L1 c1 A' j c' k' n' s' A4 l4 c4) (by simp [results, Try.results26, go_sem, r0, r1, r2, r3, r4, r5]) rfl ⟨_, rfl, HRES.out.1, HRES.out.2⟩

end Go.Proofs.Ytldcjboignbfpaa
