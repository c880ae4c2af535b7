/-
  The contract of scope.Check: as many faults as chkN says.
-/
import Derived.Test.YtldcjboignbfpaaScV
import Derived.Test.YtldcjboignbfpaaFx
import Derived.Laws.EntriesVeiled
namespace Go.Proofs.Ytldcjboignbfpaa
open Go Go.RowKit

section
variable {P : Program} {ops : Array Oper} {Q : Exit → Act → World → Prop} {md : Region.Mode} {S1 S2 : World → Prop} {k : Nat}
/-- Two operations may come up now. -/
theorem wpG_two {i j : Nat} {o o' : Oper} {fuel : Nat} {listed : Array Bool} {a : Act} {w : World} (hr : Region.ready md ops listed = [i, j]) (ho : ops[i]? = some o) (ho' : ops[j]? = some o')
    (h : ∀ K' : Act → World → Prop, Shut (∀ a w, S1 w ∧ S2 w → wpG P md ops Q S1 S2 k fuel (listed.setIfInBounds i true) a w → K' a w) → if Region.wanted o (yielded ops a.tmps) = true then Oper.wp P o a w K' Q else K' (a.put o.dst undef) w)
    (h' : ∀ K' : Act → World → Prop, Shut (∀ a w, S1 w ∧ S2 w → wpG P md ops Q S1 S2 k fuel (listed.setIfInBounds j true) a w → K' a w) → if Region.wanted o' (yielded ops a.tmps) = true then Oper.wp P o' a w K' Q else K' (a.put o'.dst undef) w) :
    wpG P md ops Q S1 S2 k (fuel + 1) listed a w := by
  refine ⟨(fun h0 => by rw [hr] at h0; cases h0), fun x hx => ?_⟩
  rw [hr] at hx
  simp only [List.mem_cons, List.not_mem_nil, or_false] at hx
  rcases hx with rfl | rfl
  · exact wpOp_step ho fun K' hK => h K' fun a w hS hW => hK a w ⟨⟨hS.1, fun _ => hS.2⟩, hW⟩
  · exact wpOp_step ho' fun K' hK => h' K' fun a w hS hW => hK a w ⟨⟨hS.1, fun _ => hS.2⟩, hW⟩
end

/-- Faults of the first j declarations. -/
def frsN (vs : List VD) : Nat → Nat
  | 0 => 0
  | j + 1 => frsN vs j + (if h : j < vs.length then one1 (freshE (vs.take j) vs[j].s) else 0)
theorem frsN_succ {vs : List VD} {j : Nat} (h : j < vs.length) : frsN vs (j + 1) = frsN vs j + one1 (freshE (vs.take j) vs[j].s) := by simp [frsN, h]
theorem frsN_le (vs : List VD) : ∀ j, frsN vs j ≤ j
  | 0 => by simp [frsN]
  | j + 1 => by
    have h := frsN_le vs j
    rw [frsN]
    split
    · have := one1_le (freshE (vs.take j) vs[j].s); omega
    · omega
/-- Faults of procedure j. -/
def prcE (ps : List PR) (j : Nat) (r : PR) : Nat := one1 (if procE ps r.s < (j : Int) then 22 else 0) + frsN r.ps r.ps.length + cntV ps r.b r.ps
def prcN (ps : List PR) : Nat → Nat
  | 0 => 0
  | j + 1 => prcN ps j + (if h : j < ps.length then prcE ps j ps[j] else 0)
theorem prcN_succ {ps : List PR} {j : Nat} (h : j < ps.length) : prcN ps (j + 1) = prcN ps j + prcE ps j ps[j] := by simp [prcN, h]
/-- How many faults scope.Check finds in a valid program. -/
def chkN (p : PG) : Nat := frsN p.vs p.vs.length + prcN p.prs p.prs.length + cntV p.prs p.m p.vs
set_option maxRecDepth 100000 in
theorem valid_body {t : T} (h : isBodyB t = true) : dep t ≤ 80 ∧ size t ≤ 2000 := by
  simp only [isBodyB, Bool.and_eq_true] at h
  have h1 := h.1
  rw [lim_eq] at h1
  split at h1
  · assumption
  · simp at h1
set_option maxRecDepth 100000 in
theorem valid_bounds {p : PG} (h : validB p = true) : p.vs.length ≤ 32 ∧ p.prs.length ≤ 64 ∧ (∀ r ∈ p.prs, r.ps.length ≤ 8 ∧ dep r.b ≤ 80 ∧ size r.b ≤ 2000) ∧ dep p.m ≤ 80 ∧ size p.m ≤ 2000 := by
  simp only [validB, Bool.and_eq_true, decide_eq_true_eq, List.all_eq_true] at h
  refine ⟨h.1.1.1.1, h.1.1.1.2, fun r hr => ?_, valid_body h.2⟩
  have := h.1.2 r hr
  simp only [procB, Bool.and_eq_true, decide_eq_true_eq] at this
  exact ⟨this.1.1.2, valid_body this.2⟩
set_option maxRecDepth 100000 in
theorem prcN_le (ps : List PR) (h : ∀ r ∈ ps, r.ps.length ≤ 8 ∧ dep r.b ≤ 80 ∧ size r.b ≤ 2000) : ∀ j, prcN ps j ≤ j * 2009
  | 0 => by simp [prcN]
  | j + 1 => by
    have h1 := prcN_le ps h j
    rw [prcN]
    split
    · rename_i hj
      have h2 := h _ (List.getElem_mem hj)
      have h3 := one1_le (if procE ps ps[j].s < (j : Int) then 22 else 0)
      have h4 := frsN_le ps[j].ps ps[j].ps.length
      have h5 := cntV_le ps ps[j].b ps[j].ps
      unfold prcE
      omega
    · omega

theorem RowV.take {w : World} {S : Nat → Prop} {A : Option Addr} {vs : List VD} (h : RowV w S A vs) (j : Nat) : RowV w S A (vs.take j) := fun i hi => by
  have h1 : i < vs.length := by simp at hi; omega
  obtain ⟨a, h2, h3, h4, h5⟩ := h i h1
  exact ⟨a, h2, h3, by simpa using h4, by simpa using h5⟩
theorem RowI.nil {w : World} {S : Nat → Prop} {A : Option Addr} : RowI w S A [] := fun i hi => by simp at hi
theorem rowI_new1 (w : World) (j : Int) (hj : I64 j) : RowI (w.alloc (.cells #[.int .i64 j] 3)) Any (some ⟨w.heap.size, 0, none⟩) [j] := fun i hi => by
  simp only [List.length_singleton, Nat.lt_one_iff] at hi
  subst hi
  exact ⟨_, rfl, trivial, news_newN w 3 [.int .i64 j] 0 _ rfl, hj⟩
theorem report_cat (n0 fb N : Nat) (pv : Value) (pr er : Int) (q : List Int) (A : Option Addr) (c : Nat) (s : ByteArray) (S : Nat → Prop) (W : World) (hfs : FS W n0 fb N pv) (hq : RowI W S A q) (hql : q.length ≤ 100000) (hN : N ≤ 1000000) :
    Calls Try.prog 51 ([.int .i64 pr, .slice A q.length c, .string s, .int .i64 er].toArray ++ #[.pointer (some ⟨fb, 0, none⟩)]) W (RepP W n0 fb pv (N + one1 er)) := by
  simpa using report_any n0 fb N pv pr er q A c s S W hfs hq hql hN
theorem VsI.chg2 {Rd : World → Prop} {n0 fb : Nat} {Wb wr wk w' : World} {pv pv' : Value} {N : Nat} (h : VsI Rd n0 fb Wb pv N wr pv') (hb : Below wr.heap.size wr wk) (hc : Chg (fun b => b = fb ∨ pv'.ownBlock = some b) wk w') : Chg (fun b => b = fb ∨ pv.ownBlock = some b) Wb w' :=
  (h.chg.trans (Chg.of_below hb)).trans2 hc fun b hlt hh => by
    rcases hh with hh | hh
    · exact .inl hh
    · rcases h.own b hh with h1 | h1
      · exact .inr h1
      · omega
theorem VsI.stepK {Rd : World → Prop} {n0 fb : Nat} {Wb wr w5 W6 : World} {pv pv' : Value} {N N' : Nat} {e : Ending} (hk : ∀ W W' pv N, Rd W → FS W n0 fb N pv → Chg (fun b => b = fb ∨ pv.ownBlock = some b) W W' → Rd W') (h : VsI Rd n0 fb Wb pv N wr pv') (hb : Below wr.heap.size wr w5) (hp : RepP w5 n0 fb pv' N' e W6) :
    ∃ pv'', VsI Rd n0 fb Wb pv N' W6 pv'' := by
  obtain ⟨_, pv'', hfs, hob, hc⟩ := hp
  have hfs5 := h.fs.later hb
  have hz := h.chg.size
  have hz5 := hb.size
  refine ⟨pv'', hk w5 W6 pv' N (hk wr w5 pv' N h.rd h.fs (Chg.of_below hb)) hfs5 hc, hfs, fun b hb' => ?_, h.chg2 hb hc⟩
  rcases hob b hb' with h1 | h1
  · exact h.own b h1
  · exact .inr (by omega)
theorem fresh_take (vs : List VD) (j : Nat) (hj : j ≤ vs.length) (A : Option Addr) (c : Nat) (s : ByteArray) (S : Nat → Prop) (w : World) (hrow : RowV w S A vs) (hl : vs.length ≤ LV) :
    Calls Try.prog 52 #[.slice A j c, .string s] w fun e w' => e = .returned (.int .i64 (freshE (vs.take j) s)) ∧ Below w.heap.size w w' := by
  have h := fresh_any (vs.take j) A c s S w (hrow.take j) (by simp; omega)
  rwa [show (vs.take j).length = j by simp; omega] at h

theorem fnFresh : IsFn Try.prog 52 Try.f52 := ⟨Try.func52, by kernel_rfl, by kernel_rfl⟩
theorem fnSProc : IsFn Try.prog 53 Try.f53 := ⟨Try.func53, by kernel_rfl, by kernel_rfl⟩
theorem fnChk1 : IsFn Try.prog 51 Try.f51 := ⟨Try.func51, by kernel_rfl, by kernel_rfl⟩

set_option maxHeartbeats 16000000 in
set_option maxRecDepth 100000 in
theorem SCheck_any (p : PG) (S : Nat → Prop) (v : Value) (W : World) (hv : PV W S p v) : Calls Try.prog 29 #[v] W fun e w' => ∃ A c, e = .returned (.slice A (if validB p = true then chkN p else 0) c) ∧ Below W.heap.size W w' := by
  obtain ⟨NN, hNN⟩ : ∃ NN, (if validB p = true then chkN p else 0) = NN := ⟨_, rfl⟩
  rw [hNN]
  have HNN := Lib.hid hNN
  clear hNN
  have hvv := hv
  obtain ⟨A1, c1, A2, c2, A3, c3, rfl, hr⟩ := hv
  have hlv := LV_int hr.lv
  have hlp := LV_int hr.lp
  obtain ⟨L1, hL1⟩ : ∃ L, p.vs.length = L := ⟨_, rfl⟩
  obtain ⟨L2, hL2⟩ : ∃ L, p.prs.length = L := ⟨_, rfl⟩
  obtain ⟨k, hk⟩ : ∃ k, p.m.k = k := ⟨_, rfl⟩
  obtain ⟨n, hn⟩ : ∃ n, p.m.n = n := ⟨_, rfl⟩
  obtain ⟨s, hs⟩ : ∃ s, p.m.s = s := ⟨_, rfl⟩
  obtain ⟨l3, hl3⟩ : ∃ l, p.m.ks.length = l := ⟨_, rfl⟩
  rw [hL1, hL2, hk, hn, hs, hl3]
  rw [hL1, hL2, hk, hn, hs, hl3] at hvv
  rw [hL1] at hlv
  rw [hL2] at hlp
  have HV0 := Lib.hid hvv
  have HR := Lib.hid hr
  have HL1 := Lib.hid hL1
  have HL2 := Lib.hid hL2
  have HMM := Lib.hid (show p.m.k = k ∧ p.m.n = n ∧ p.m.s = s ∧ p.m.ks.length = l3 from ⟨hk, hn, hs, hl3⟩)
  clear hvv hr hL1 hL2 hk hn hs hl3
  go_enter Try.func29, Try.ntmps29
  go_wp2_with fail
  refine (Valid_any p S _ _ (HV0.out.later (bl_al (Below.refl _ _) _))).mono ?_
  rintro e w1 ⟨rfl, bw1⟩
  have b1 : Below W.heap.size W w1 := bl_tt (bl_al (Below.refl _ _) _) bw1
  have hp1 := (bw1.block W.heap.size (by simp)).trans (heap_alloc_new W (.cells #[.slice A1 L1 c1, .slice A2 L2 c2, .int .u8 k, .int .i64 n, .string s, .slice A3 l3 c3] 38))
  have hz1 := bw1.size
  simp only [World.size_alloc] at hz1
  have HB1 := Lib.hid b1
  have HP1 := Lib.hid hp1
  have HZ1 := Lib.hid hz1
  obtain ⟨a0, a1, a2, a3, a4, a5⟩ := box6 hp1
  clear bw1 b1 hp1
  cases hvb : validB p
  · have hN0 : NN = 0 := by rw [← HNN.out, hvb]; rfl
    subst hN0
    go_wp2_with fail
    go_ret
    exact ⟨none, 0, rfl, HB1.out⟩
  · have HVB := Lib.hid (valid_bounds hvb)
    have HNN2 := Lib.hid (show chkN p = NN by rw [← HNN.out, hvb]; rfl)
    clear hvb HNN
    go_upto_region 5 with fail
    obtain ⟨fb, hfb⟩ : ∃ fb, w1.heap.size = fb := ⟨_, rfl⟩
    rw [hfb]
    have hzf : W.heap.size + 1 ≤ fb := by omega
    have hbw : Below W.heap.size W ((w1.alloc (.cells #[.slice none 0 0] 48)).alloc (.cells #[.func (.func 51) #[] #[.pointer (some ⟨fb, 0, none⟩)]] 67)) := bl_al (bl_al HB1.out _) _
    have hbF := blk_al (heap_alloc_new w1 (.cells #[.slice none 0 0] 48)) (.cells #[.func (.func 51) #[] #[.pointer (some ⟨fb, 0, none⟩)]] 67)
    have hbR := heap_alloc_new (w1.alloc (.cells #[.slice none 0 0] 48)) (.cells #[.func (.func 51) #[] #[.pointer (some ⟨fb, 0, none⟩)]] 67)
    simp only [World.size_alloc] at hbR
    rw [hfb] at hbF hbR
    have hbP := blk_al (blk_al HP1.out (.cells #[.slice none 0 0] 48)) (.cells #[.func (.func 51) #[] #[.pointer (some ⟨fb, 0, none⟩)]] 67)
    obtain ⟨Wb, hWb⟩ : ∃ Wb, (w1.alloc (.cells #[.slice none 0 0] 48)).alloc (.cells #[.func (.func 51) #[] #[.pointer (some ⟨fb, 0, none⟩)]] 67) = Wb := ⟨_, rfl⟩
    rw [hWb] at hbw hbF hbR hbP ⊢
    have HZB := Lib.hid (show Wb.heap.size = fb + 2 by rw [← hWb, ← hfb]; simp)
    have HBW := Lib.hid hbw
    have HZF := Lib.hid hzf
    clear hWb hfb a0 a1 a2 a3 a4 a5 HP1 HZ1 HB1 hz1
    have hrep := Chk3_rep fb fb (fb + 1) W.heap.size A1 L1 c1 A2 L2 c2 k n s A3 l3 c3
    obtain ⟨Rd, hRd⟩ : ∃ Rd : World → Prop, (fun W' : World => W'.heap[fb + 1]? = some (.cells #[.func (.func 51) #[] #[.pointer (some ⟨fb, 0, none⟩)]] 67 (0, 0)) ∧ W'.heap[W.heap.size]? = some (.cells #[.slice A1 L1 c1, .slice A2 L2 c2, .int .u8 k, .int .i64 n, .string s, .slice A3 l3 c3] 38 (0, 0))) = Rd := ⟨_, rfl⟩
    rw [hRd] at hrep
    have HREP := Lib.hid hrep
    have HRD := Lib.hid (show ∀ w' : World, Rd w' → w'.heap[fb + 1]? = some (.cells #[.func (.func 51) #[] #[.pointer (some ⟨fb, 0, none⟩)]] 67 (0, 0)) ∧ w'.heap[W.heap.size]? = some (.cells #[.slice A1 L1 c1, .slice A2 L2 c2, .int .u8 k, .int .i64 n, .string s, .slice A3 l3 c3] 38 (0, 0)) from fun w' h => by rw [← hRd] at h; exact h)
    have HCC := Lib.hid (show ∀ w' : World, Rd w' → (fun w' : World => (w'.cell? ⟨W.heap.size, 0, none⟩ = some (.slice A1 L1 c1) ∧ w'.cell? ⟨W.heap.size, 1, none⟩ = some (.slice A2 L2 c2) ∧ w'.cell? ⟨W.heap.size, 2, none⟩ = some (.int .u8 k) ∧ w'.cell? ⟨W.heap.size, 3, none⟩ = some (.int .i64 n) ∧ w'.cell? ⟨W.heap.size, 4, none⟩ = some (.string s) ∧ w'.cell? ⟨W.heap.size, 5, none⟩ = some (.slice A3 l3 c3)) ∧ (w'.cell? ⟨fb + 1, 0, none⟩ = some (.func (.func 51) #[] #[.pointer (some ⟨fb, 0, none⟩)]))) w' from fun w' h => ⟨box6 (HRD.out w' h).2, cell_of_blk (HRD.out w' h).1 rfl⟩)
    have HI0 := Lib.hid (show VsI Rd fb fb Wb (.slice none 0 0) 0 Wb (.slice none 0 0) from ⟨by rw [← hRd]; exact ⟨hbR, hbP⟩, ⟨hbF, ⟨[], World.ownsRow_nil _ _ _ _⟩, Nat.le_refl _, by simp [Value.ownBlock]⟩, fun b hb => .inl hb, Chg.refl _ _⟩)
    have HKB := Lib.hid (show ∀ w' : World, Chg (fun b => b = fb ∨ (Value.slice none 0 0).ownBlock = some b) Wb w' → ∀ b, S b → b < W.heap.size → w'.heap[b]? = W.heap[b]? from fun w' h b hb hlt => (h.block b (by have := HZB.out; omega) (fun hh => by rcases hh with hh | hh; omega; simp [Value.ownBlock] at hh)).trans (HBW.out.block b hlt))
    have HD := Lib.hid (show ∀ w' : World, Chg (fun b => b = fb ∨ (Value.slice none 0 0).ownBlock = some b) Wb w' → PV w' (fun b => S b ∧ b < W.heap.size) p _ ∧ PgR w' (fun b => S b ∧ b < W.heap.size) p A1 c1 A2 c2 A3 c3 from fun w' h => ⟨HV0.out.keep (fun b hb hlt => ⟨hb, hlt⟩) (HKB.out w' h), HR.out.keep (fun b hb hlt => ⟨hb, hlt⟩) (HKB.out w' h)⟩)
    have hl32 : L1 ≤ 32 := by have := HVB.out.1; rw [HL1.out] at this; exact this
    have hl64 : L2 ≤ 64 := by have := HVB.out.2.1; rw [HL2.out] at this; exact this
    have hlc1 : L1 ≤ c1 := by have := HR.out.lvc; rw [HL1.out] at this; exact this
    have hlc2 : L2 ≤ c2 := by have := HR.out.lpc; rw [HL2.out] at this; exact this
    obtain ⟨⟨a0, a1, a2, a3, a4, a5⟩, ar⟩ := HCC.out _ HI0.out.rd
    clear hrep hRd hbR hbP hbF hbw
    go_wp2_with fail
    go_loopw [18] (fun i wr => ∃ (j : Nat) (pv' : Value), j ≤ L1 ∧ i = .int .i64 j ∧ VsI Rd fb fb Wb (.slice none 0 0) (frsN p.vs j) wr pv') (fun i _ => L1 - (intOf i).toNat)
    case atStart => exact ⟨0, _, Nat.zero_le _, rfl, HI0.out⟩
    case round =>
      obtain ⟨j, pv', hj, rfl, hinv⟩ := hrel
      have HINV := Lib.hid hinv
      clear HI0 a0 a1 a2 a3 a4 a5 ar
      by_cases hlt : j < L1
      · have hltp : j < p.vs.length := by rw [HL1.out]; exact hlt
        obtain ⟨a, u, rfl, hsa, Hu, ⟨q0, q1, q2⟩, hfu⟩ := (HD.out wr hinv.chg).2.vars.nd hltp
        have hjc : (j : Int) ≤ (c1 : Int) := by omega
        have hj0 : (0 : Int) ≤ (j : Int) := by omega
        obtain ⟨⟨a0, a1, a2, a3, a4, a5⟩, ar⟩ := HCC.out _ hinv.rd
        clear hinv hsa hfu
        go_upto_region 8 with fail
        have hbk : Below wr.heap.size wr (wr.alloc (.cells #[.string u.s, .int .u8 u.k, .int .i64 u.n] 56)) := bl_al (Below.refl _ _) _
        have hbU := heap_alloc_new wr (.cells #[.string u.s, .int .u8 u.k, .int .i64 u.n] 56)
        obtain ⟨wk, hwk⟩ : ∃ wk, wr.alloc (.cells #[.string u.s, .int .u8 u.k, .int .i64 u.n] 56) = wk := ⟨_, rfl⟩
        rw [hwk] at hbk hbU ⊢
        have HZK := Lib.hid (show wk.heap.size = wr.heap.size + 1 by rw [← hwk]; simp)
        have HBK := Lib.hid hbk
        have HBU := Lib.hid hbU
        clear hwk hbk hbU a0 a1 a2 a3 a4 a5 ar q0 q1 q2
        have HRW := Lib.hid (show ∀ w' : World, Below wk.heap.size wk w' → Rd w' from fun w' h => HREP.out.keep _ _ _ _ HINV.out.rd HINV.out.fs (Chg.of_below (bl_tt HBK.out h)))
        have HCK := Lib.hid (show ∀ w' : World, Below wk.heap.size wk w' → (fun w' : World => ((w'.cell? ⟨W.heap.size, 0, none⟩ = some (.slice (some a) L1 c1) ∧ w'.cell? ⟨W.heap.size, 1, none⟩ = some (.slice A2 L2 c2) ∧ w'.cell? ⟨W.heap.size, 2, none⟩ = some (.int .u8 k) ∧ w'.cell? ⟨W.heap.size, 3, none⟩ = some (.int .i64 n) ∧ w'.cell? ⟨W.heap.size, 4, none⟩ = some (.string s) ∧ w'.cell? ⟨W.heap.size, 5, none⟩ = some (.slice A3 l3 c3)) ∧ (w'.cell? ⟨fb + 1, 0, none⟩ = some (.func (.func 51) #[] #[.pointer (some ⟨fb, 0, none⟩)]))) ∧ (w'.cell? ⟨wr.heap.size, 0, none⟩ = some (.string u.s) ∧ w'.cell? ⟨wr.heap.size, 1, none⟩ = some (.int .u8 u.k) ∧ w'.cell? ⟨wr.heap.size, 2, none⟩ = some (.int .i64 u.n))) w' ∧ (fun _ : World => True) w' from fun w' h => ⟨⟨HCC.out _ (HRW.out w' h), box3 ((h.block _ (by have := HZK.out; omega)).trans HBU.out)⟩, trivial⟩)
        have hdr := (Below.refl wk.heap.size wk).drew
        have hSS := HCK.out _ hdr
        have hbI := buildI1
        have hN := frsN_le p.vs j
        refine wp_region_noPanic ?_
        refine wp_region_G (fun w' : World => ((w'.cell? ⟨W.heap.size, 0, none⟩ = some (.slice (some a) L1 c1) ∧ w'.cell? ⟨W.heap.size, 1, none⟩ = some (.slice A2 L2 c2) ∧ w'.cell? ⟨W.heap.size, 2, none⟩ = some (.int .u8 k) ∧ w'.cell? ⟨W.heap.size, 3, none⟩ = some (.int .i64 n) ∧ w'.cell? ⟨W.heap.size, 4, none⟩ = some (.string s) ∧ w'.cell? ⟨W.heap.size, 5, none⟩ = some (.slice A3 l3 c3)) ∧ (w'.cell? ⟨fb + 1, 0, none⟩ = some (.func (.func 51) #[] #[.pointer (some ⟨fb, 0, none⟩)]))) ∧ (w'.cell? ⟨wr.heap.size, 0, none⟩ = some (.string u.s) ∧ w'.cell? ⟨wr.heap.size, 1, none⟩ = some (.int .u8 u.k) ∧ w'.cell? ⟨wr.heap.size, 2, none⟩ = some (.int .i64 u.n))) (fun _ : World => True) 40 (by kernel_rfl) ?_
        refine wpG_take1 (i := 0) (v := ?_) rfl (by kernel_rfl) (by kernel_rfl) (by kernel_rfl) (by decide) (fun _ _ _ h => h) (Or.inl ⟨by rfl, ?_⟩) hSS ?_
        rotate_left 1
        · (intro w hSw; (try dsimp only at hSw); (try simp only [List.getElem_toArray, List.getElem_cons_succ, List.getElem_cons_zero]); go_simp; (try with_reducible rfl))
        (try simp only [Act.put, List.getElem_toArray, List.getElem_cons_succ, List.getElem_cons_zero, List.setIfInBounds_toArray, List.set_cons_zero, List.set_cons_succ])
        refine wpG_take1 (i := 1) (v := ?_) rfl (by kernel_rfl) (by kernel_rfl) (by kernel_rfl) (by decide) (fun _ _ _ h => h) (Or.inl ⟨by rfl, ?_⟩) hSS ?_
        rotate_left 1
        · (intro w hSw; (try dsimp only at hSw); (try simp only [List.getElem_toArray, List.getElem_cons_succ, List.getElem_cons_zero]); go_simp; (try with_reducible rfl))
        (try simp only [Act.put, List.getElem_toArray, List.getElem_cons_succ, List.getElem_cons_zero, List.setIfInBounds_toArray, List.set_cons_zero, List.set_cons_succ])
        refine wpG_take1 (i := 3) (v := ?_) rfl (by kernel_rfl) (by kernel_rfl) (by kernel_rfl) (by decide) (fun _ _ _ h => h) (Or.inl ⟨by rfl, ?_⟩) hSS ?_
        rotate_left 1
        · (intro w hSw; (try dsimp only at hSw); (try simp only [List.getElem_toArray, List.getElem_cons_succ, List.getElem_cons_zero]); go_simp; (try with_reducible rfl))
        (try simp only [Act.put, List.getElem_toArray, List.getElem_cons_succ, List.getElem_cons_zero, List.setIfInBounds_toArray, List.set_cons_zero, List.set_cons_succ])
        refine wpG_take1 (i := 4) (v := ?_) rfl (by kernel_rfl) (by kernel_rfl) (by kernel_rfl) (by decide) (fun _ _ _ h => h) (Or.inl ⟨by rfl, ?_⟩) hSS ?_
        rotate_left 1
        · (intro w hSw; (try dsimp only at hSw); (try simp only [List.getElem_toArray, List.getElem_cons_succ, List.getElem_cons_zero]); go_simp; (try with_reducible rfl))
        (try simp only [Act.put, List.getElem_toArray, List.getElem_cons_succ, List.getElem_cons_zero, List.setIfInBounds_toArray, List.set_cons_zero, List.set_cons_succ])
        refine wpG_take1 (i := 5) (v := ?_) rfl (by kernel_rfl) (by kernel_rfl) (by kernel_rfl) (by decide) (fun _ _ _ h => h) (Or.inl ⟨by rfl, ?_⟩) hSS ?_
        rotate_left 1
        · (intro w hSw; (try dsimp only at hSw); (try simp only [List.getElem_toArray, List.getElem_cons_succ, List.getElem_cons_zero]); go_simp; (try with_reducible rfl))
        (try simp only [Act.put, List.getElem_toArray, List.getElem_cons_succ, List.getElem_cons_zero, List.setIfInBounds_toArray, List.set_cons_zero, List.set_cons_succ])
        refine wpG_take1 (i := 6) (v := ?_) rfl (by kernel_rfl) (by kernel_rfl) (by kernel_rfl) (by decide) (fun _ _ _ h => h) (Or.inl ⟨by rfl, ?_⟩) hSS ?_
        rotate_left 1
        · (intro w hSw; (try dsimp only at hSw); (try simp only [List.getElem_toArray, List.getElem_cons_succ, List.getElem_cons_zero]); go_simp; (try with_reducible rfl))
        (try simp only [Act.put, List.getElem_toArray, List.getElem_cons_succ, List.getElem_cons_zero, List.setIfInBounds_toArray, List.set_cons_zero, List.set_cons_succ])
        refine wpG_take1 (i := 7) (v := ?_) rfl (by kernel_rfl) (by kernel_rfl) (by kernel_rfl) (by decide) (fun _ _ _ h => h) (Or.inl ⟨by rfl, ?_⟩) hSS ?_
        rotate_left 1
        · (intro w hSw; (try dsimp only at hSw); (try simp only [List.getElem_toArray, List.getElem_cons_succ, List.getElem_cons_zero]); go_simp; (try with_reducible rfl))
        (try simp only [Act.put, List.getElem_toArray, List.getElem_cons_succ, List.getElem_cons_zero, List.setIfInBounds_toArray, List.set_cons_zero, List.set_cons_succ])
        refine wpG_take1 (i := 8) (v := ?_) rfl (by kernel_rfl) (by kernel_rfl) (by kernel_rfl) (by decide) (fun _ _ _ h => h) (Or.inl ⟨by rfl, ?_⟩) hSS ?_
        rotate_left 1
        · (intro w hSw; (try dsimp only at hSw); (try simp only [List.getElem_toArray, List.getElem_cons_succ, List.getElem_cons_zero]); go_simp; (try with_reducible rfl))
        (try simp only [Act.put, List.getElem_toArray, List.getElem_cons_succ, List.getElem_cons_zero, List.setIfInBounds_toArray, List.set_cons_zero, List.set_cons_succ])
        refine wpG_take1 (i := 9) (v := ?_) rfl (by kernel_rfl) (by kernel_rfl) (by kernel_rfl) (by decide) (fun _ _ _ h => h) (Or.inl ⟨by rfl, ?_⟩) hSS ?_
        rotate_left 1
        · (intro w hSw; (try dsimp only at hSw); (try simp only [List.getElem_toArray, List.getElem_cons_succ, List.getElem_cons_zero]); go_simp; (try with_reducible rfl))
        (try simp only [Act.put, List.getElem_toArray, List.getElem_cons_succ, List.getElem_cons_zero, List.setIfInBounds_toArray, List.set_cons_zero, List.set_cons_succ])
        refine wpG_take1 (i := 10) (v := ?_) rfl (by kernel_rfl) (by kernel_rfl) (by kernel_rfl) (by decide) (fun _ _ _ h => h) (Or.inl ⟨by rfl, ?_⟩) hSS ?_
        rotate_left 1
        · (intro w hSw; (try dsimp only at hSw); (try simp only [List.getElem_toArray, List.getElem_cons_succ, List.getElem_cons_zero]); go_simp; (try with_reducible rfl))
        (try simp only [Act.put, List.getElem_toArray, List.getElem_cons_succ, List.getElem_cons_zero, List.setIfInBounds_toArray, List.set_cons_zero, List.set_cons_succ])
        refine wpG_two (i := 2) (j := 11) (by kernel_rfl) rfl rfl (fun K hK => ?_) (fun K hK => ?_)
        · (try simp only [List.getElem_toArray, List.getElem_cons_succ, List.getElem_cons_zero])
          go_simp
          have b2 := bl_al hdr (.cells #[.int .i64 (j : Int)] 3)
          refine hK.out _ _ (HCK.out _ b2) ?_
          clear hK K
          (try simp only [Act.put, List.getElem_toArray, List.getElem_cons_succ, List.getElem_cons_zero, List.setIfInBounds_toArray, List.set_cons_zero, List.set_cons_succ])
          refine wpG_one (i := 11) (by kernel_rfl) rfl (fun K hK => ?_)
          refine step_callL (by rfl) (.func 52) [.tmp 31, .tmp 33] _ (by rfl) 52 _ fnFresh (by rfl) _ (by rfl) _ (isW_of (fresh_take p.vs j (by omega) (some a) c1 u.s _ _ (HD.out _ (HINV.out.chg.trans (Chg.of_below (bl_tt HBK.out b2)))).2.vars HR.out.lv)) ?_
          rintro vq w3 ⟨rfl, bw3⟩
          have b3 := bl_tt b2 bw3
          refine hK.out _ _ (HCK.out _ b3) ?_
          clear hK K
          (try simp only [Act.put, List.getElem_toArray, List.getElem_cons_succ, List.getElem_cons_zero, List.setIfInBounds_toArray, List.set_cons_zero, List.set_cons_succ])
          refine wpG_one (i := 12) (by kernel_rfl) rfl (fun K hK => ?_)
          refine step_callC (by rfl) (.tmp 23) [.const (.int .i64 (-1)), .tmp 25, .tmp 27, .tmp 34] _ (by rfl) 51 _ fnChk1 #[.pointer (some ⟨fb, 0, none⟩)] (by rfl) _ (by rfl) _ (repV_of (report_cat fb fb _ pv' (-1) _ [(j : Int)] (some ⟨wk.heap.size, 0, none⟩) 1 u.s _ _ (HINV.out.fs.later (bl_tt HBK.out b3)) (((rowI_new1 _ (j : Int) ⟨by omega, by omega⟩).later (Below.refl _ _).drew).later bw3) (by simp) (by omega))) ?_
          rintro vq W6 hp
          obtain ⟨pv6, hi6⟩ := HINV.out.step HREP.out (bl_tt HBK.out b3) hp
          have hi7 : VsI Rd fb fb Wb (.slice none 0 0) (frsN p.vs (j + 1)) W6 pv6 := by rw [frsN_succ hltp, Hu.out]; exact hi6
          have hSS6 : (fun w' : World => ((w'.cell? ⟨W.heap.size, 0, none⟩ = some (.slice (some a) L1 c1) ∧ w'.cell? ⟨W.heap.size, 1, none⟩ = some (.slice A2 L2 c2) ∧ w'.cell? ⟨W.heap.size, 2, none⟩ = some (.int .u8 k) ∧ w'.cell? ⟨W.heap.size, 3, none⟩ = some (.int .i64 n) ∧ w'.cell? ⟨W.heap.size, 4, none⟩ = some (.string s) ∧ w'.cell? ⟨W.heap.size, 5, none⟩ = some (.slice A3 l3 c3)) ∧ (w'.cell? ⟨fb + 1, 0, none⟩ = some (.func (.func 51) #[] #[.pointer (some ⟨fb, 0, none⟩)]))) ∧ (w'.cell? ⟨wr.heap.size, 0, none⟩ = some (.string u.s) ∧ w'.cell? ⟨wr.heap.size, 1, none⟩ = some (.int .u8 u.k) ∧ w'.cell? ⟨wr.heap.size, 2, none⟩ = some (.int .i64 u.n))) W6 ∧ (fun _ : World => True) W6 := ⟨⟨HCC.out _ hi7.rd, box3 ((hp.2.elim fun _ h => h.2.2.block _ (by have := (bl_tt HBK.out b3).size; have := (b3).size; have := HZK.out; omega) (fun hh => by have hl := HINV.out.fs.lt; rcases hh with hh | hh; (have := hl.1; omega); (have := (hl.2 _ hh).2; omega))).trans (((b3).block _ (by have := HZK.out; omega)).trans HBU.out))⟩, trivial⟩
          refine hK.out _ _ hSS6 ?_
          clear hK K
          (try simp only [Act.put, List.getElem_toArray, List.getElem_cons_succ, List.getElem_cons_zero, List.setIfInBounds_toArray, List.set_cons_zero, List.set_cons_succ])
          refine wpG_done (by kernel_rfl) ?_
          refine NoPanic.normal ?_
          have HI7 := Lib.hid hi7
          clear hi7 hi6 hp hSS6
          go_wp2_with fail
          go_roundw
          case rel => exact ⟨j + 1, _, by omega, by go_num, HI7.out⟩
          case measure => simp [intOf]; omega
        · skip
          refine step_callL (by rfl) (.func 52) [.tmp 31, .tmp 33] _ (by rfl) 52 _ fnFresh (by rfl) _ (by rfl) _ (isW_of (fresh_take p.vs j (by omega) (some a) c1 u.s _ _ (HD.out _ (HINV.out.chg.trans (Chg.of_below (bl_tt HBK.out hdr)))).2.vars HR.out.lv)) ?_
          rintro vq w2 ⟨rfl, bw2⟩
          have b2 := bl_tt hdr bw2
          refine hK.out _ _ (HCK.out _ b2) ?_
          clear hK K
          (try simp only [Act.put, List.getElem_toArray, List.getElem_cons_succ, List.getElem_cons_zero, List.setIfInBounds_toArray, List.set_cons_zero, List.set_cons_succ])
          refine wpG_one (i := 2) (by kernel_rfl) rfl (fun K hK => ?_)
          (try simp only [List.getElem_toArray, List.getElem_cons_succ, List.getElem_cons_zero])
          go_simp
          have b3 := bl_al b2 (.cells #[.int .i64 (j : Int)] 3)
          refine hK.out _ _ (HCK.out _ b3) ?_
          clear hK K
          (try simp only [Act.put, List.getElem_toArray, List.getElem_cons_succ, List.getElem_cons_zero, List.setIfInBounds_toArray, List.set_cons_zero, List.set_cons_succ])
          refine wpG_one (i := 12) (by kernel_rfl) rfl (fun K hK => ?_)
          refine step_callC (by rfl) (.tmp 23) [.const (.int .i64 (-1)), .tmp 25, .tmp 27, .tmp 34] _ (by rfl) 51 _ fnChk1 #[.pointer (some ⟨fb, 0, none⟩)] (by rfl) _ (by rfl) _ (repV_of (report_cat fb fb _ pv' (-1) _ [(j : Int)] (some ⟨w2.heap.size, 0, none⟩) 1 u.s _ _ (HINV.out.fs.later (bl_tt HBK.out b3)) (rowI_new1 _ (j : Int) ⟨by omega, by omega⟩) (by simp) (by omega))) ?_
          rintro vq W6 hp
          obtain ⟨pv6, hi6⟩ := HINV.out.step HREP.out (bl_tt HBK.out b3) hp
          have hi7 : VsI Rd fb fb Wb (.slice none 0 0) (frsN p.vs (j + 1)) W6 pv6 := by rw [frsN_succ hltp, Hu.out]; exact hi6
          have hSS6 : (fun w' : World => ((w'.cell? ⟨W.heap.size, 0, none⟩ = some (.slice (some a) L1 c1) ∧ w'.cell? ⟨W.heap.size, 1, none⟩ = some (.slice A2 L2 c2) ∧ w'.cell? ⟨W.heap.size, 2, none⟩ = some (.int .u8 k) ∧ w'.cell? ⟨W.heap.size, 3, none⟩ = some (.int .i64 n) ∧ w'.cell? ⟨W.heap.size, 4, none⟩ = some (.string s) ∧ w'.cell? ⟨W.heap.size, 5, none⟩ = some (.slice A3 l3 c3)) ∧ (w'.cell? ⟨fb + 1, 0, none⟩ = some (.func (.func 51) #[] #[.pointer (some ⟨fb, 0, none⟩)]))) ∧ (w'.cell? ⟨wr.heap.size, 0, none⟩ = some (.string u.s) ∧ w'.cell? ⟨wr.heap.size, 1, none⟩ = some (.int .u8 u.k) ∧ w'.cell? ⟨wr.heap.size, 2, none⟩ = some (.int .i64 u.n))) W6 ∧ (fun _ : World => True) W6 := ⟨⟨HCC.out _ hi7.rd, box3 ((hp.2.elim fun _ h => h.2.2.block _ (by have := (bl_tt HBK.out b3).size; have := (b3).size; have := HZK.out; omega) (fun hh => by have hl := HINV.out.fs.lt; rcases hh with hh | hh; (have := hl.1; omega); (have := (hl.2 _ hh).2; omega))).trans (((b3).block _ (by have := HZK.out; omega)).trans HBU.out))⟩, trivial⟩
          refine hK.out _ _ hSS6 ?_
          clear hK K
          (try simp only [Act.put, List.getElem_toArray, List.getElem_cons_succ, List.getElem_cons_zero, List.setIfInBounds_toArray, List.set_cons_zero, List.set_cons_succ])
          refine wpG_done (by kernel_rfl) ?_
          refine NoPanic.normal ?_
          have HI7 := Lib.hid hi7
          clear hi7 hi6 hp hSS6
          go_wp2_with fail
          go_roundw
          case rel => exact ⟨j + 1, _, by omega, by go_num, HI7.out⟩
          case measure => simp [intOf]; omega
      · obtain rfl : L1 = j := by omega
        have HF1 := Lib.hid (show VsI Rd fb fb Wb (.slice none 0 0) (frsN p.vs p.vs.length) wr pv' by rw [HL1.out]; exact HINV.out)
        obtain ⟨⟨a0, a1, a2, a3, a4, a5⟩, ar⟩ := HCC.out _ hinv.rd
        obtain ⟨F1, hF1⟩ : ∃ F, frsN p.vs p.vs.length = F := ⟨_, rfl⟩
        have hF32 : F1 ≤ 32 := by have := frsN_le p.vs p.vs.length; have := HVB.out.1; omega
        have HFE := Lib.hid hF1
        rw [hF1] at HF1
        clear hinv HINV hF1 hj hlt
        go_wp2_with fail
        go_loopw [40] (fun i wr => ∃ (j : Nat) (pv' : Value), j ≤ L2 ∧ i = .int .i64 j ∧ VsI Rd fb fb Wb (.slice none 0 0) (F1 + prcN p.prs j) wr pv') (fun i _ => L2 - (intOf i).toNat)
        case atStart => exact ⟨0, _, Nat.zero_le _, rfl, HF1.out⟩
        case round =>
          clear HF1 a0 a1 a2 a3 a4 a5 ar
          obtain ⟨j, pv', hj, rfl, hinv⟩ := hrel
          obtain ⟨w0, rfl⟩ : ∃ w0, w0 = wr := ⟨_, rfl⟩
          have HINV := Lib.hid hinv
          by_cases hlt : j < L2
          · have hltp : j < p.prs.length := by rw [HL2.out]; exact hlt
            obtain ⟨a, r, P1, d1, P2, d2, rfl, hsa, Hr, ⟨q0, q1, q2, q3, q4, q5⟩, hpr⟩ := (HD.out w0 hinv.chg).2.procs.nd hltp
            obtain ⟨⟨a0, a1, a2, a3, a4, a5⟩, ar⟩ := HCC.out _ hinv.rd
            have HPR := Lib.hid hpr
            clear hinv hsa hpr
            go_upto_region 13 with fail
            have hbk : Below w0.heap.size w0 ((w0.alloc (.cells #[.int .i64 (j : Int)] 3)).alloc (.cells #[.string r.s, .slice P1 r.ps.length d1, .int .u8 r.b.k, .int .i64 r.b.n, .string r.b.s, .slice P2 r.b.ks.length d2] 58)) := bl_al (bl_al (Below.refl _ _) _) _
            have hbI1 := blk_al (heap_alloc_new w0 (.cells #[.int .i64 (j : Int)] 3)) (.cells #[.string r.s, .slice P1 r.ps.length d1, .int .u8 r.b.k, .int .i64 r.b.n, .string r.b.s, .slice P2 r.b.ks.length d2] 58)
            have hbR1 := heap_alloc_new (w0.alloc (.cells #[.int .i64 (j : Int)] 3)) (.cells #[.string r.s, .slice P1 r.ps.length d1, .int .u8 r.b.k, .int .i64 r.b.n, .string r.b.s, .slice P2 r.b.ks.length d2] 58)
            simp only [World.size_alloc] at hbR1
            obtain ⟨wk, hwk⟩ : ∃ wk, (w0.alloc (.cells #[.int .i64 (j : Int)] 3)).alloc (.cells #[.string r.s, .slice P1 r.ps.length d1, .int .u8 r.b.k, .int .i64 r.b.n, .string r.b.s, .slice P2 r.b.ks.length d2] 58) = wk := ⟨_, rfl⟩
            rw [hwk] at hbk hbI1 hbR1 ⊢
            have HZK := Lib.hid (show wk.heap.size = w0.heap.size + 2 by rw [← hwk]; simp)
            have HBK := Lib.hid hbk
            obtain ⟨Rd2, hRd2⟩ : ∃ Rd2 : World → Prop, (fun W' : World => (Rd W' ∧ W'.heap[w0.heap.size]? = some (.cells #[.int .i64 (j : Int)] 3 (0, 0))) ∧ W'.heap[w0.heap.size + 1]? = some (.cells #[.string r.s, .slice P1 r.ps.length d1, .int .u8 r.b.k, .int .i64 r.b.n, .string r.b.s, .slice P2 r.b.ks.length d2] 58 (0, 0))) = Rd2 := ⟨_, rfl⟩
            have HRD2 := Lib.hid (show ∀ w' : World, Rd2 w' → (fun W' : World => (Rd W' ∧ W'.heap[w0.heap.size]? = some (.cells #[.int .i64 (j : Int)] 3 (0, 0))) ∧ W'.heap[w0.heap.size + 1]? = some (.cells #[.string r.s, .slice P1 r.ps.length d1, .int .u8 r.b.k, .int .i64 r.b.n, .string r.b.s, .slice P2 r.b.ks.length d2] 58 (0, 0))) w' from fun w' h => by rw [← hRd2] at h; exact h)
            have HK2 := Lib.hid (show ∀ (W W' : World) (pv : Value) (N : Nat), Rd2 W → FS W fb fb N pv → Chg (fun b => b = fb ∨ pv.ownBlock = some b) W W' → Rd2 W' from fun W W' pv N h hfs hc => by rw [← hRd2] at h ⊢; exact ⟨⟨HREP.out.keep _ _ _ _ h.1.1 hfs hc, hc.keep h.1.2 (hfs.other h.1.2 (by decide) (by decide))⟩, hc.keep h.2 (hfs.other h.2 (by decide) (by decide))⟩)
            have HI2 := Lib.hid (show VsI Rd2 fb fb wk pv' (F1 + prcN p.prs j) wk pv' from ⟨by rw [← hRd2]; exact ⟨⟨HREP.out.keep _ _ _ _ HINV.out.rd HINV.out.fs (Chg.of_below hbk), hbI1⟩, hbR1⟩, HINV.out.fs.later hbk, fun b hb => .inl hb, Chg.refl _ _⟩)
            have HC2 := Lib.hid (show ∀ w' : World, Rd2 w' → (fun w' : World => ((w'.cell? ⟨W.heap.size, 0, none⟩ = some (.slice A1 L1 c1) ∧ w'.cell? ⟨W.heap.size, 1, none⟩ = some (.slice (some a) L2 c2) ∧ w'.cell? ⟨W.heap.size, 2, none⟩ = some (.int .u8 k) ∧ w'.cell? ⟨W.heap.size, 3, none⟩ = some (.int .i64 n) ∧ w'.cell? ⟨W.heap.size, 4, none⟩ = some (.string s) ∧ w'.cell? ⟨W.heap.size, 5, none⟩ = some (.slice A3 l3 c3)) ∧ (w'.cell? ⟨fb + 1, 0, none⟩ = some (.func (.func 51) #[] #[.pointer (some ⟨fb, 0, none⟩)]))) ∧ (w'.cell? ⟨w0.heap.size, 0, none⟩ = some (.int .i64 (j : Int))) ∧ (w'.cell? ⟨w0.heap.size + 1, 0, none⟩ = some (.string r.s) ∧ w'.cell? ⟨w0.heap.size + 1, 1, none⟩ = some (.slice P1 r.ps.length d1) ∧ w'.cell? ⟨w0.heap.size + 1, 2, none⟩ = some (.int .u8 r.b.k) ∧ w'.cell? ⟨w0.heap.size + 1, 3, none⟩ = some (.int .i64 r.b.n) ∧ w'.cell? ⟨w0.heap.size + 1, 4, none⟩ = some (.string r.b.s) ∧ w'.cell? ⟨w0.heap.size + 1, 5, none⟩ = some (.slice P2 r.b.ks.length d2))) w' from fun w' h => ⟨HCC.out w' (HRD2.out w' h).1.1, cell_of_blk (HRD2.out w' h).1.2 rfl, box6 (HRD2.out w' h).2⟩)
            have HD2 := Lib.hid (show ∀ w' : World, Chg (fun b => b = fb ∨ pv'.ownBlock = some b) wk w' → PV w' (fun b => S b ∧ b < W.heap.size) p _ ∧ PrR w' (fun b => S b ∧ b < W.heap.size) r P1 d1 P2 d2 from fun w' h => ⟨(HD.out w' (HINV.out.chg2 HBK.out h)).1, HPR.out.keep (fun b hb _ => hb) fun b hb _ => (HKB.out w' (HINV.out.chg2 HBK.out h) b hb.1 hb.2).trans (HKB.out w0 HINV.out.chg b hb.1 hb.2).symm⟩)
            have HCK := Lib.hid (show ∀ w' : World, Below wk.heap.size wk w' → (fun w' : World => ((w'.cell? ⟨W.heap.size, 0, none⟩ = some (.slice A1 L1 c1) ∧ w'.cell? ⟨W.heap.size, 1, none⟩ = some (.slice (some a) L2 c2) ∧ w'.cell? ⟨W.heap.size, 2, none⟩ = some (.int .u8 k) ∧ w'.cell? ⟨W.heap.size, 3, none⟩ = some (.int .i64 n) ∧ w'.cell? ⟨W.heap.size, 4, none⟩ = some (.string s) ∧ w'.cell? ⟨W.heap.size, 5, none⟩ = some (.slice A3 l3 c3)) ∧ (w'.cell? ⟨fb + 1, 0, none⟩ = some (.func (.func 51) #[] #[.pointer (some ⟨fb, 0, none⟩)]))) ∧ (w'.cell? ⟨w0.heap.size, 0, none⟩ = some (.int .i64 (j : Int))) ∧ (w'.cell? ⟨w0.heap.size + 1, 0, none⟩ = some (.string r.s) ∧ w'.cell? ⟨w0.heap.size + 1, 1, none⟩ = some (.slice P1 r.ps.length d1) ∧ w'.cell? ⟨w0.heap.size + 1, 2, none⟩ = some (.int .u8 r.b.k) ∧ w'.cell? ⟨w0.heap.size + 1, 3, none⟩ = some (.int .i64 r.b.n) ∧ w'.cell? ⟨w0.heap.size + 1, 4, none⟩ = some (.string r.b.s) ∧ w'.cell? ⟨w0.heap.size + 1, 5, none⟩ = some (.slice P2 r.b.ks.length d2))) w' ∧ (fun _ : World => True) w' from fun w' h => ⟨HC2.out w' (HK2.out _ _ _ _ HI2.out.rd HI2.out.fs (Chg.of_below h)), trivial⟩)
            clear hwk hbk hbI1 hbR1 hRd2 a0 a1 a2 a3 a4 a5 ar q0 q1 q2 q3 q4 q5
            have hdr := (Below.refl wk.heap.size wk).drew
            have hSS := HCK.out _ hdr
            have hrb := HVB.out.2.2.1 r (by rw [← Hr.out]; exact List.getElem_mem hltp)
            have hpN := prcN_le p.prs HVB.out.2.2.1 j
            obtain ⟨rb1, rb2, rb3⟩ := hrb
            refine wp_region_noPanic ?_
            refine wp_region_G (fun w' : World => ((w'.cell? ⟨W.heap.size, 0, none⟩ = some (.slice A1 L1 c1) ∧ w'.cell? ⟨W.heap.size, 1, none⟩ = some (.slice (some a) L2 c2) ∧ w'.cell? ⟨W.heap.size, 2, none⟩ = some (.int .u8 k) ∧ w'.cell? ⟨W.heap.size, 3, none⟩ = some (.int .i64 n) ∧ w'.cell? ⟨W.heap.size, 4, none⟩ = some (.string s) ∧ w'.cell? ⟨W.heap.size, 5, none⟩ = some (.slice A3 l3 c3)) ∧ (w'.cell? ⟨fb + 1, 0, none⟩ = some (.func (.func 51) #[] #[.pointer (some ⟨fb, 0, none⟩)]))) ∧ (w'.cell? ⟨w0.heap.size, 0, none⟩ = some (.int .i64 (j : Int))) ∧ (w'.cell? ⟨w0.heap.size + 1, 0, none⟩ = some (.string r.s) ∧ w'.cell? ⟨w0.heap.size + 1, 1, none⟩ = some (.slice P1 r.ps.length d1) ∧ w'.cell? ⟨w0.heap.size + 1, 2, none⟩ = some (.int .u8 r.b.k) ∧ w'.cell? ⟨w0.heap.size + 1, 3, none⟩ = some (.int .i64 r.b.n) ∧ w'.cell? ⟨w0.heap.size + 1, 4, none⟩ = some (.string r.b.s) ∧ w'.cell? ⟨w0.heap.size + 1, 5, none⟩ = some (.slice P2 r.b.ks.length d2))) (fun _ : World => True) 40 (by kernel_rfl) ?_
            refine wpG_take1 (i := 0) (v := ?_) rfl (by kernel_rfl) (by kernel_rfl) (by kernel_rfl) (by decide) (fun _ _ _ h => h) (Or.inl ⟨by rfl, ?_⟩) hSS ?_
            rotate_left 1
            · (intro w hSw; (try dsimp only at hSw); (try simp only [List.getElem_toArray, List.getElem_cons_succ, List.getElem_cons_zero]); go_simp; (try with_reducible rfl))
            (try simp only [Act.put, List.getElem_toArray, List.getElem_cons_succ, List.getElem_cons_zero, List.setIfInBounds_toArray, List.set_cons_zero, List.set_cons_succ])
            refine wpG_take1 (i := 1) (v := ?_) rfl (by kernel_rfl) (by kernel_rfl) (by kernel_rfl) (by decide) (fun _ _ _ h => h) (Or.inl ⟨by rfl, ?_⟩) hSS ?_
            rotate_left 1
            · (intro w hSw; (try dsimp only at hSw); (try simp only [List.getElem_toArray, List.getElem_cons_succ, List.getElem_cons_zero]); go_simp; (try with_reducible rfl))
            (try simp only [Act.put, List.getElem_toArray, List.getElem_cons_succ, List.getElem_cons_zero, List.setIfInBounds_toArray, List.set_cons_zero, List.set_cons_succ])
            refine wpG_take1 (i := 2) (v := ?_) rfl (by kernel_rfl) (by kernel_rfl) (by kernel_rfl) (by decide) (fun _ _ _ h => h) (Or.inl ⟨by rfl, ?_⟩) hSS ?_
            rotate_left 1
            · (intro w hSw; (try dsimp only at hSw); (try simp only [List.getElem_toArray, List.getElem_cons_succ, List.getElem_cons_zero]); go_simp; (try with_reducible rfl))
            (try simp only [Act.put, List.getElem_toArray, List.getElem_cons_succ, List.getElem_cons_zero, List.setIfInBounds_toArray, List.set_cons_zero, List.set_cons_succ])
            refine wpG_take1 (i := 4) (v := ?_) rfl (by kernel_rfl) (by kernel_rfl) (by kernel_rfl) (by decide) (fun _ _ _ h => h) (Or.inl ⟨by rfl, ?_⟩) hSS ?_
            rotate_left 1
            · (intro w hSw; (try dsimp only at hSw); (try simp only [List.getElem_toArray, List.getElem_cons_succ, List.getElem_cons_zero]); go_simp; (try with_reducible rfl))
            (try simp only [Act.put, List.getElem_toArray, List.getElem_cons_succ, List.getElem_cons_zero, List.setIfInBounds_toArray, List.set_cons_zero, List.set_cons_succ])
            refine wpG_one (i := 3) (by kernel_rfl) rfl (fun K hK => ?_)
            refine step_callL (by rfl) (.func 53) [.tmp 45, .tmp 47] _ (by rfl) 53 _ fnSProc (by rfl) _ (by rfl) _ (isW_of (Proc_any p _ _ r.s _ (HD2.out _ (Chg.of_below hdr)).1)) ?_
            rintro vq w2 ⟨rfl, bw2⟩
            have b2 := bl_tt hdr bw2
            have hSS2 := HCK.out _ b2
            obtain ⟨PE, hPE⟩ : ∃ PE, procE p.prs r.s = PE := ⟨_, rfl⟩
            rw [hPE]
            have HPE := Lib.hid hPE
            refine hK.out _ _ hSS2 ?_
            clear hK K hSS hPE
            (try simp only [Act.put, List.getElem_toArray, List.getElem_cons_succ, List.getElem_cons_zero, List.setIfInBounds_toArray, List.set_cons_zero, List.set_cons_succ])
            have HI2b := Lib.hid (show VsI Rd2 fb fb wk pv' (F1 + prcN p.prs j) w2 pv' from ⟨HK2.out _ _ _ _ HI2.out.rd HI2.out.fs (Chg.of_below b2), HI2.out.fs.later b2, fun b hb => .inl hb, Chg.of_below b2⟩)
            by_cases hpe : PE < (j : Int)
            · have hd : decide (PE < (j : Int)) = true := decide_eq_true hpe
              obtain ⟨E1, hE1⟩ : ∃ E1, one1 (22) = E1 := ⟨_, rfl⟩
              have hE2 : E1 ≤ 1 := by rw [← hE1]; exact one1_le _
              have HE1 := Lib.hid (show one1 (if procE p.prs r.s < (j : Int) then 22 else 0) = E1 by rw [HPE.out, if_pos hpe]; exact hE1)
              refine wpG_take1 (i := 5) (v := ?_) rfl (by kernel_rfl) (by kernel_rfl) (by kernel_rfl) (by decide) (fun _ _ _ h => h) (Or.inl ⟨by rfl, ?_⟩) hSS2 ?_
              rotate_left 1
              · (intro w hSw; (try dsimp only at hSw); (try simp only [List.getElem_toArray, List.getElem_cons_succ, List.getElem_cons_zero]); go_simp; (try with_reducible rfl))
              (try simp only [Act.put, List.getElem_toArray, List.getElem_cons_succ, List.getElem_cons_zero, List.setIfInBounds_toArray, List.set_cons_zero, List.set_cons_succ])
              refine wpG_done (by kernel_rfl) ?_
              refine NoPanic.normal ?_
              obtain ⟨⟨⟨a0, a1, a2, a3, a4, a5⟩, ar⟩, ai, r0, r1, r2, r3, r4, r5⟩ := hSS2.1
              clear hSS2
              go_wp2_with fail
              refine (report_any fb fb _ pv' (j : Int) 22 [] none 0 r.s Any w2 HI2b.out.fs RowI.nil (by simp) (by omega)).mono ?_
              rintro e w3 hp
              obtain ⟨v3, rfl⟩ := hp.1
              obtain ⟨pv3, hi3⟩ := HI2b.out.stepK HK2.out (Below.refl _ _) hp
              rw [hE1] at hi3
              have HI3 := Lib.hid hi3
              clear hp a0 a1 a2 a3 a4 a5 ar ai r0 r1 r2 r3 r4 r5
              obtain ⟨⟨⟨a0, a1, a2, a3, a4, a5⟩, ar⟩, ai, r0, r1, r2, r3, r4, r5⟩ := HC2.out _ hi3.rd
              clear hi3 hE1
              go_wp2_with fail
              go_loopw [59] (fun x w' => ∃ (i : Nat) (pv2 : Value), i ≤ r.ps.length ∧ x = .int .i64 i ∧ VsI Rd2 fb fb wk pv' (F1 + prcN p.prs j + E1 + frsN r.ps i) w' pv2) (fun x _ => r.ps.length - (intOf x).toNat)
              case atStart => exact ⟨0, _, Nat.zero_le _, rfl, HI3.out⟩
              case round =>
                clear HI3 a0 a1 a2 a3 a4 a5 ar ai r0 r1 r2 r3 r4 r5
                obtain ⟨i, pv2, hi, rfl, hinv⟩ := hrel
                have HIN2 := Lib.hid hinv
                by_cases hli : i < r.ps.length
                · obtain ⟨a', u, rfl, hsa, Hu, ⟨q0, q1, q2⟩, hfu⟩ := (HD2.out wr hinv.chg).2.row.nd hli
                  have hic : (i : Int) ≤ (d1 : Int) := by have := HPR.out.lc; omega
                  have hi0 : (0 : Int) ≤ (i : Int) := by omega
                  obtain ⟨⟨⟨a0, a1, a2, a3, a4, a5⟩, ar⟩, ai, r0, r1, r2, r3, r4, r5⟩ := HC2.out _ hinv.rd
                  clear hinv hsa hfu
                  go_upto_region 18 with fail
                  have hbk : Below wr.heap.size wr (wr.alloc (.cells #[.string u.s, .int .u8 u.k, .int .i64 u.n] 56)) := bl_al (Below.refl _ _) _
                  have hbU := heap_alloc_new wr (.cells #[.string u.s, .int .u8 u.k, .int .i64 u.n] 56)
                  obtain ⟨wv, hwv⟩ : ∃ wv, wr.alloc (.cells #[.string u.s, .int .u8 u.k, .int .i64 u.n] 56) = wv := ⟨_, rfl⟩
                  rw [hwv] at hbk hbU ⊢
                  have HZV := Lib.hid (show wv.heap.size = wr.heap.size + 1 by rw [← hwv]; simp)
                  have HBV := Lib.hid hbk
                  have HBU := Lib.hid hbU
                  clear hwv hbk hbU a0 a1 a2 a3 a4 a5 ar ai r0 r1 r2 r3 r4 r5 q0 q1 q2
                  have HCV := Lib.hid (show ∀ w' : World, Below wv.heap.size wv w' → (fun w' : World => (fun w' : World => ((w'.cell? ⟨W.heap.size, 0, none⟩ = some (.slice A1 L1 c1) ∧ w'.cell? ⟨W.heap.size, 1, none⟩ = some (.slice (some a) L2 c2) ∧ w'.cell? ⟨W.heap.size, 2, none⟩ = some (.int .u8 k) ∧ w'.cell? ⟨W.heap.size, 3, none⟩ = some (.int .i64 n) ∧ w'.cell? ⟨W.heap.size, 4, none⟩ = some (.string s) ∧ w'.cell? ⟨W.heap.size, 5, none⟩ = some (.slice A3 l3 c3)) ∧ (w'.cell? ⟨fb + 1, 0, none⟩ = some (.func (.func 51) #[] #[.pointer (some ⟨fb, 0, none⟩)]))) ∧ (w'.cell? ⟨w0.heap.size, 0, none⟩ = some (.int .i64 (j : Int))) ∧ (w'.cell? ⟨w0.heap.size + 1, 0, none⟩ = some (.string r.s) ∧ w'.cell? ⟨w0.heap.size + 1, 1, none⟩ = some (.slice (some a') r.ps.length d1) ∧ w'.cell? ⟨w0.heap.size + 1, 2, none⟩ = some (.int .u8 r.b.k) ∧ w'.cell? ⟨w0.heap.size + 1, 3, none⟩ = some (.int .i64 r.b.n) ∧ w'.cell? ⟨w0.heap.size + 1, 4, none⟩ = some (.string r.b.s) ∧ w'.cell? ⟨w0.heap.size + 1, 5, none⟩ = some (.slice P2 r.b.ks.length d2))) w' ∧ (w'.cell? ⟨wr.heap.size, 0, none⟩ = some (.string u.s) ∧ w'.cell? ⟨wr.heap.size, 1, none⟩ = some (.int .u8 u.k) ∧ w'.cell? ⟨wr.heap.size, 2, none⟩ = some (.int .i64 u.n))) w' ∧ (fun _ : World => True) w' from fun w' h => ⟨⟨HC2.out _ (HK2.out _ _ _ _ HIN2.out.rd HIN2.out.fs (Chg.of_below (bl_tt HBV.out h))), box3 ((h.block _ (by have := HZV.out; omega)).trans HBU.out)⟩, trivial⟩)
                  have hdv := (Below.refl wv.heap.size wv).drew
                  have hSS := HCV.out _ hdv
                  have hfN := frsN_le r.ps i
                  refine wp_region_noPanic ?_
                  refine wp_region_G (fun w' : World => (fun w' : World => ((w'.cell? ⟨W.heap.size, 0, none⟩ = some (.slice A1 L1 c1) ∧ w'.cell? ⟨W.heap.size, 1, none⟩ = some (.slice (some a) L2 c2) ∧ w'.cell? ⟨W.heap.size, 2, none⟩ = some (.int .u8 k) ∧ w'.cell? ⟨W.heap.size, 3, none⟩ = some (.int .i64 n) ∧ w'.cell? ⟨W.heap.size, 4, none⟩ = some (.string s) ∧ w'.cell? ⟨W.heap.size, 5, none⟩ = some (.slice A3 l3 c3)) ∧ (w'.cell? ⟨fb + 1, 0, none⟩ = some (.func (.func 51) #[] #[.pointer (some ⟨fb, 0, none⟩)]))) ∧ (w'.cell? ⟨w0.heap.size, 0, none⟩ = some (.int .i64 (j : Int))) ∧ (w'.cell? ⟨w0.heap.size + 1, 0, none⟩ = some (.string r.s) ∧ w'.cell? ⟨w0.heap.size + 1, 1, none⟩ = some (.slice (some a') r.ps.length d1) ∧ w'.cell? ⟨w0.heap.size + 1, 2, none⟩ = some (.int .u8 r.b.k) ∧ w'.cell? ⟨w0.heap.size + 1, 3, none⟩ = some (.int .i64 r.b.n) ∧ w'.cell? ⟨w0.heap.size + 1, 4, none⟩ = some (.string r.b.s) ∧ w'.cell? ⟨w0.heap.size + 1, 5, none⟩ = some (.slice P2 r.b.ks.length d2))) w' ∧ (w'.cell? ⟨wr.heap.size, 0, none⟩ = some (.string u.s) ∧ w'.cell? ⟨wr.heap.size, 1, none⟩ = some (.int .u8 u.k) ∧ w'.cell? ⟨wr.heap.size, 2, none⟩ = some (.int .i64 u.n))) (fun _ : World => True) 40 (by kernel_rfl) ?_
                  refine wpG_take1 (i := 0) (v := ?_) rfl (by kernel_rfl) (by kernel_rfl) (by kernel_rfl) (by decide) (fun _ _ _ h => h) (Or.inl ⟨by rfl, ?_⟩) hSS ?_
                  rotate_left 1
                  · (intro w hSw; (try dsimp only at hSw); (try simp only [List.getElem_toArray, List.getElem_cons_succ, List.getElem_cons_zero]); go_simp; (try with_reducible rfl))
                  (try simp only [Act.put, List.getElem_toArray, List.getElem_cons_succ, List.getElem_cons_zero, List.setIfInBounds_toArray, List.set_cons_zero, List.set_cons_succ])
                  refine wpG_take1 (i := 1) (v := ?_) rfl (by kernel_rfl) (by kernel_rfl) (by kernel_rfl) (by decide) (fun _ _ _ h => h) (Or.inl ⟨by rfl, ?_⟩) hSS ?_
                  rotate_left 1
                  · (intro w hSw; (try dsimp only at hSw); (try simp only [List.getElem_toArray, List.getElem_cons_succ, List.getElem_cons_zero]); go_simp; (try with_reducible rfl))
                  (try simp only [Act.put, List.getElem_toArray, List.getElem_cons_succ, List.getElem_cons_zero, List.setIfInBounds_toArray, List.set_cons_zero, List.set_cons_succ])
                  refine wpG_take1 (i := 2) (v := ?_) rfl (by kernel_rfl) (by kernel_rfl) (by kernel_rfl) (by decide) (fun _ _ _ h => h) (Or.inl ⟨by rfl, ?_⟩) hSS ?_
                  rotate_left 1
                  · (intro w hSw; (try dsimp only at hSw); (try simp only [List.getElem_toArray, List.getElem_cons_succ, List.getElem_cons_zero]); go_simp; (try with_reducible rfl))
                  (try simp only [Act.put, List.getElem_toArray, List.getElem_cons_succ, List.getElem_cons_zero, List.setIfInBounds_toArray, List.set_cons_zero, List.set_cons_succ])
                  refine wpG_take1 (i := 3) (v := ?_) rfl (by kernel_rfl) (by kernel_rfl) (by kernel_rfl) (by decide) (fun _ _ _ h => h) (Or.inl ⟨by rfl, ?_⟩) hSS ?_
                  rotate_left 1
                  · (intro w hSw; (try dsimp only at hSw); (try simp only [List.getElem_toArray, List.getElem_cons_succ, List.getElem_cons_zero]); go_simp; (try with_reducible rfl))
                  (try simp only [Act.put, List.getElem_toArray, List.getElem_cons_succ, List.getElem_cons_zero, List.setIfInBounds_toArray, List.set_cons_zero, List.set_cons_succ])
                  refine wpG_take1 (i := 4) (v := ?_) rfl (by kernel_rfl) (by kernel_rfl) (by kernel_rfl) (by decide) (fun _ _ _ h => h) (Or.inl ⟨by rfl, ?_⟩) hSS ?_
                  rotate_left 1
                  · (intro w hSw; (try dsimp only at hSw); (try simp only [List.getElem_toArray, List.getElem_cons_succ, List.getElem_cons_zero]); go_simp; (try with_reducible rfl))
                  (try simp only [Act.put, List.getElem_toArray, List.getElem_cons_succ, List.getElem_cons_zero, List.setIfInBounds_toArray, List.set_cons_zero, List.set_cons_succ])
                  refine wpG_take1 (i := 5) (v := ?_) rfl (by kernel_rfl) (by kernel_rfl) (by kernel_rfl) (by decide) (fun _ _ _ h => h) (Or.inl ⟨by rfl, ?_⟩) hSS ?_
                  rotate_left 1
                  · (intro w hSw; (try dsimp only at hSw); (try simp only [List.getElem_toArray, List.getElem_cons_succ, List.getElem_cons_zero]); go_simp; (try with_reducible rfl))
                  (try simp only [Act.put, List.getElem_toArray, List.getElem_cons_succ, List.getElem_cons_zero, List.setIfInBounds_toArray, List.set_cons_zero, List.set_cons_succ])
                  refine wpG_take1 (i := 6) (v := ?_) rfl (by kernel_rfl) (by kernel_rfl) (by kernel_rfl) (by decide) (fun _ _ _ h => h) (Or.inl ⟨by rfl, ?_⟩) hSS ?_
                  rotate_left 1
                  · (intro w hSw; (try dsimp only at hSw); (try simp only [List.getElem_toArray, List.getElem_cons_succ, List.getElem_cons_zero]); go_simp; (try with_reducible rfl))
                  (try simp only [Act.put, List.getElem_toArray, List.getElem_cons_succ, List.getElem_cons_zero, List.setIfInBounds_toArray, List.set_cons_zero, List.set_cons_succ])
                  refine wpG_take1 (i := 7) (v := ?_) rfl (by kernel_rfl) (by kernel_rfl) (by kernel_rfl) (by decide) (fun _ _ _ h => h) (Or.inl ⟨by rfl, ?_⟩) hSS ?_
                  rotate_left 1
                  · (intro w hSw; (try dsimp only at hSw); (try simp only [List.getElem_toArray, List.getElem_cons_succ, List.getElem_cons_zero]); go_simp; (try with_reducible rfl))
                  (try simp only [Act.put, List.getElem_toArray, List.getElem_cons_succ, List.getElem_cons_zero, List.setIfInBounds_toArray, List.set_cons_zero, List.set_cons_succ])
                  refine wpG_take1 (i := 8) (v := ?_) rfl (by kernel_rfl) (by kernel_rfl) (by kernel_rfl) (by decide) (fun _ _ _ h => h) (Or.inl ⟨by rfl, ?_⟩) hSS ?_
                  rotate_left 1
                  · (intro w hSw; (try dsimp only at hSw); (try simp only [List.getElem_toArray, List.getElem_cons_succ, List.getElem_cons_zero]); go_simp; (try with_reducible rfl))
                  (try simp only [Act.put, List.getElem_toArray, List.getElem_cons_succ, List.getElem_cons_zero, List.setIfInBounds_toArray, List.set_cons_zero, List.set_cons_succ])
                  refine wpG_take1 (i := 9) (v := ?_) rfl (by kernel_rfl) (by kernel_rfl) (by kernel_rfl) (by decide) (fun _ _ _ h => h) (Or.inl ⟨by rfl, ?_⟩) hSS ?_
                  rotate_left 1
                  · (intro w hSw; (try dsimp only at hSw); (try simp only [List.getElem_toArray, List.getElem_cons_succ, List.getElem_cons_zero]); go_simp; (try with_reducible rfl))
                  (try simp only [Act.put, List.getElem_toArray, List.getElem_cons_succ, List.getElem_cons_zero, List.setIfInBounds_toArray, List.set_cons_zero, List.set_cons_succ])
                  refine wpG_one (i := 10) (by kernel_rfl) rfl (fun K hK => ?_)
                  refine step_callL (by rfl) (.func 52) [.tmp 71, .tmp 73] _ (by rfl) 52 _ fnFresh (by rfl) _ (by rfl) _ (isW_of (fresh_take r.ps i (by omega) (some a') d1 u.s _ _ (HD2.out _ (HIN2.out.chg.trans (Chg.of_below (bl_tt HBV.out hdv)))).2.row HPR.out.lp)) ?_
                  rintro vq w5 ⟨rfl, bw5⟩
                  have b5 := bl_tt hdv bw5
                  refine hK.out _ _ (HCV.out _ b5) ?_
                  clear hK K hSS
                  (try simp only [Act.put, List.getElem_toArray, List.getElem_cons_succ, List.getElem_cons_zero, List.setIfInBounds_toArray, List.set_cons_zero, List.set_cons_succ])
                  refine wpG_one (i := 11) (by kernel_rfl) rfl (fun K hK => ?_)
                  refine step_callC (by rfl) (.tmp 64) [.tmp 65, .const (.slice none 0 0), .tmp 67, .tmp 74] _ (by rfl) 51 _ fnChk1 #[.pointer (some ⟨fb, 0, none⟩)] (by rfl) _ (by rfl) _ (repV_of (report_cat fb fb _ pv2 (j : Int) _ [] none 0 u.s Any _ (HIN2.out.fs.later (bl_tt HBV.out b5)) RowI.nil (by simp) (by omega))) ?_
                  rintro vq W6 hp
                  obtain ⟨pv6, hi6⟩ := HIN2.out.stepK HK2.out (bl_tt HBV.out b5) hp
                  have hi7 : VsI Rd2 fb fb wk pv' (F1 + prcN p.prs j + E1 + frsN r.ps (i + 1)) W6 pv6 := by rw [frsN_succ hli, Hu.out, ← Nat.add_assoc]; exact hi6
                  have hSS6 : (fun w' : World => (fun w' : World => ((w'.cell? ⟨W.heap.size, 0, none⟩ = some (.slice A1 L1 c1) ∧ w'.cell? ⟨W.heap.size, 1, none⟩ = some (.slice (some a) L2 c2) ∧ w'.cell? ⟨W.heap.size, 2, none⟩ = some (.int .u8 k) ∧ w'.cell? ⟨W.heap.size, 3, none⟩ = some (.int .i64 n) ∧ w'.cell? ⟨W.heap.size, 4, none⟩ = some (.string s) ∧ w'.cell? ⟨W.heap.size, 5, none⟩ = some (.slice A3 l3 c3)) ∧ (w'.cell? ⟨fb + 1, 0, none⟩ = some (.func (.func 51) #[] #[.pointer (some ⟨fb, 0, none⟩)]))) ∧ (w'.cell? ⟨w0.heap.size, 0, none⟩ = some (.int .i64 (j : Int))) ∧ (w'.cell? ⟨w0.heap.size + 1, 0, none⟩ = some (.string r.s) ∧ w'.cell? ⟨w0.heap.size + 1, 1, none⟩ = some (.slice (some a') r.ps.length d1) ∧ w'.cell? ⟨w0.heap.size + 1, 2, none⟩ = some (.int .u8 r.b.k) ∧ w'.cell? ⟨w0.heap.size + 1, 3, none⟩ = some (.int .i64 r.b.n) ∧ w'.cell? ⟨w0.heap.size + 1, 4, none⟩ = some (.string r.b.s) ∧ w'.cell? ⟨w0.heap.size + 1, 5, none⟩ = some (.slice P2 r.b.ks.length d2))) w' ∧ (w'.cell? ⟨wr.heap.size, 0, none⟩ = some (.string u.s) ∧ w'.cell? ⟨wr.heap.size, 1, none⟩ = some (.int .u8 u.k) ∧ w'.cell? ⟨wr.heap.size, 2, none⟩ = some (.int .i64 u.n))) W6 ∧ (fun _ : World => True) W6 := ⟨⟨HC2.out _ hi7.rd, box3 ((hp.2.elim fun _ h => h.2.2.block _ (by have := (bl_tt HBV.out b5).size; have := b5.size; have := HZV.out; omega) (fun hh => by have hl := HIN2.out.fs.lt; rcases hh with hh | hh; (have := hl.1; omega); (have := (hl.2 _ hh).2; omega))).trans ((b5.block _ (by have := HZV.out; omega)).trans HBU.out))⟩, trivial⟩
                  refine hK.out _ _ hSS6 ?_
                  clear hK K
                  (try simp only [Act.put, List.getElem_toArray, List.getElem_cons_succ, List.getElem_cons_zero, List.setIfInBounds_toArray, List.set_cons_zero, List.set_cons_succ])
                  refine wpG_done (by kernel_rfl) ?_
                  refine NoPanic.normal ?_
                  have HI7 := Lib.hid hi7
                  clear hi7 hi6 hp hSS6
                  go_wp2_with fail
                  go_roundw
                  case rel => exact ⟨i + 1, _, by omega, by go_num, HI7.out⟩
                  case measure => simp [intOf]; omega
                · have hil : i = r.ps.length := by omega
                  obtain ⟨⟨⟨a0, a1, a2, a3, a4, a5⟩, ar⟩, ai, r0, r1, r2, r3, r4, r5⟩ := HC2.out _ hinv.rd
                  have hge : ¬ ((i : Int) < (r.ps.length : Int)) := by omega
                  clear hinv
                  go_wp2_with fail
                  have hfN := frsN_le r.ps r.ps.length
                  have HN2 := Lib.hid (show VsI Rd2 fb fb wk pv' (F1 + prcN p.prs j + E1 + frsN r.ps r.ps.length) wr pv2 by rw [← hil]; exact HIN2.out)
                  have hzw := HIN2.out.chg.size
                  have hzk := HZK.out
                  have hz0 := HINV.out.chg.size
                  have hzb := HZB.out
                  refine (svisit_any 55 _ _ fb fb (Chk2_rep fb fb (fb + 1) w0.heap.size (j : Int)) p r.b (fun b => S b ∧ b < W.heap.size) r.ps P1 d1 [] none 0 (F1 + prcN p.prs j + E1 + frsN r.ps r.ps.length) pv2 wr _ _ ⟨(HRD.out _ (HRD2.out _ HN2.out.rd).1.1).1, (HRD2.out _ HN2.out.rd).1.2⟩ HN2.out.fs (HD2.out _ HN2.out.chg).1 (HD2.out _ HN2.out.chg).2.body (HD2.out _ HN2.out.chg).2.row HPR.out.lc RowI.nil (Nat.zero_le _) (fun b hb hbl hh => ?_) (by simp; omega) (by omega) (by omega)).mono ?_
                  · rcases hh with hh | hh
                    · have := hb.2; omega
                    · rcases HN2.out.own b hh with h1 | h1
                      · have := (HINV.out.fs.lt.2 b h1).1; have := hb.2; omega
                      · have := hb.2; omega
                  rintro e W6 hp
                  obtain ⟨v6, rfl⟩ := hp.1
                  obtain ⟨pv6, hi6⟩ := HN2.out.stepK HK2.out (Below.refl _ _) hp
                  obtain ⟨pv7, hi7⟩ := HINV.out.step HREP.out HBK.out (hi6.rep (Below.refl _ _) (e := .returned undef) ⟨_, rfl⟩)
                  have HI8 := Lib.hid (show VsI Rd fb fb Wb (.slice none 0 0) (F1 + prcN p.prs (j + 1)) W6 pv7 by rw [prcN_succ hltp, Hr.out, prcE, HE1.out]; simpa only [Nat.add_assoc] using hi7)
                  clear hi7 hi6 hp a0 a1 a2 a3 a4 a5 ar ai r0 r1 r2 r3 r4 r5
                  go_wp2_with fail
                  go_roundw
                  case rel => exact ⟨j + 1, _, by omega, by go_num, HI8.out⟩
                  case measure => simp [intOf]; omega
            · have hd : decide (PE < (j : Int)) = false := decide_eq_false hpe
              obtain ⟨E1, hE1⟩ : ∃ E1, one1 (0) = E1 := ⟨_, rfl⟩
              have hE2 : E1 ≤ 1 := by rw [← hE1]; exact one1_le _
              have HE1 := Lib.hid (show one1 (if procE p.prs r.s < (j : Int) then 22 else 0) = E1 by rw [HPE.out, if_neg hpe]; exact hE1)
              refine wpG_take1 (i := 5) (v := ?_) rfl (by kernel_rfl) (by kernel_rfl) (by kernel_rfl) (by decide) (fun _ _ _ h => h) (Or.inl ⟨by rfl, ?_⟩) hSS2 ?_
              rotate_left 1
              · (intro w hSw; (try dsimp only at hSw); (try simp only [List.getElem_toArray, List.getElem_cons_succ, List.getElem_cons_zero]); go_simp; (try with_reducible rfl))
              (try simp only [Act.put, List.getElem_toArray, List.getElem_cons_succ, List.getElem_cons_zero, List.setIfInBounds_toArray, List.set_cons_zero, List.set_cons_succ])
              refine wpG_done (by kernel_rfl) ?_
              refine NoPanic.normal ?_
              obtain ⟨⟨⟨a0, a1, a2, a3, a4, a5⟩, ar⟩, ai, r0, r1, r2, r3, r4, r5⟩ := hSS2.1
              clear hSS2
              go_wp2_with fail
              have HI3 := Lib.hid (show VsI Rd2 fb fb wk pv' (F1 + prcN p.prs j + E1) w2 pv' by rw [← hE1]; exact HI2b.out)
              clear hE1
              go_loopw [59] (fun x w' => ∃ (i : Nat) (pv2 : Value), i ≤ r.ps.length ∧ x = .int .i64 i ∧ VsI Rd2 fb fb wk pv' (F1 + prcN p.prs j + E1 + frsN r.ps i) w' pv2) (fun x _ => r.ps.length - (intOf x).toNat)
              case atStart => exact ⟨0, _, Nat.zero_le _, rfl, HI3.out⟩
              case round =>
                clear HI3 a0 a1 a2 a3 a4 a5 ar ai r0 r1 r2 r3 r4 r5
                obtain ⟨i, pv2, hi, rfl, hinv⟩ := hrel
                have HIN2 := Lib.hid hinv
                by_cases hli : i < r.ps.length
                · obtain ⟨a', u, rfl, hsa, Hu, ⟨q0, q1, q2⟩, hfu⟩ := (HD2.out wr hinv.chg).2.row.nd hli
                  have hic : (i : Int) ≤ (d1 : Int) := by have := HPR.out.lc; omega
                  have hi0 : (0 : Int) ≤ (i : Int) := by omega
                  obtain ⟨⟨⟨a0, a1, a2, a3, a4, a5⟩, ar⟩, ai, r0, r1, r2, r3, r4, r5⟩ := HC2.out _ hinv.rd
                  clear hinv hsa hfu
                  go_upto_region 18 with fail
                  have hbk : Below wr.heap.size wr (wr.alloc (.cells #[.string u.s, .int .u8 u.k, .int .i64 u.n] 56)) := bl_al (Below.refl _ _) _
                  have hbU := heap_alloc_new wr (.cells #[.string u.s, .int .u8 u.k, .int .i64 u.n] 56)
                  obtain ⟨wv, hwv⟩ : ∃ wv, wr.alloc (.cells #[.string u.s, .int .u8 u.k, .int .i64 u.n] 56) = wv := ⟨_, rfl⟩
                  rw [hwv] at hbk hbU ⊢
                  have HZV := Lib.hid (show wv.heap.size = wr.heap.size + 1 by rw [← hwv]; simp)
                  have HBV := Lib.hid hbk
                  have HBU := Lib.hid hbU
                  clear hwv hbk hbU a0 a1 a2 a3 a4 a5 ar ai r0 r1 r2 r3 r4 r5 q0 q1 q2
                  have HCV := Lib.hid (show ∀ w' : World, Below wv.heap.size wv w' → (fun w' : World => (fun w' : World => ((w'.cell? ⟨W.heap.size, 0, none⟩ = some (.slice A1 L1 c1) ∧ w'.cell? ⟨W.heap.size, 1, none⟩ = some (.slice (some a) L2 c2) ∧ w'.cell? ⟨W.heap.size, 2, none⟩ = some (.int .u8 k) ∧ w'.cell? ⟨W.heap.size, 3, none⟩ = some (.int .i64 n) ∧ w'.cell? ⟨W.heap.size, 4, none⟩ = some (.string s) ∧ w'.cell? ⟨W.heap.size, 5, none⟩ = some (.slice A3 l3 c3)) ∧ (w'.cell? ⟨fb + 1, 0, none⟩ = some (.func (.func 51) #[] #[.pointer (some ⟨fb, 0, none⟩)]))) ∧ (w'.cell? ⟨w0.heap.size, 0, none⟩ = some (.int .i64 (j : Int))) ∧ (w'.cell? ⟨w0.heap.size + 1, 0, none⟩ = some (.string r.s) ∧ w'.cell? ⟨w0.heap.size + 1, 1, none⟩ = some (.slice (some a') r.ps.length d1) ∧ w'.cell? ⟨w0.heap.size + 1, 2, none⟩ = some (.int .u8 r.b.k) ∧ w'.cell? ⟨w0.heap.size + 1, 3, none⟩ = some (.int .i64 r.b.n) ∧ w'.cell? ⟨w0.heap.size + 1, 4, none⟩ = some (.string r.b.s) ∧ w'.cell? ⟨w0.heap.size + 1, 5, none⟩ = some (.slice P2 r.b.ks.length d2))) w' ∧ (w'.cell? ⟨wr.heap.size, 0, none⟩ = some (.string u.s) ∧ w'.cell? ⟨wr.heap.size, 1, none⟩ = some (.int .u8 u.k) ∧ w'.cell? ⟨wr.heap.size, 2, none⟩ = some (.int .i64 u.n))) w' ∧ (fun _ : World => True) w' from fun w' h => ⟨⟨HC2.out _ (HK2.out _ _ _ _ HIN2.out.rd HIN2.out.fs (Chg.of_below (bl_tt HBV.out h))), box3 ((h.block _ (by have := HZV.out; omega)).trans HBU.out)⟩, trivial⟩)
                  have hdv := (Below.refl wv.heap.size wv).drew
                  have hSS := HCV.out _ hdv
                  have hfN := frsN_le r.ps i
                  refine wp_region_noPanic ?_
                  refine wp_region_G (fun w' : World => (fun w' : World => ((w'.cell? ⟨W.heap.size, 0, none⟩ = some (.slice A1 L1 c1) ∧ w'.cell? ⟨W.heap.size, 1, none⟩ = some (.slice (some a) L2 c2) ∧ w'.cell? ⟨W.heap.size, 2, none⟩ = some (.int .u8 k) ∧ w'.cell? ⟨W.heap.size, 3, none⟩ = some (.int .i64 n) ∧ w'.cell? ⟨W.heap.size, 4, none⟩ = some (.string s) ∧ w'.cell? ⟨W.heap.size, 5, none⟩ = some (.slice A3 l3 c3)) ∧ (w'.cell? ⟨fb + 1, 0, none⟩ = some (.func (.func 51) #[] #[.pointer (some ⟨fb, 0, none⟩)]))) ∧ (w'.cell? ⟨w0.heap.size, 0, none⟩ = some (.int .i64 (j : Int))) ∧ (w'.cell? ⟨w0.heap.size + 1, 0, none⟩ = some (.string r.s) ∧ w'.cell? ⟨w0.heap.size + 1, 1, none⟩ = some (.slice (some a') r.ps.length d1) ∧ w'.cell? ⟨w0.heap.size + 1, 2, none⟩ = some (.int .u8 r.b.k) ∧ w'.cell? ⟨w0.heap.size + 1, 3, none⟩ = some (.int .i64 r.b.n) ∧ w'.cell? ⟨w0.heap.size + 1, 4, none⟩ = some (.string r.b.s) ∧ w'.cell? ⟨w0.heap.size + 1, 5, none⟩ = some (.slice P2 r.b.ks.length d2))) w' ∧ (w'.cell? ⟨wr.heap.size, 0, none⟩ = some (.string u.s) ∧ w'.cell? ⟨wr.heap.size, 1, none⟩ = some (.int .u8 u.k) ∧ w'.cell? ⟨wr.heap.size, 2, none⟩ = some (.int .i64 u.n))) (fun _ : World => True) 40 (by kernel_rfl) ?_
                  refine wpG_take1 (i := 0) (v := ?_) rfl (by kernel_rfl) (by kernel_rfl) (by kernel_rfl) (by decide) (fun _ _ _ h => h) (Or.inl ⟨by rfl, ?_⟩) hSS ?_
                  rotate_left 1
                  · (intro w hSw; (try dsimp only at hSw); (try simp only [List.getElem_toArray, List.getElem_cons_succ, List.getElem_cons_zero]); go_simp; (try with_reducible rfl))
                  (try simp only [Act.put, List.getElem_toArray, List.getElem_cons_succ, List.getElem_cons_zero, List.setIfInBounds_toArray, List.set_cons_zero, List.set_cons_succ])
                  refine wpG_take1 (i := 1) (v := ?_) rfl (by kernel_rfl) (by kernel_rfl) (by kernel_rfl) (by decide) (fun _ _ _ h => h) (Or.inl ⟨by rfl, ?_⟩) hSS ?_
                  rotate_left 1
                  · (intro w hSw; (try dsimp only at hSw); (try simp only [List.getElem_toArray, List.getElem_cons_succ, List.getElem_cons_zero]); go_simp; (try with_reducible rfl))
                  (try simp only [Act.put, List.getElem_toArray, List.getElem_cons_succ, List.getElem_cons_zero, List.setIfInBounds_toArray, List.set_cons_zero, List.set_cons_succ])
                  refine wpG_take1 (i := 2) (v := ?_) rfl (by kernel_rfl) (by kernel_rfl) (by kernel_rfl) (by decide) (fun _ _ _ h => h) (Or.inl ⟨by rfl, ?_⟩) hSS ?_
                  rotate_left 1
                  · (intro w hSw; (try dsimp only at hSw); (try simp only [List.getElem_toArray, List.getElem_cons_succ, List.getElem_cons_zero]); go_simp; (try with_reducible rfl))
                  (try simp only [Act.put, List.getElem_toArray, List.getElem_cons_succ, List.getElem_cons_zero, List.setIfInBounds_toArray, List.set_cons_zero, List.set_cons_succ])
                  refine wpG_take1 (i := 3) (v := ?_) rfl (by kernel_rfl) (by kernel_rfl) (by kernel_rfl) (by decide) (fun _ _ _ h => h) (Or.inl ⟨by rfl, ?_⟩) hSS ?_
                  rotate_left 1
                  · (intro w hSw; (try dsimp only at hSw); (try simp only [List.getElem_toArray, List.getElem_cons_succ, List.getElem_cons_zero]); go_simp; (try with_reducible rfl))
                  (try simp only [Act.put, List.getElem_toArray, List.getElem_cons_succ, List.getElem_cons_zero, List.setIfInBounds_toArray, List.set_cons_zero, List.set_cons_succ])
                  refine wpG_take1 (i := 4) (v := ?_) rfl (by kernel_rfl) (by kernel_rfl) (by kernel_rfl) (by decide) (fun _ _ _ h => h) (Or.inl ⟨by rfl, ?_⟩) hSS ?_
                  rotate_left 1
                  · (intro w hSw; (try dsimp only at hSw); (try simp only [List.getElem_toArray, List.getElem_cons_succ, List.getElem_cons_zero]); go_simp; (try with_reducible rfl))
                  (try simp only [Act.put, List.getElem_toArray, List.getElem_cons_succ, List.getElem_cons_zero, List.setIfInBounds_toArray, List.set_cons_zero, List.set_cons_succ])
                  refine wpG_take1 (i := 5) (v := ?_) rfl (by kernel_rfl) (by kernel_rfl) (by kernel_rfl) (by decide) (fun _ _ _ h => h) (Or.inl ⟨by rfl, ?_⟩) hSS ?_
                  rotate_left 1
                  · (intro w hSw; (try dsimp only at hSw); (try simp only [List.getElem_toArray, List.getElem_cons_succ, List.getElem_cons_zero]); go_simp; (try with_reducible rfl))
                  (try simp only [Act.put, List.getElem_toArray, List.getElem_cons_succ, List.getElem_cons_zero, List.setIfInBounds_toArray, List.set_cons_zero, List.set_cons_succ])
                  refine wpG_take1 (i := 6) (v := ?_) rfl (by kernel_rfl) (by kernel_rfl) (by kernel_rfl) (by decide) (fun _ _ _ h => h) (Or.inl ⟨by rfl, ?_⟩) hSS ?_
                  rotate_left 1
                  · (intro w hSw; (try dsimp only at hSw); (try simp only [List.getElem_toArray, List.getElem_cons_succ, List.getElem_cons_zero]); go_simp; (try with_reducible rfl))
                  (try simp only [Act.put, List.getElem_toArray, List.getElem_cons_succ, List.getElem_cons_zero, List.setIfInBounds_toArray, List.set_cons_zero, List.set_cons_succ])
                  refine wpG_take1 (i := 7) (v := ?_) rfl (by kernel_rfl) (by kernel_rfl) (by kernel_rfl) (by decide) (fun _ _ _ h => h) (Or.inl ⟨by rfl, ?_⟩) hSS ?_
                  rotate_left 1
                  · (intro w hSw; (try dsimp only at hSw); (try simp only [List.getElem_toArray, List.getElem_cons_succ, List.getElem_cons_zero]); go_simp; (try with_reducible rfl))
                  (try simp only [Act.put, List.getElem_toArray, List.getElem_cons_succ, List.getElem_cons_zero, List.setIfInBounds_toArray, List.set_cons_zero, List.set_cons_succ])
                  refine wpG_take1 (i := 8) (v := ?_) rfl (by kernel_rfl) (by kernel_rfl) (by kernel_rfl) (by decide) (fun _ _ _ h => h) (Or.inl ⟨by rfl, ?_⟩) hSS ?_
                  rotate_left 1
                  · (intro w hSw; (try dsimp only at hSw); (try simp only [List.getElem_toArray, List.getElem_cons_succ, List.getElem_cons_zero]); go_simp; (try with_reducible rfl))
                  (try simp only [Act.put, List.getElem_toArray, List.getElem_cons_succ, List.getElem_cons_zero, List.setIfInBounds_toArray, List.set_cons_zero, List.set_cons_succ])
                  refine wpG_take1 (i := 9) (v := ?_) rfl (by kernel_rfl) (by kernel_rfl) (by kernel_rfl) (by decide) (fun _ _ _ h => h) (Or.inl ⟨by rfl, ?_⟩) hSS ?_
                  rotate_left 1
                  · (intro w hSw; (try dsimp only at hSw); (try simp only [List.getElem_toArray, List.getElem_cons_succ, List.getElem_cons_zero]); go_simp; (try with_reducible rfl))
                  (try simp only [Act.put, List.getElem_toArray, List.getElem_cons_succ, List.getElem_cons_zero, List.setIfInBounds_toArray, List.set_cons_zero, List.set_cons_succ])
                  refine wpG_one (i := 10) (by kernel_rfl) rfl (fun K hK => ?_)
                  refine step_callL (by rfl) (.func 52) [.tmp 71, .tmp 73] _ (by rfl) 52 _ fnFresh (by rfl) _ (by rfl) _ (isW_of (fresh_take r.ps i (by omega) (some a') d1 u.s _ _ (HD2.out _ (HIN2.out.chg.trans (Chg.of_below (bl_tt HBV.out hdv)))).2.row HPR.out.lp)) ?_
                  rintro vq w5 ⟨rfl, bw5⟩
                  have b5 := bl_tt hdv bw5
                  refine hK.out _ _ (HCV.out _ b5) ?_
                  clear hK K hSS
                  (try simp only [Act.put, List.getElem_toArray, List.getElem_cons_succ, List.getElem_cons_zero, List.setIfInBounds_toArray, List.set_cons_zero, List.set_cons_succ])
                  refine wpG_one (i := 11) (by kernel_rfl) rfl (fun K hK => ?_)
                  refine step_callC (by rfl) (.tmp 64) [.tmp 65, .const (.slice none 0 0), .tmp 67, .tmp 74] _ (by rfl) 51 _ fnChk1 #[.pointer (some ⟨fb, 0, none⟩)] (by rfl) _ (by rfl) _ (repV_of (report_cat fb fb _ pv2 (j : Int) _ [] none 0 u.s Any _ (HIN2.out.fs.later (bl_tt HBV.out b5)) RowI.nil (by simp) (by omega))) ?_
                  rintro vq W6 hp
                  obtain ⟨pv6, hi6⟩ := HIN2.out.stepK HK2.out (bl_tt HBV.out b5) hp
                  have hi7 : VsI Rd2 fb fb wk pv' (F1 + prcN p.prs j + E1 + frsN r.ps (i + 1)) W6 pv6 := by rw [frsN_succ hli, Hu.out, ← Nat.add_assoc]; exact hi6
                  have hSS6 : (fun w' : World => (fun w' : World => ((w'.cell? ⟨W.heap.size, 0, none⟩ = some (.slice A1 L1 c1) ∧ w'.cell? ⟨W.heap.size, 1, none⟩ = some (.slice (some a) L2 c2) ∧ w'.cell? ⟨W.heap.size, 2, none⟩ = some (.int .u8 k) ∧ w'.cell? ⟨W.heap.size, 3, none⟩ = some (.int .i64 n) ∧ w'.cell? ⟨W.heap.size, 4, none⟩ = some (.string s) ∧ w'.cell? ⟨W.heap.size, 5, none⟩ = some (.slice A3 l3 c3)) ∧ (w'.cell? ⟨fb + 1, 0, none⟩ = some (.func (.func 51) #[] #[.pointer (some ⟨fb, 0, none⟩)]))) ∧ (w'.cell? ⟨w0.heap.size, 0, none⟩ = some (.int .i64 (j : Int))) ∧ (w'.cell? ⟨w0.heap.size + 1, 0, none⟩ = some (.string r.s) ∧ w'.cell? ⟨w0.heap.size + 1, 1, none⟩ = some (.slice (some a') r.ps.length d1) ∧ w'.cell? ⟨w0.heap.size + 1, 2, none⟩ = some (.int .u8 r.b.k) ∧ w'.cell? ⟨w0.heap.size + 1, 3, none⟩ = some (.int .i64 r.b.n) ∧ w'.cell? ⟨w0.heap.size + 1, 4, none⟩ = some (.string r.b.s) ∧ w'.cell? ⟨w0.heap.size + 1, 5, none⟩ = some (.slice P2 r.b.ks.length d2))) w' ∧ (w'.cell? ⟨wr.heap.size, 0, none⟩ = some (.string u.s) ∧ w'.cell? ⟨wr.heap.size, 1, none⟩ = some (.int .u8 u.k) ∧ w'.cell? ⟨wr.heap.size, 2, none⟩ = some (.int .i64 u.n))) W6 ∧ (fun _ : World => True) W6 := ⟨⟨HC2.out _ hi7.rd, box3 ((hp.2.elim fun _ h => h.2.2.block _ (by have := (bl_tt HBV.out b5).size; have := b5.size; have := HZV.out; omega) (fun hh => by have hl := HIN2.out.fs.lt; rcases hh with hh | hh; (have := hl.1; omega); (have := (hl.2 _ hh).2; omega))).trans ((b5.block _ (by have := HZV.out; omega)).trans HBU.out))⟩, trivial⟩
                  refine hK.out _ _ hSS6 ?_
                  clear hK K
                  (try simp only [Act.put, List.getElem_toArray, List.getElem_cons_succ, List.getElem_cons_zero, List.setIfInBounds_toArray, List.set_cons_zero, List.set_cons_succ])
                  refine wpG_done (by kernel_rfl) ?_
                  refine NoPanic.normal ?_
                  have HI7 := Lib.hid hi7
                  clear hi7 hi6 hp hSS6
                  go_wp2_with fail
                  go_roundw
                  case rel => exact ⟨i + 1, _, by omega, by go_num, HI7.out⟩
                  case measure => simp [intOf]; omega
                · have hil : i = r.ps.length := by omega
                  obtain ⟨⟨⟨a0, a1, a2, a3, a4, a5⟩, ar⟩, ai, r0, r1, r2, r3, r4, r5⟩ := HC2.out _ hinv.rd
                  have hge : ¬ ((i : Int) < (r.ps.length : Int)) := by omega
                  clear hinv
                  go_wp2_with fail
                  have hfN := frsN_le r.ps r.ps.length
                  have HN2 := Lib.hid (show VsI Rd2 fb fb wk pv' (F1 + prcN p.prs j + E1 + frsN r.ps r.ps.length) wr pv2 by rw [← hil]; exact HIN2.out)
                  have hzw := HIN2.out.chg.size
                  have hzk := HZK.out
                  have hz0 := HINV.out.chg.size
                  have hzb := HZB.out
                  refine (svisit_any 55 _ _ fb fb (Chk2_rep fb fb (fb + 1) w0.heap.size (j : Int)) p r.b (fun b => S b ∧ b < W.heap.size) r.ps P1 d1 [] none 0 (F1 + prcN p.prs j + E1 + frsN r.ps r.ps.length) pv2 wr _ _ ⟨(HRD.out _ (HRD2.out _ HN2.out.rd).1.1).1, (HRD2.out _ HN2.out.rd).1.2⟩ HN2.out.fs (HD2.out _ HN2.out.chg).1 (HD2.out _ HN2.out.chg).2.body (HD2.out _ HN2.out.chg).2.row HPR.out.lc RowI.nil (Nat.zero_le _) (fun b hb hbl hh => ?_) (by simp; omega) (by omega) (by omega)).mono ?_
                  · rcases hh with hh | hh
                    · have := hb.2; omega
                    · rcases HN2.out.own b hh with h1 | h1
                      · have := (HINV.out.fs.lt.2 b h1).1; have := hb.2; omega
                      · have := hb.2; omega
                  rintro e W6 hp
                  obtain ⟨v6, rfl⟩ := hp.1
                  obtain ⟨pv6, hi6⟩ := HN2.out.stepK HK2.out (Below.refl _ _) hp
                  obtain ⟨pv7, hi7⟩ := HINV.out.step HREP.out HBK.out (hi6.rep (Below.refl _ _) (e := .returned undef) ⟨_, rfl⟩)
                  have HI8 := Lib.hid (show VsI Rd fb fb Wb (.slice none 0 0) (F1 + prcN p.prs (j + 1)) W6 pv7 by rw [prcN_succ hltp, Hr.out, prcE, HE1.out]; simpa only [Nat.add_assoc] using hi7)
                  clear hi7 hi6 hp a0 a1 a2 a3 a4 a5 ar ai r0 r1 r2 r3 r4 r5
                  go_wp2_with fail
                  go_roundw
                  case rel => exact ⟨j + 1, _, by omega, by go_num, HI8.out⟩
                  case measure => simp [intOf]; omega
          · have hjl : j = L2 := by omega
            obtain ⟨⟨a0, a1, a2, a3, a4, a5⟩, ar⟩ := HCC.out _ hinv.rd
            have hge : ¬ ((j : Int) < (L2 : Int)) := by omega
            have HN3 := Lib.hid (show VsI Rd fb fb Wb (.slice none 0 0) (F1 + prcN p.prs p.prs.length) w0 pv' by rw [HL2.out, ← hjl]; exact HINV.out)
            clear hinv
            go_wp2_with fail
            have hpN := prcN_le p.prs HVB.out.2.2.1 p.prs.length
            have hvb := HVB.out
            have hzw := HINV.out.chg.size
            have hzb := HZB.out
            have hmn := (HD.out _ HN3.out.chg).2.main
            rw [HMM.out.1, HMM.out.2.1, HMM.out.2.2.1, HMM.out.2.2.2] at hmn
            have hcall := svisit_any _ _ Rd fb fb HREP.out p p.m (fun b => S b ∧ b < W.heap.size) p.vs A1 c1 [] none 0 (F1 + prcN p.prs p.prs.length) pv' w0 _ _ HN3.out.rd HN3.out.fs (HD.out _ HN3.out.chg).1 hmn (HD.out _ HN3.out.chg).2.vars HR.out.lvc RowI.nil (Nat.zero_le _) (fun b hb hbl hh => by rcases hh with hh | hh; (have := hb.2; omega); (rcases HN3.out.own b hh with h1 | h1; (simp [Value.ownBlock] at h1); (have := hb.2; omega))) (by simp; omega) (by omega) (by omega)
            rw [HL1.out] at hcall
            refine hcall.mono ?_
            clear hcall
            rintro e W6 hp
            obtain ⟨v6, rfl⟩ := hp.1
            obtain ⟨pv6, hi6⟩ := HN3.out.step HREP.out (Below.refl _ _) hp
            rw [show F1 + prcN p.prs p.prs.length + cntV p.prs p.m p.vs = NN by rw [← HNN2.out, chkN, HFE.out]] at hi6
            obtain ⟨A6, c6, rfl⟩ := hi6.fs.slice
            have hf6 : W6.cell? ⟨fb, 0, none⟩ = some (.slice A6 NN c6) := cell_of_blk hi6.fs.box rfl
            have HBZ := Lib.hid (show Below W.heap.size W W6 from HBW.out.trans (hi6.chg.below (by omega) (fun b hb => by rcases hb with hb | hb; omega; simp [Value.ownBlock] at hb)))
            clear hi6 hp hmn hvb a0 a1 a2 a3 a4 a5 ar
            go_wp2_with fail
            go_ret
            exact ⟨A6, c6, rfl, HBZ.out⟩

end Go.Proofs.Ytldcjboignbfpaa
