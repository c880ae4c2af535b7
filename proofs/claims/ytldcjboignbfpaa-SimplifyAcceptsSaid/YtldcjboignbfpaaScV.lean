/-
  The contract of scope.visit: it adds as many faults as there are in the tree.
-/
import Derived.Test.YtldcjboignbfpaaScR
namespace Go.Proofs.Ytldcjboignbfpaa
open Go Go.RowKit

def cntA (ps : List PR) (s : ByteArray) (l : Nat) : Nat → List T → List VD → Nat
  | _, [], _ => 0
  | i, t :: ts, vs => one1 (argE ps s l i t.s vs) + cntA ps s l (i + 1) ts vs
mutual
/-- How many faults scope.visit reports. -/
def cntV (ps : List PR) : T → List VD → Nat
  | .nd k _ s ks, vs => one1 (faultE ps k s ks.length vs) + (if k = 50 ∨ k = 51 then cntA ps s ks.length 0 ks vs else cntK ps k s 0 ks vs)
def cntK (ps : List PR) (k : Int) (s : ByteArray) : Nat → List T → List VD → Nat
  | _, [], _ => 0
  | i, t :: ts, vs => cntV ps t (innerV k s i vs) + cntK ps k s (i + 1) ts vs
end
theorem cntA_append (ps : List PR) (s : ByteArray) (l : Nat) (vs : List VD) : ∀ (a b : List T) (i : Nat), cntA ps s l i (a ++ b) vs = cntA ps s l i a vs + cntA ps s l (i + a.length) b vs
  | [], b, i => by simp [cntA]
  | t :: ts, b, i => by simp [cntA, cntA_append ps s l vs ts b (i + 1), Nat.add_assoc, Nat.add_comm 1 ts.length]
theorem cntK_append (ps : List PR) (k : Int) (s : ByteArray) (vs : List VD) : ∀ (a b : List T) (i : Nat), cntK ps k s i (a ++ b) vs = cntK ps k s i a vs + cntK ps k s (i + a.length) b vs
  | [], b, i => by simp [cntK]
  | t :: ts, b, i => by simp [cntK, cntK_append ps k s vs ts b (i + 1), Nat.add_assoc, Nat.add_comm 1 ts.length]
theorem cntA_take (ps : List PR) (s : ByteArray) (l : Nat) (vs : List VD) {ks : List T} {j : Nat} (h : j < ks.length) : cntA ps s l 0 (ks.take (j + 1)) vs = cntA ps s l 0 (ks.take j) vs + one1 (argE ps s l j ks[j].s vs) := by
  rw [List.take_succ_eq_append_getElem h, cntA_append]
  have : (ks.take j).length = j := by simp; omega
  simp [cntA, this]
theorem cntK_take (ps : List PR) (k : Int) (s : ByteArray) (vs : List VD) {ks : List T} {j : Nat} (h : j < ks.length) : cntK ps k s 0 (ks.take (j + 1)) vs = cntK ps k s 0 (ks.take j) vs + cntV ps ks[j] (innerV k s j vs) := by
  rw [List.take_succ_eq_append_getElem h, cntK_append]
  have : (ks.take j).length = j := by simp; omega
  simp [cntK, this]
theorem one1_le (e : Int) : one1 e ≤ 1 := by unfold one1; split <;> omega
theorem size_pos (t : T) : 1 ≤ size t := by cases t; rw [size]; omega
theorem cntA_le (ps : List PR) (s : ByteArray) (l : Nat) (vs : List VD) : ∀ (ks : List T) (i : Nat), cntA ps s l i ks vs ≤ sizes ks
  | [], i => by simp [cntA]
  | t :: ts, i => by
    have h1 := cntA_le ps s l vs ts (i + 1)
    have h2 := one1_le (argE ps s l i t.s vs)
    have h3 := size_pos t
    simp only [cntA, sizes]
    omega
theorem cntK_le (ps : List PR) (k : Int) (s : ByteArray) : ∀ (ks : List T), (∀ t ∈ ks, ∀ vs, cntV ps t vs ≤ size t) → ∀ (i : Nat) (vs : List VD), cntK ps k s i ks vs ≤ sizes ks
  | [], _, i, vs => by simp [cntK]
  | t :: ts, h, i, vs => by
    have h1 := cntK_le ps k s ts (fun u hu => h u (by simp [hu])) (i + 1) vs
    have h2 := h t (by simp) (innerV k s i vs)
    simp only [cntK, sizes]
    omega
theorem cntV_le (ps : List PR) (t : T) : ∀ vs, cntV ps t vs ≤ size t := by
  induction t using T.ind with
  | _ k n s ks ih =>
  intro vs
  rw [cntV, size]
  have h1 := one1_le (faultE ps k s ks.length vs)
  have h2 := cntA_le ps s ks.length vs ks 0
  have h3 := cntK_le ps k s ks ih 0 vs
  split <;> omega
theorem sizes_take_le : ∀ (ks : List T) (j : Nat), sizes (ks.take j) ≤ sizes ks
  | [], j => by simp [sizes]
  | t :: ts, 0 => by simp [sizes]
  | t :: ts, j + 1 => by have := sizes_take_le ts j; simp only [List.take_succ_cons, sizes]; omega
theorem innerV_len (k : Int) (s : ByteArray) (i : Nat) (vs : List VD) : (innerV k s i vs).length ≤ vs.length + 1 := by unfold innerV; split; simp; split <;> simp

theorem PV.keep {w w' : World} {S S' : Nat → Prop} {p : PG} {v : Value} (h : PV w S p v) (hS : ∀ b, S b → b < w.heap.size → S' b) (hk : ∀ b, S b → b < w.heap.size → w'.heap[b]? = w.heap[b]?) : PV w' S' p v :=
  let ⟨A1, c1, A2, c2, A3, c3, e, h⟩ := h; ⟨A1, c1, A2, c2, A3, c3, e, h.keep hS hk⟩

/-- Between two calls of the reporting function. -/
structure VsI (Rd : World → Prop) (n0 fb : Nat) (Wb : World) (pv : Value) (N : Nat) (wr : World) (pv' : Value) : Prop where
  rd : Rd wr
  fs : FS wr n0 fb N pv'
  own : ∀ b, pv'.ownBlock = some b → pv.ownBlock = some b ∨ Wb.heap.size ≤ b
  chg : Chg (fun b => b = fb ∨ pv.ownBlock = some b) Wb wr
theorem VsI.step {f : FuncId} {cap : Array Value} {Rd : World → Prop} {n0 fb : Nat} {Wb wr w5 W6 : World} {pv pv' : Value} {N N' : Nat} {e : Ending} (hr : RepC f cap Rd n0 fb) (h : VsI Rd n0 fb Wb pv N wr pv') (hb : Below wr.heap.size wr w5) (hp : RepP w5 n0 fb pv' N' e W6) :
    ∃ pv'', VsI Rd n0 fb Wb pv N' W6 pv'' := by
  obtain ⟨_, pv'', hfs, hob, hc⟩ := hp
  have hfs5 := h.fs.later hb
  have hz := h.chg.size
  have hz5 := hb.size
  refine ⟨pv'', hr.keep w5 W6 pv' N (hr.keep wr w5 pv' N h.rd h.fs (Chg.of_below hb)) hfs5 hc, hfs, fun b hb' => ?_, (h.chg.trans (Chg.of_below hb)).trans2 hc fun b hlt hh => ?_⟩
  · rcases hob b hb' with h1 | h1
    · exact h.own b h1
    · exact .inr (by omega)
  · rcases hh with hh | hh
    · exact .inl hh
    · rcases h.own b hh with h1 | h1
      · exact .inr h1
      · omega

theorem VsI.rep {Rd : World → Prop} {n0 fb : Nat} {W Wb w : World} {pw pv' : Value} {N' : Nat} {e : Ending} (h : VsI Rd n0 fb Wb pw N' w pv') (hb : Below W.heap.size W Wb) (he : ∃ v, e = .returned v) : RepP W n0 fb pw N' e w :=
  ⟨he, pv', h.fs, fun b hh => (h.own b hh).imp id fun h1 => by have := hb.size; omega, (Chg.of_below hb).trans h.chg⟩

/-- A value and a frame. -/
def IsW (x : Value) (w : World) (v : Value) (w' : World) : Prop := v = x ∧ Below w.heap.size w w'
theorem isW_of {P : Program} {f : FuncId} {args : Array Value} {w : World} {x : Value} (h : Calls P f args w fun e w' => e = .returned x ∧ Below w.heap.size w w') : Calls P f args w fun e w' => ∃ v, e = .returned v ∧ IsW x w v w' :=
  h.mono fun _ _ ⟨he, hb⟩ => ⟨_, he, rfl, hb⟩
def RepV (W : World) (n0 fb : Nat) (pv : Value) (N' : Nat) (_ : Value) (W' : World) : Prop := RepP W n0 fb pv N' (.returned undef) W'
theorem repV_of {P : Program} {f : FuncId} {args : Array Value} {W : World} {n0 fb N' : Nat} {pv : Value} (h : Calls P f args W (RepP W n0 fb pv N')) : Calls P f args W fun e w' => ∃ v, e = .returned v ∧ RepV W n0 fb pv N' v w' :=
  h.mono fun _ _ ⟨⟨v, he⟩, hp⟩ => ⟨v, he, ⟨_, rfl⟩, hp⟩
def ShRowV (w : World) (S : Nat → Prop) (vs : List VD) (v : Value) (w' : World) : Prop := ∃ A' c', v = .slice A' vs.length c' ∧ RowV w' (fun b => S b ∨ w.heap.size ≤ b) A' vs ∧ vs.length ≤ c' ∧ Below w.heap.size w w'
theorem shRowV_of {P : Program} {f : FuncId} {args : Array Value} {w : World} {S : Nat → Prop} {vs : List VD} (h : Calls P f args w (ShRow w S vs)) : Calls P f args w fun e w' => ∃ v, e = .returned v ∧ ShRowV w S vs v w' :=
  h.mono fun _ _ ⟨A, c, he, hn⟩ => ⟨_, he, A, c, rfl, hn⟩
theorem fnFault : IsFn Try.prog 70 Try.f70 := ⟨Try.func70, by kernel_rfl, by kernel_rfl⟩
theorem fnArgument : IsFn Try.prog 72 Try.f72 := ⟨Try.func72, by kernel_rfl, by kernel_rfl⟩
theorem fnChild : IsFn Try.prog 71 Try.f71 := ⟨Try.func71, by kernel_rfl, by kernel_rfl⟩
theorem fnInner : IsFn Try.prog 73 Try.f73 := ⟨Try.func73, by kernel_rfl, by kernel_rfl⟩
theorem fnVisit : IsFn Try.prog 54 Try.f54 := ⟨Try.func54, by kernel_rfl, by kernel_rfl⟩

theorem step_callL {P : Program} {ops : Array Oper} {o : Oper} {a : Act} {w : World} {K : Act → World → Prop} {Q : Exit → Act → World → Prop} {F : Prop} (hgd : o.guard = none) (x : Operand) (xs : List Operand) (ats : Array TypeId)
    (ho : o.op = .call { callee := .value x, args := xs.toArray, argTypes := ats }) (f : FuncId) (fn : Func) (hf : IsFn P f fn) (hv : a.eval x = .func (.func f) #[] #[]) (l : List Value) (hargs : xs.map a.eval = l) (R : Value → World → Prop)
    (hc : Calls P f l.toArray w fun e w' => ∃ v, e = .returned v ∧ R v w') (h : ∀ v w', R v w' → K (a.put o.dst v) w') :
    if Region.wanted o (yielded ops a.tmps) = true then Oper.wp P o a w K Q else F :=
  step_callv hgd x xs.toArray ats ho f fn hf #[] hv l.toArray (by rw [List.map_toArray, hargs, Array.append_empty]) R hc h
theorem step_callC {P : Program} {ops : Array Oper} {o : Oper} {a : Act} {w : World} {K : Act → World → Prop} {Q : Exit → Act → World → Prop} {F : Prop} (hgd : o.guard = none) (x : Operand) (xs : List Operand) (ats : Array TypeId)
    (ho : o.op = .call { callee := .value x, args := xs.toArray, argTypes := ats }) (f : FuncId) (fn : Func) (hf : IsFn P f fn) (cap : Array Value) (hv : a.eval x = .func (.func f) #[] cap) (l : List Value) (hargs : xs.map a.eval = l) (R : Value → World → Prop)
    (hc : Calls P f (l.toArray ++ cap) w fun e w' => ∃ v, e = .returned v ∧ R v w') (h : ∀ v w', R v w' → K (a.put o.dst v) w') :
    if Region.wanted o (yielded ops a.tmps) = true then Oper.wp P o a w K Q else F :=
  step_callv hgd x xs.toArray ats ho f fn hf cap hv _ (by rw [List.map_toArray, hargs]) R hc h

set_option maxHeartbeats 16000000 in
set_option maxRecDepth 100000 in
theorem svisit_any (f : FuncId) (cap : Array Value) (Rd : World → Prop) (n0 fb : Nat) (hrep : RepC f cap Rd n0 fb) (p : PG) (t : T) :
    ∀ (S : Nat → Prop) (vs : List VD) (A : Option Addr) (c : Nat) (q : List Int) (Aq : Option Addr) (cq N : Nat) (pw : Value) (W : World) (v1 v2 : Value), Rd W → FS W n0 fb N pw → PV W S p v1 → NV W S t v2 → RowV W S A vs → vs.length ≤ c → RowI W S Aq q → q.length ≤ cq →
      (∀ b, S b → b < W.heap.size → ¬ (b = fb ∨ pw.ownBlock = some b)) → q.length + dep t ≤ 50000 → vs.length + dep t ≤ 50000 → N + size t ≤ 1000000 →
      Calls Try.prog 54 #[v1, v2, .slice Aq q.length cq, .slice A vs.length c, .func (.func f) #[] cap] W (RepP W n0 fb pw (N + cntV p.prs t vs)) := by
  obtain ⟨fn, hfn⟩ := hrep.fn
  have HREP := Lib.hid hrep
  clear hrep
  induction t using T.ind with
  | _ tk tn ts ks ih =>
  intro S vs A c q Aq cq N pw W v1 v2 hrd hfs hv1 hv2 hrow hlc hqr hqc hfar hdq hdv hN
  have HIH := Lib.hid ih
  have hvv := hv1
  obtain ⟨A1, c1, A2, c2, A3, c3, rfl, -⟩ := hv1
  obtain ⟨L1, hL1⟩ : ∃ L, p.vs.length = L := ⟨_, rfl⟩
  obtain ⟨L2, hL2⟩ : ∃ L, p.prs.length = L := ⟨_, rfl⟩
  obtain ⟨k, hk⟩ : ∃ k, p.m.k = k := ⟨_, rfl⟩
  obtain ⟨n, hn⟩ : ∃ n, p.m.n = n := ⟨_, rfl⟩
  obtain ⟨s, hs⟩ : ∃ s, p.m.s = s := ⟨_, rfl⟩
  obtain ⟨l3, hl3⟩ : ∃ l, p.m.ks.length = l := ⟨_, rfl⟩
  rw [hL1, hL2, hk, hn, hs, hl3]
  rw [hL1, hL2, hk, hn, hs, hl3] at hvv
  have HV0 := Lib.hid hvv
  clear ih hvv hL1 hL2 hk hn hs hl3
  have HN0 := Lib.hid hv2
  obtain ⟨B, tc, rfl, _, hlk, _, hrk⟩ := hv2.open_
  simp only [T.k_nd, T.n_nd, T.s_nd, T.ks_nd] at *
  have hlk' := LK_int hlk
  rw [dep] at hdq hdv
  rw [size] at hN
  have hksz : ks.length ≤ 1000000 := by
    have : ∀ l : List T, l.length ≤ sizes l := fun l => by
      induction l with
      | nil => simp
      | cons t ts ih => have := size_pos t; simp only [List.length_cons, sizes]; omega
    have := this ks
    omega
  have HRK := Lib.hid hrk
  have HROW := Lib.hid hrow
  have HLC := Lib.hid hlc
  have HQR := Lib.hid hqr
  have HQC := Lib.hid hqc
  have HRD := Lib.hid hrd
  have HFS := Lib.hid hfs
  have HFAR := Lib.hid hfar
  have hlv : vs.length ≤ LV := by unfold LV; omega
  have HLV := Lib.hid hlv
  have hfl := hfs.lt
  have HFL := Lib.hid hfl
  obtain ⟨CC, hCC⟩ : ∃ CC, cntV p.prs (.nd tk tn ts ks) vs = CC := ⟨_, rfl⟩
  rw [hCC]
  have HCC := Lib.hid hCC
  obtain ⟨E0, hE0⟩ : ∃ E0, faultE p.prs tk ts ks.length vs = E0 := ⟨_, rfl⟩
  have HE0 := Lib.hid hE0
  have hE1 := one1_le E0
  clear hrk hrow hlc hqr hqc hrd hfs hfar hlk hlv hv2 hfl hCC hE0
  go_enter Try.func54, Try.ntmps54
  go_upto_region 1 with fail
  have hbw : Below W.heap.size W ((W.alloc (.cells #[.slice A1 L1 c1, .slice A2 L2 c2, .int .u8 k, .int .i64 n, .string s, .slice A3 l3 c3] 38)).alloc (.cells #[.int .u8 tk, .int .i64 tn, .string ts, .slice B ks.length tc] 24)) := bl_al (bl_al (Below.refl _ _) _) _
  have hbP := blk_al (heap_alloc_new W (.cells #[.slice A1 L1 c1, .slice A2 L2 c2, .int .u8 k, .int .i64 n, .string s, .slice A3 l3 c3] 38)) (.cells #[.int .u8 tk, .int .i64 tn, .string ts, .slice B ks.length tc] 24)
  have hbN := heap_alloc_new (W.alloc (.cells #[.slice A1 L1 c1, .slice A2 L2 c2, .int .u8 k, .int .i64 n, .string s, .slice A3 l3 c3] 38)) (.cells #[.int .u8 tk, .int .i64 tn, .string ts, .slice B ks.length tc] 24)
  simp only [World.size_alloc] at hbN
  obtain ⟨Wb, hWb⟩ : ∃ Wb, (W.alloc (.cells #[.slice A1 L1 c1, .slice A2 L2 c2, .int .u8 k, .int .i64 n, .string s, .slice A3 l3 c3] 38)).alloc (.cells #[.int .u8 tk, .int .i64 tn, .string ts, .slice B ks.length tc] 24) = Wb := ⟨_, rfl⟩
  rw [hWb] at hbw hbP hbN ⊢
  have HZB := Lib.hid (show Wb.heap.size = W.heap.size + 2 by rw [← hWb]; simp)
  have HBW := Lib.hid hbw
  have HBP := Lib.hid hbP
  have HBN := Lib.hid hbN
  have HSB := Lib.hid (show ∀ w' : World, w'.heap[W.heap.size]? = Wb.heap[W.heap.size]? → w'.heap[W.heap.size + 1]? = Wb.heap[W.heap.size + 1]? → (fun w' : World => (w'.cell? ⟨W.heap.size, 0, none⟩ = some (.slice A1 L1 c1) ∧ w'.cell? ⟨W.heap.size, 1, none⟩ = some (.slice A2 L2 c2) ∧ w'.cell? ⟨W.heap.size, 2, none⟩ = some (.int .u8 k) ∧ w'.cell? ⟨W.heap.size, 3, none⟩ = some (.int .i64 n) ∧ w'.cell? ⟨W.heap.size, 4, none⟩ = some (.string s) ∧ w'.cell? ⟨W.heap.size, 5, none⟩ = some (.slice A3 l3 c3)) ∧ (w'.cell? ⟨W.heap.size + 1, 0, none⟩ = some (.int .u8 tk) ∧ w'.cell? ⟨W.heap.size + 1, 1, none⟩ = some (.int .i64 tn) ∧ w'.cell? ⟨W.heap.size + 1, 2, none⟩ = some (.string ts) ∧ w'.cell? ⟨W.heap.size + 1, 3, none⟩ = some (.slice B ks.length tc))) w' from fun w' h1 h2 => ⟨box6 (h1.trans hbP), box4 (h2.trans hbN)⟩)
  have HCB := Lib.hid (show ∀ w' : World, Chg (fun b => b = fb ∨ pw.ownBlock = some b) Wb w' → (fun w' : World => (w'.cell? ⟨W.heap.size, 0, none⟩ = some (.slice A1 L1 c1) ∧ w'.cell? ⟨W.heap.size, 1, none⟩ = some (.slice A2 L2 c2) ∧ w'.cell? ⟨W.heap.size, 2, none⟩ = some (.int .u8 k) ∧ w'.cell? ⟨W.heap.size, 3, none⟩ = some (.int .i64 n) ∧ w'.cell? ⟨W.heap.size, 4, none⟩ = some (.string s) ∧ w'.cell? ⟨W.heap.size, 5, none⟩ = some (.slice A3 l3 c3)) ∧ (w'.cell? ⟨W.heap.size + 1, 0, none⟩ = some (.int .u8 tk) ∧ w'.cell? ⟨W.heap.size + 1, 1, none⟩ = some (.int .i64 tn) ∧ w'.cell? ⟨W.heap.size + 1, 2, none⟩ = some (.string ts) ∧ w'.cell? ⟨W.heap.size + 1, 3, none⟩ = some (.slice B ks.length tc))) w' from fun w' h => HSB.out w' (h.block _ (by have := HZB.out; omega) (fun hh => by rcases hh with hh | hh; (have := HFL.out.1; omega); (have := (HFL.out.2 _ hh).2; omega))) (h.block _ (by have := HZB.out; omega) (fun hh => by rcases hh with hh | hh; (have := HFL.out.1; omega); (have := (HFL.out.2 _ hh).2; omega))))
  have HKB := Lib.hid (show ∀ w' : World, Chg (fun b => b = fb ∨ pw.ownBlock = some b) Wb w' → ∀ b, S b → b < W.heap.size → w'.heap[b]? = W.heap[b]? from fun w' h b hb hlt => (h.block b (by have := HZB.out; omega) (HFAR.out b hb hlt)).trans (HBW.out.block b hlt))
  have hi0 : VsI Rd n0 fb Wb pw N Wb pw := ⟨HREP.out.keep W Wb pw N HRD.out HFS.out (Chg.of_below hbw), HFS.out.later hbw, fun b hb => .inl hb, Chg.refl _ _⟩
  have HI0 := Lib.hid hi0
  clear hWb hbw hbP hbN hi0
  have hdr := (Below.refl Wb.heap.size Wb).drew
  have hSS : (fun w' : World => (w'.cell? ⟨W.heap.size, 0, none⟩ = some (.slice A1 L1 c1) ∧ w'.cell? ⟨W.heap.size, 1, none⟩ = some (.slice A2 L2 c2) ∧ w'.cell? ⟨W.heap.size, 2, none⟩ = some (.int .u8 k) ∧ w'.cell? ⟨W.heap.size, 3, none⟩ = some (.int .i64 n) ∧ w'.cell? ⟨W.heap.size, 4, none⟩ = some (.string s) ∧ w'.cell? ⟨W.heap.size, 5, none⟩ = some (.slice A3 l3 c3)) ∧ (w'.cell? ⟨W.heap.size + 1, 0, none⟩ = some (.int .u8 tk) ∧ w'.cell? ⟨W.heap.size + 1, 1, none⟩ = some (.int .i64 tn) ∧ w'.cell? ⟨W.heap.size + 1, 2, none⟩ = some (.string ts) ∧ w'.cell? ⟨W.heap.size + 1, 3, none⟩ = some (.slice B ks.length tc))) Wb.drew ∧ (fun _ : World => True) Wb.drew := ⟨HCB.out _ (Chg.of_below hdr), trivial⟩
  refine wp_region_noPanic ?_
  refine wp_region_G (fun w' : World => (w'.cell? ⟨W.heap.size, 0, none⟩ = some (.slice A1 L1 c1) ∧ w'.cell? ⟨W.heap.size, 1, none⟩ = some (.slice A2 L2 c2) ∧ w'.cell? ⟨W.heap.size, 2, none⟩ = some (.int .u8 k) ∧ w'.cell? ⟨W.heap.size, 3, none⟩ = some (.int .i64 n) ∧ w'.cell? ⟨W.heap.size, 4, none⟩ = some (.string s) ∧ w'.cell? ⟨W.heap.size, 5, none⟩ = some (.slice A3 l3 c3)) ∧ (w'.cell? ⟨W.heap.size + 1, 0, none⟩ = some (.int .u8 tk) ∧ w'.cell? ⟨W.heap.size + 1, 1, none⟩ = some (.int .i64 tn) ∧ w'.cell? ⟨W.heap.size + 1, 2, none⟩ = some (.string ts) ∧ w'.cell? ⟨W.heap.size + 1, 3, none⟩ = some (.slice B ks.length tc))) (fun _ : World => True) 20 (by kernel_rfl) ?_
  refine wpG_take1 (i := 0) (v := ?_) rfl (by kernel_rfl) (by kernel_rfl) (by kernel_rfl) (by decide) (fun _ _ _ h => h) (Or.inl ⟨by rfl, ?_⟩) hSS ?_
  rotate_left 1
  · (intro w hSw; (try dsimp only at hSw); (try simp only [List.getElem_toArray, List.getElem_cons_succ, List.getElem_cons_zero]); go_simp; (try with_reducible rfl))
  (try simp only [Act.put, List.getElem_toArray, List.getElem_cons_succ, List.getElem_cons_zero, List.setIfInBounds_toArray, List.set_cons_zero, List.set_cons_succ])
  refine wpG_take1 (i := 1) (v := ?_) rfl (by kernel_rfl) (by kernel_rfl) (by kernel_rfl) (by decide) (fun _ _ _ h => h) (Or.inl ⟨by rfl, ?_⟩) hSS ?_
  rotate_left 1
  · (intro w hSw; (try dsimp only at hSw); (try simp only [List.getElem_toArray, List.getElem_cons_succ, List.getElem_cons_zero]); go_simp; (try with_reducible rfl))
  (try simp only [Act.put, List.getElem_toArray, List.getElem_cons_succ, List.getElem_cons_zero, List.setIfInBounds_toArray, List.set_cons_zero, List.set_cons_succ])
  refine wpG_take1 (i := 2) (v := ?_) rfl (by kernel_rfl) (by kernel_rfl) (by kernel_rfl) (by decide) (fun _ _ _ h => h) (Or.inl ⟨by rfl, ?_⟩) hSS ?_
  rotate_left 1
  · (intro w hSw; (try dsimp only at hSw); (try simp only [List.getElem_toArray, List.getElem_cons_succ, List.getElem_cons_zero]); go_simp; (try with_reducible rfl))
  (try simp only [Act.put, List.getElem_toArray, List.getElem_cons_succ, List.getElem_cons_zero, List.setIfInBounds_toArray, List.set_cons_zero, List.set_cons_succ])
  refine wpG_take1 (i := 3) (v := ?_) rfl (by kernel_rfl) (by kernel_rfl) (by kernel_rfl) (by decide) (fun _ _ _ h => h) (Or.inl ⟨by rfl, ?_⟩) hSS ?_
  rotate_left 1
  · (intro w hSw; (try dsimp only at hSw); (try simp only [List.getElem_toArray, List.getElem_cons_succ, List.getElem_cons_zero]); go_simp; (try with_reducible rfl))
  (try simp only [Act.put, List.getElem_toArray, List.getElem_cons_succ, List.getElem_cons_zero, List.setIfInBounds_toArray, List.set_cons_zero, List.set_cons_succ])
  refine wpG_take1 (i := 4) (v := ?_) rfl (by kernel_rfl) (by kernel_rfl) (by kernel_rfl) (by decide) (fun _ _ _ h => h) (Or.inl ⟨by rfl, ?_⟩) hSS ?_
  rotate_left 1
  · (intro w hSw; (try dsimp only at hSw); (try simp only [List.getElem_toArray, List.getElem_cons_succ, List.getElem_cons_zero]); go_simp; (try with_reducible rfl))
  (try simp only [Act.put, List.getElem_toArray, List.getElem_cons_succ, List.getElem_cons_zero, List.setIfInBounds_toArray, List.set_cons_zero, List.set_cons_succ])
  refine wpG_take1 (i := 5) (v := ?_) rfl (by kernel_rfl) (by kernel_rfl) (by kernel_rfl) (by decide) (fun _ _ _ h => h) (Or.inl ⟨by rfl, ?_⟩) hSS ?_
  rotate_left 1
  · (intro w hSw; (try dsimp only at hSw); (try simp only [List.getElem_toArray, List.getElem_cons_succ, List.getElem_cons_zero]); go_simp; (try with_reducible rfl))
  (try simp only [Act.put, List.getElem_toArray, List.getElem_cons_succ, List.getElem_cons_zero, List.setIfInBounds_toArray, List.set_cons_zero, List.set_cons_succ])
  refine wpG_take1 (i := 6) (v := ?_) rfl (by kernel_rfl) (by kernel_rfl) (by kernel_rfl) (by decide) (fun _ _ _ h => h) (Or.inl ⟨by rfl, ?_⟩) hSS ?_
  rotate_left 1
  · (intro w hSw; (try dsimp only at hSw); (try simp only [List.getElem_toArray, List.getElem_cons_succ, List.getElem_cons_zero]); go_simp; (try with_reducible rfl))
  (try simp only [Act.put, List.getElem_toArray, List.getElem_cons_succ, List.getElem_cons_zero, List.setIfInBounds_toArray, List.set_cons_zero, List.set_cons_succ])
  refine wpG_one (i := 7) (by kernel_rfl) rfl (fun K hK => ?_)
  refine step_callL (by rfl) (.func 70) [.tmp 18, .tmp 19, .tmp 20] _ (by rfl) 70 _ fnFault (by rfl) _ (by rfl) _ (isW_of (fault_any p (.nd tk tn ts ks) vs A c S S S _ _ _ (HV0.out.later (bl_tt HBW.out hdr)) (HN0.out.later (bl_tt HBW.out hdr)) (HROW.out.later (bl_tt HBW.out hdr)) HLV.out)) ?_
  rintro vq w2 ⟨rfl, bw2⟩
  simp only [T.k_nd, T.s_nd, T.ks_nd]
  rw [HE0.out]
  have b2 := bl_tt hdr bw2
  have hSS2 : (fun w' : World => (w'.cell? ⟨W.heap.size, 0, none⟩ = some (.slice A1 L1 c1) ∧ w'.cell? ⟨W.heap.size, 1, none⟩ = some (.slice A2 L2 c2) ∧ w'.cell? ⟨W.heap.size, 2, none⟩ = some (.int .u8 k) ∧ w'.cell? ⟨W.heap.size, 3, none⟩ = some (.int .i64 n) ∧ w'.cell? ⟨W.heap.size, 4, none⟩ = some (.string s) ∧ w'.cell? ⟨W.heap.size, 5, none⟩ = some (.slice A3 l3 c3)) ∧ (w'.cell? ⟨W.heap.size + 1, 0, none⟩ = some (.int .u8 tk) ∧ w'.cell? ⟨W.heap.size + 1, 1, none⟩ = some (.int .i64 tn) ∧ w'.cell? ⟨W.heap.size + 1, 2, none⟩ = some (.string ts) ∧ w'.cell? ⟨W.heap.size + 1, 3, none⟩ = some (.slice B ks.length tc))) w2 ∧ (fun _ : World => True) w2 := ⟨HCB.out _ (Chg.of_below b2), trivial⟩
  refine hK.out _ _ hSS2 ?_
  clear hK K hSS
  (try simp only [Act.put, List.getElem_toArray, List.getElem_cons_succ, List.getElem_cons_zero, List.setIfInBounds_toArray, List.set_cons_zero, List.set_cons_succ])
  refine wpG_one (i := 8) (by kernel_rfl) rfl (fun K hK => ?_)
  refine step_callC (by rfl) (.tmp 14) [.tmp 15, .tmp 17, .tmp 21] _ (by rfl) f fn hfn cap (by rfl) _ (by rfl) _ (repV_of (HREP.out.call N pw E0 q Aq cq ts S w2 (HREP.out.keep Wb w2 pw N HI0.out.rd HI0.out.fs (Chg.of_below b2)) (HI0.out.fs.later b2) ((HQR.out.later HBW.out).later b2) (by omega) (by omega))) ?_
  rintro vq W3 hp3
  obtain ⟨pv3, hi3⟩ := HI0.out.step HREP.out b2 hp3
  have hSS3 : (fun w' : World => (w'.cell? ⟨W.heap.size, 0, none⟩ = some (.slice A1 L1 c1) ∧ w'.cell? ⟨W.heap.size, 1, none⟩ = some (.slice A2 L2 c2) ∧ w'.cell? ⟨W.heap.size, 2, none⟩ = some (.int .u8 k) ∧ w'.cell? ⟨W.heap.size, 3, none⟩ = some (.int .i64 n) ∧ w'.cell? ⟨W.heap.size, 4, none⟩ = some (.string s) ∧ w'.cell? ⟨W.heap.size, 5, none⟩ = some (.slice A3 l3 c3)) ∧ (w'.cell? ⟨W.heap.size + 1, 0, none⟩ = some (.int .u8 tk) ∧ w'.cell? ⟨W.heap.size + 1, 1, none⟩ = some (.int .i64 tn) ∧ w'.cell? ⟨W.heap.size + 1, 2, none⟩ = some (.string ts) ∧ w'.cell? ⟨W.heap.size + 1, 3, none⟩ = some (.slice B ks.length tc))) W3 ∧ (fun _ : World => True) W3 := ⟨HCB.out _ hi3.chg, trivial⟩
  refine hK.out _ _ hSS3 ?_
  clear hK K hSS2
  (try simp only [Act.put, List.getElem_toArray, List.getElem_cons_succ, List.getElem_cons_zero, List.setIfInBounds_toArray, List.set_cons_zero, List.set_cons_succ])
  refine wpG_done (by kernel_rfl) ?_
  refine NoPanic.normal ?_
  obtain ⟨⟨a0, a1, a2, a3, a4, a5⟩, b0, b1, b2', b3⟩ := hSS3.1
  have HI3 := Lib.hid hi3
  clear hSS3 hi3 hp3 b2 bw2 hdr HI0
  have HD := Lib.hid (show ∀ w' : World, Chg (fun b => b = fb ∨ pw.ownBlock = some b) Wb w' → PV w' (fun b => S b ∧ b < W.heap.size) p _ ∧ NV w' (fun b => S b ∧ b < W.heap.size) (.nd tk tn ts ks) _ ∧ RowV w' (fun b => S b ∧ b < W.heap.size) A vs ∧ RowI w' (fun b => S b ∧ b < W.heap.size) Aq q ∧ RowAt w' (fun b => S b ∧ b < W.heap.size) B ks from fun w' h => ⟨HV0.out.keep (fun b hb hlt => ⟨hb, hlt⟩) (HKB.out w' h), HN0.out.keep (fun b hb hlt => ⟨hb, hlt⟩) (HKB.out w' h), HROW.out.keep (fun b hb hlt => ⟨hb, hlt⟩) (HKB.out w' h), HQR.out.keep (fun b hb hlt => ⟨hb, hlt⟩) (HKB.out w' h), HRK.out.keep (fun b hb hlt => ⟨hb, hlt⟩) (HKB.out w' h)⟩)
  by_cases hcall : tk = 50 ∨ tk = 51
  · rcases hcall with rfl | rfl
    · go_wp2_with fail
      go_loopw [34] (fun i wr => ∃ (j : Nat) (pv' : Value), j ≤ ks.length ∧ i = .int .i64 j ∧ VsI Rd n0 fb Wb pw (N + one1 E0 + cntA p.prs ts ks.length 0 (ks.take j) vs) wr pv') (fun i _ => ks.length - (intOf i).toNat)
      case atStart => exact ⟨0, _, Nat.zero_le _, rfl, by simpa [cntA] using HI3.out⟩
      case round =>
        obtain ⟨j, pv', hj, rfl, hinv⟩ := hrel
        have HINV := Lib.hid hinv
        clear HI3
        by_cases hlt : j < ks.length
        · obtain ⟨-, -, -, -, hrk⟩ := HD.out wr hinv.chg
          obtain ⟨a, u, A4, c4, rfl, hsa, Hu, ⟨q0, q1, q2, q3⟩, hnu⟩ := hrk.nd hlt
          have HNU := Lib.hid hnu
          clear hinv hrk hnu hsa
          go_upto_region 6 with fail
          have hbk : Below wr.heap.size wr (wr.alloc (.cells #[.int .u8 u.k, .int .i64 u.n, .string u.s, .slice A4 u.ks.length c4] 24)) := bl_al (Below.refl _ _) _
          have hbU := heap_alloc_new wr (.cells #[.int .u8 u.k, .int .i64 u.n, .string u.s, .slice A4 u.ks.length c4] 24)
          obtain ⟨wk, hwk⟩ : ∃ wk, wr.alloc (.cells #[.int .u8 u.k, .int .i64 u.n, .string u.s, .slice A4 u.ks.length c4] 24) = wk := ⟨_, rfl⟩
          rw [hwk] at hbk hbU ⊢
          have HZK := Lib.hid (show wk.heap.size = wr.heap.size + 1 by rw [← hwk]; simp)
          have HBK := Lib.hid hbk
          have HBU := Lib.hid hbU
          clear hwk hbk hbU
          have HCK := Lib.hid (show ∀ w' : World, Below wk.heap.size wk w' → (fun w' : World => ((w'.cell? ⟨W.heap.size, 0, none⟩ = some (.slice A1 L1 c1) ∧ w'.cell? ⟨W.heap.size, 1, none⟩ = some (.slice A2 L2 c2) ∧ w'.cell? ⟨W.heap.size, 2, none⟩ = some (.int .u8 k) ∧ w'.cell? ⟨W.heap.size, 3, none⟩ = some (.int .i64 n) ∧ w'.cell? ⟨W.heap.size, 4, none⟩ = some (.string s) ∧ w'.cell? ⟨W.heap.size, 5, none⟩ = some (.slice A3 l3 c3)) ∧ (w'.cell? ⟨W.heap.size + 1, 0, none⟩ = some (.int .u8 50) ∧ w'.cell? ⟨W.heap.size + 1, 1, none⟩ = some (.int .i64 tn) ∧ w'.cell? ⟨W.heap.size + 1, 2, none⟩ = some (.string ts) ∧ w'.cell? ⟨W.heap.size + 1, 3, none⟩ = some (.slice (some a) ks.length tc))) ∧ (w'.cell? ⟨wr.heap.size, 0, none⟩ = some (.int .u8 u.k) ∧ w'.cell? ⟨wr.heap.size, 1, none⟩ = some (.int .i64 u.n) ∧ w'.cell? ⟨wr.heap.size, 2, none⟩ = some (.string u.s) ∧ w'.cell? ⟨wr.heap.size, 3, none⟩ = some (.slice A4 u.ks.length c4))) w' ∧ (fun _ : World => True) w' from fun w' h => ⟨⟨HCB.out w' (HINV.out.chg.trans (Chg.of_below (bl_tt HBK.out h))), box4 ((h.block _ (by have := HZK.out; omega)).trans HBU.out)⟩, trivial⟩)
          have hdr := (Below.refl wk.heap.size wk).drew
          have hSS := HCK.out _ hdr
          refine wp_region_noPanic ?_
          refine wp_region_G (fun w' : World => ((w'.cell? ⟨W.heap.size, 0, none⟩ = some (.slice A1 L1 c1) ∧ w'.cell? ⟨W.heap.size, 1, none⟩ = some (.slice A2 L2 c2) ∧ w'.cell? ⟨W.heap.size, 2, none⟩ = some (.int .u8 k) ∧ w'.cell? ⟨W.heap.size, 3, none⟩ = some (.int .i64 n) ∧ w'.cell? ⟨W.heap.size, 4, none⟩ = some (.string s) ∧ w'.cell? ⟨W.heap.size, 5, none⟩ = some (.slice A3 l3 c3)) ∧ (w'.cell? ⟨W.heap.size + 1, 0, none⟩ = some (.int .u8 50) ∧ w'.cell? ⟨W.heap.size + 1, 1, none⟩ = some (.int .i64 tn) ∧ w'.cell? ⟨W.heap.size + 1, 2, none⟩ = some (.string ts) ∧ w'.cell? ⟨W.heap.size + 1, 3, none⟩ = some (.slice (some a) ks.length tc))) ∧ (w'.cell? ⟨wr.heap.size, 0, none⟩ = some (.int .u8 u.k) ∧ w'.cell? ⟨wr.heap.size, 1, none⟩ = some (.int .i64 u.n) ∧ w'.cell? ⟨wr.heap.size, 2, none⟩ = some (.string u.s) ∧ w'.cell? ⟨wr.heap.size, 3, none⟩ = some (.slice A4 u.ks.length c4))) (fun _ : World => True) 40 (by kernel_rfl) ?_
          refine wpG_take1 (i := 0) (v := ?_) rfl (by kernel_rfl) (by kernel_rfl) (by kernel_rfl) (by decide) (fun _ _ _ h => h) (Or.inl ⟨by rfl, ?_⟩) hSS ?_
          rotate_left 1
          · (intro w hSw; (try dsimp only at hSw); (try simp only [List.getElem_toArray, List.getElem_cons_succ, List.getElem_cons_zero]); go_simp; (try with_reducible rfl))
          (try simp only [Act.put, List.getElem_toArray, List.getElem_cons_succ, List.getElem_cons_zero, List.setIfInBounds_toArray, List.set_cons_zero, List.set_cons_succ])
          refine wpG_take1 (i := 1) (v := ?_) rfl (by kernel_rfl) (by kernel_rfl) (by kernel_rfl) (by decide) (fun _ _ _ h => h) (Or.inl ⟨by rfl, ?_⟩) hSS ?_
          rotate_left 1
          · (intro w hSw; (try dsimp only at hSw); (try simp only [List.getElem_toArray, List.getElem_cons_succ, List.getElem_cons_zero]); go_simp; (try with_reducible rfl))
          (try simp only [Act.put, List.getElem_toArray, List.getElem_cons_succ, List.getElem_cons_zero, List.setIfInBounds_toArray, List.set_cons_zero, List.set_cons_succ])
          refine wpG_take1 (i := 2) (v := ?_) rfl (by kernel_rfl) (by kernel_rfl) (by kernel_rfl) (by decide) (fun _ _ _ h => h) (Or.inl ⟨by rfl, ?_⟩) hSS ?_
          rotate_left 1
          · (intro w hSw; (try dsimp only at hSw); (try simp only [List.getElem_toArray, List.getElem_cons_succ, List.getElem_cons_zero]); go_simp; (try with_reducible rfl))
          (try simp only [Act.put, List.getElem_toArray, List.getElem_cons_succ, List.getElem_cons_zero, List.setIfInBounds_toArray, List.set_cons_zero, List.set_cons_succ])
          refine wpG_take1 (i := 4) (v := ?_) rfl (by kernel_rfl) (by kernel_rfl) (by kernel_rfl) (by decide) (fun _ _ _ h => h) (Or.inl ⟨by rfl, ?_⟩) hSS ?_
          rotate_left 1
          · (intro w hSw; (try dsimp only at hSw); (try simp only [List.getElem_toArray, List.getElem_cons_succ, List.getElem_cons_zero]); go_simp; (try with_reducible rfl))
          (try simp only [Act.put, List.getElem_toArray, List.getElem_cons_succ, List.getElem_cons_zero, List.setIfInBounds_toArray, List.set_cons_zero, List.set_cons_succ])
          refine wpG_take1 (i := 5) (v := ?_) rfl (by kernel_rfl) (by kernel_rfl) (by kernel_rfl) (by decide) (fun _ _ _ h => h) (Or.inl ⟨by rfl, ?_⟩) hSS ?_
          rotate_left 1
          · (intro w hSw; (try dsimp only at hSw); (try simp only [List.getElem_toArray, List.getElem_cons_succ, List.getElem_cons_zero]); go_simp; (try with_reducible rfl))
          (try simp only [Act.put, List.getElem_toArray, List.getElem_cons_succ, List.getElem_cons_zero, List.setIfInBounds_toArray, List.set_cons_zero, List.set_cons_succ])
          refine wpG_take1 (i := 6) (v := ?_) rfl (by kernel_rfl) (by kernel_rfl) (by kernel_rfl) (by decide) (fun _ _ _ h => h) (Or.inl ⟨by rfl, ?_⟩) hSS ?_
          rotate_left 1
          · (intro w hSw; (try dsimp only at hSw); (try simp only [List.getElem_toArray, List.getElem_cons_succ, List.getElem_cons_zero]); go_simp; (try with_reducible rfl))
          (try simp only [Act.put, List.getElem_toArray, List.getElem_cons_succ, List.getElem_cons_zero, List.setIfInBounds_toArray, List.set_cons_zero, List.set_cons_succ])
          refine wpG_take1 (i := 7) (v := ?_) rfl (by kernel_rfl) (by kernel_rfl) (by kernel_rfl) (by decide) (fun _ _ _ h => h) (Or.inl ⟨by rfl, ?_⟩) hSS ?_
          rotate_left 1
          · (intro w hSw; (try dsimp only at hSw); (try simp only [List.getElem_toArray, List.getElem_cons_succ, List.getElem_cons_zero]); go_simp; (try with_reducible rfl))
          (try simp only [Act.put, List.getElem_toArray, List.getElem_cons_succ, List.getElem_cons_zero, List.setIfInBounds_toArray, List.set_cons_zero, List.set_cons_succ])
          refine wpG_take1 (i := 8) (v := ?_) rfl (by kernel_rfl) (by kernel_rfl) (by kernel_rfl) (by decide) (fun _ _ _ h => h) (Or.inl ⟨by rfl, ?_⟩) hSS ?_
          rotate_left 1
          · (intro w hSw; (try dsimp only at hSw); (try simp only [List.getElem_toArray, List.getElem_cons_succ, List.getElem_cons_zero]); go_simp; (try with_reducible rfl))
          (try simp only [Act.put, List.getElem_toArray, List.getElem_cons_succ, List.getElem_cons_zero, List.setIfInBounds_toArray, List.set_cons_zero, List.set_cons_succ])
          refine wpG_take1 (i := 9) (v := ?_) rfl (by kernel_rfl) (by kernel_rfl) (by kernel_rfl) (by decide) (fun _ _ _ h => h) (Or.inl ⟨by rfl, ?_⟩) hSS ?_
          rotate_left 1
          · (intro w hSw; (try dsimp only at hSw); (try simp only [List.getElem_toArray, List.getElem_cons_succ, List.getElem_cons_zero]); go_simp; (try with_reducible rfl))
          (try simp only [Act.put, List.getElem_toArray, List.getElem_cons_succ, List.getElem_cons_zero, List.setIfInBounds_toArray, List.set_cons_zero, List.set_cons_succ])
          refine wpG_one (i := 3) (by kernel_rfl) rfl (fun K hK => ?_)
          refine step_callL (by rfl) (.func 71) [.tmp 40, .tmp 41] _ (by rfl) 71 _ fnChild (by rfl) _ (by rfl) _ (newIV_of (child_any q Aq cq (j : Int) ⟨by omega, by omega⟩ _ _ (HD.out _ (HINV.out.chg.trans (Chg.of_below (bl_tt HBK.out hdr)))).2.2.2.1 HQC.out (by omega))) ?_
          rintro vq w2 ⟨Ac, cc, rfl, hrc, hcc, bw2⟩
          have b2 := bl_tt hdr bw2
          have hSS2 := HCK.out _ b2
          refine hK.out _ _ hSS2 ?_
          clear hK K hSS
          (try simp only [Act.put, List.getElem_toArray, List.getElem_cons_succ, List.getElem_cons_zero, List.setIfInBounds_toArray, List.set_cons_zero, List.set_cons_succ])
          refine wpG_one (i := 10) (by kernel_rfl) rfl (fun K hK => ?_)
          refine step_callL (by rfl) (.func 72) [.tmp 45, .tmp 46, .tmp 47, .tmp 48] _ (by rfl) 72 _ fnArgument (by rfl) _ (by rfl) _ (isW_of (argument_any p (.nd 50 tn ts ks) j hlt vs A c _ _ _ _ _ _ (HD.out _ (HINV.out.chg.trans (Chg.of_below (bl_tt HBK.out b2)))).1 (HD.out _ (HINV.out.chg.trans (Chg.of_below (bl_tt HBK.out b2)))).2.1 (HD.out _ (HINV.out.chg.trans (Chg.of_below (bl_tt HBK.out b2)))).2.2.1 HLV.out)) ?_
          rintro vq w3 ⟨rfl, bw3⟩
          simp only [T.k_nd, T.s_nd, T.ks_nd]
          have b3 := bl_tt b2 bw3
          have hSS3 := HCK.out _ b3
          refine hK.out _ _ hSS3 ?_
          clear hK K hSS2
          (try simp only [Act.put, List.getElem_toArray, List.getElem_cons_succ, List.getElem_cons_zero, List.setIfInBounds_toArray, List.set_cons_zero, List.set_cons_succ])
          refine wpG_one (i := 11) (by kernel_rfl) rfl (fun K hK => ?_)
          have hcl : cntA p.prs ts ks.length 0 (ks.take j) vs ≤ sizes ks := Nat.le_trans (cntA_le _ _ _ _ _ _) (sizes_take_le _ _)
          have hF := HINV.out.fs.later (bl_tt HBK.out b3)
          have hR := HREP.out.keep _ _ _ _ HINV.out.rd HINV.out.fs (Chg.of_below (bl_tt HBK.out b3))
          refine step_callC (by rfl) (.tmp 39) [.tmp 42, .tmp 44, .tmp 49] _ (by rfl) f fn hfn cap (by rfl) _ (by rfl) _ (repV_of (HREP.out.call _ pv' _ (q ++ [(j : Int)]) Ac cc u.s _ w3 hR hF (hrc.later bw3) (by simp; omega) (by omega))) ?_
          rintro vq W6 hp
          obtain ⟨pv6, hi6⟩ := HINV.out.step HREP.out (bl_tt HBK.out b3) hp
          have hi7 : VsI Rd n0 fb Wb pw (N + one1 E0 + cntA p.prs ts ks.length 0 (ks.take (j + 1)) vs) W6 pv6 := by rw [cntA_take p.prs ts ks.length vs hlt]; simpa [Nat.add_assoc] using hi6
          have hSS6 : (fun w' : World => ((w'.cell? ⟨W.heap.size, 0, none⟩ = some (.slice A1 L1 c1) ∧ w'.cell? ⟨W.heap.size, 1, none⟩ = some (.slice A2 L2 c2) ∧ w'.cell? ⟨W.heap.size, 2, none⟩ = some (.int .u8 k) ∧ w'.cell? ⟨W.heap.size, 3, none⟩ = some (.int .i64 n) ∧ w'.cell? ⟨W.heap.size, 4, none⟩ = some (.string s) ∧ w'.cell? ⟨W.heap.size, 5, none⟩ = some (.slice A3 l3 c3)) ∧ (w'.cell? ⟨W.heap.size + 1, 0, none⟩ = some (.int .u8 50) ∧ w'.cell? ⟨W.heap.size + 1, 1, none⟩ = some (.int .i64 tn) ∧ w'.cell? ⟨W.heap.size + 1, 2, none⟩ = some (.string ts) ∧ w'.cell? ⟨W.heap.size + 1, 3, none⟩ = some (.slice (some a) ks.length tc))) ∧ (w'.cell? ⟨wr.heap.size, 0, none⟩ = some (.int .u8 u.k) ∧ w'.cell? ⟨wr.heap.size, 1, none⟩ = some (.int .i64 u.n) ∧ w'.cell? ⟨wr.heap.size, 2, none⟩ = some (.string u.s) ∧ w'.cell? ⟨wr.heap.size, 3, none⟩ = some (.slice A4 u.ks.length c4))) W6 ∧ (fun _ : World => True) W6 := ⟨⟨HCB.out _ hi7.chg, box4 ((hp.2.elim fun _ h => h.2.2.block _ (by have := (bl_tt HBK.out b3).size; have := b3.size; have := HZK.out; omega) (fun hh => by have hl := HINV.out.fs.lt; rcases hh with hh | hh; (have := hl.1; omega); (have := (hl.2 _ hh).2; omega))).trans ((b3.block _ (by have := HZK.out; omega)).trans HBU.out))⟩, trivial⟩
          refine hK.out _ _ hSS6 ?_
          clear hK K hSS3
          (try simp only [Act.put, List.getElem_toArray, List.getElem_cons_succ, List.getElem_cons_zero, List.setIfInBounds_toArray, List.set_cons_zero, List.set_cons_succ])
          refine wpG_done (by kernel_rfl) ?_
          refine NoPanic.normal ?_
          have HI7 := Lib.hid hi7
          clear hi7 hi6 hp hSS6 hF hR
          go_wp2_with fail
          go_roundw
          case rel => exact ⟨j + 1, _, by omega, by go_num, HI7.out⟩
          case measure => simp [intOf]; omega
        · obtain rfl : j = ks.length := by omega
          clear hinv
          go_wp2_with fail
          (try simp only [Exit.inBlock, Exit.then]); refine bodyPost_ret (results_none rfl _ _ _) rfl ?_
          have hinv := HINV.out
          rw [List.take_of_length_le (Nat.le_refl _)] at hinv
          have hcc := HCC.out
          rw [cntV, HE0.out, if_pos (by decide)] at hcc
          rw [← hcc, ← Nat.add_assoc]
          exact hinv.rep HBW.out ⟨_, rfl⟩
    · go_wp2_with fail
      go_loopw [34] (fun i wr => ∃ (j : Nat) (pv' : Value), j ≤ ks.length ∧ i = .int .i64 j ∧ VsI Rd n0 fb Wb pw (N + one1 E0 + cntA p.prs ts ks.length 0 (ks.take j) vs) wr pv') (fun i _ => ks.length - (intOf i).toNat)
      case atStart => exact ⟨0, _, Nat.zero_le _, rfl, by simpa [cntA] using HI3.out⟩
      case round =>
        obtain ⟨j, pv', hj, rfl, hinv⟩ := hrel
        have HINV := Lib.hid hinv
        clear HI3
        by_cases hlt : j < ks.length
        · obtain ⟨-, -, -, -, hrk⟩ := HD.out wr hinv.chg
          obtain ⟨a, u, A4, c4, rfl, hsa, Hu, ⟨q0, q1, q2, q3⟩, hnu⟩ := hrk.nd hlt
          have HNU := Lib.hid hnu
          clear hinv hrk hnu hsa
          go_upto_region 6 with fail
          have hbk : Below wr.heap.size wr (wr.alloc (.cells #[.int .u8 u.k, .int .i64 u.n, .string u.s, .slice A4 u.ks.length c4] 24)) := bl_al (Below.refl _ _) _
          have hbU := heap_alloc_new wr (.cells #[.int .u8 u.k, .int .i64 u.n, .string u.s, .slice A4 u.ks.length c4] 24)
          obtain ⟨wk, hwk⟩ : ∃ wk, wr.alloc (.cells #[.int .u8 u.k, .int .i64 u.n, .string u.s, .slice A4 u.ks.length c4] 24) = wk := ⟨_, rfl⟩
          rw [hwk] at hbk hbU ⊢
          have HZK := Lib.hid (show wk.heap.size = wr.heap.size + 1 by rw [← hwk]; simp)
          have HBK := Lib.hid hbk
          have HBU := Lib.hid hbU
          clear hwk hbk hbU
          have HCK := Lib.hid (show ∀ w' : World, Below wk.heap.size wk w' → (fun w' : World => ((w'.cell? ⟨W.heap.size, 0, none⟩ = some (.slice A1 L1 c1) ∧ w'.cell? ⟨W.heap.size, 1, none⟩ = some (.slice A2 L2 c2) ∧ w'.cell? ⟨W.heap.size, 2, none⟩ = some (.int .u8 k) ∧ w'.cell? ⟨W.heap.size, 3, none⟩ = some (.int .i64 n) ∧ w'.cell? ⟨W.heap.size, 4, none⟩ = some (.string s) ∧ w'.cell? ⟨W.heap.size, 5, none⟩ = some (.slice A3 l3 c3)) ∧ (w'.cell? ⟨W.heap.size + 1, 0, none⟩ = some (.int .u8 51) ∧ w'.cell? ⟨W.heap.size + 1, 1, none⟩ = some (.int .i64 tn) ∧ w'.cell? ⟨W.heap.size + 1, 2, none⟩ = some (.string ts) ∧ w'.cell? ⟨W.heap.size + 1, 3, none⟩ = some (.slice (some a) ks.length tc))) ∧ (w'.cell? ⟨wr.heap.size, 0, none⟩ = some (.int .u8 u.k) ∧ w'.cell? ⟨wr.heap.size, 1, none⟩ = some (.int .i64 u.n) ∧ w'.cell? ⟨wr.heap.size, 2, none⟩ = some (.string u.s) ∧ w'.cell? ⟨wr.heap.size, 3, none⟩ = some (.slice A4 u.ks.length c4))) w' ∧ (fun _ : World => True) w' from fun w' h => ⟨⟨HCB.out w' (HINV.out.chg.trans (Chg.of_below (bl_tt HBK.out h))), box4 ((h.block _ (by have := HZK.out; omega)).trans HBU.out)⟩, trivial⟩)
          have hdr := (Below.refl wk.heap.size wk).drew
          have hSS := HCK.out _ hdr
          refine wp_region_noPanic ?_
          refine wp_region_G (fun w' : World => ((w'.cell? ⟨W.heap.size, 0, none⟩ = some (.slice A1 L1 c1) ∧ w'.cell? ⟨W.heap.size, 1, none⟩ = some (.slice A2 L2 c2) ∧ w'.cell? ⟨W.heap.size, 2, none⟩ = some (.int .u8 k) ∧ w'.cell? ⟨W.heap.size, 3, none⟩ = some (.int .i64 n) ∧ w'.cell? ⟨W.heap.size, 4, none⟩ = some (.string s) ∧ w'.cell? ⟨W.heap.size, 5, none⟩ = some (.slice A3 l3 c3)) ∧ (w'.cell? ⟨W.heap.size + 1, 0, none⟩ = some (.int .u8 51) ∧ w'.cell? ⟨W.heap.size + 1, 1, none⟩ = some (.int .i64 tn) ∧ w'.cell? ⟨W.heap.size + 1, 2, none⟩ = some (.string ts) ∧ w'.cell? ⟨W.heap.size + 1, 3, none⟩ = some (.slice (some a) ks.length tc))) ∧ (w'.cell? ⟨wr.heap.size, 0, none⟩ = some (.int .u8 u.k) ∧ w'.cell? ⟨wr.heap.size, 1, none⟩ = some (.int .i64 u.n) ∧ w'.cell? ⟨wr.heap.size, 2, none⟩ = some (.string u.s) ∧ w'.cell? ⟨wr.heap.size, 3, none⟩ = some (.slice A4 u.ks.length c4))) (fun _ : World => True) 40 (by kernel_rfl) ?_
          refine wpG_take1 (i := 0) (v := ?_) rfl (by kernel_rfl) (by kernel_rfl) (by kernel_rfl) (by decide) (fun _ _ _ h => h) (Or.inl ⟨by rfl, ?_⟩) hSS ?_
          rotate_left 1
          · (intro w hSw; (try dsimp only at hSw); (try simp only [List.getElem_toArray, List.getElem_cons_succ, List.getElem_cons_zero]); go_simp; (try with_reducible rfl))
          (try simp only [Act.put, List.getElem_toArray, List.getElem_cons_succ, List.getElem_cons_zero, List.setIfInBounds_toArray, List.set_cons_zero, List.set_cons_succ])
          refine wpG_take1 (i := 1) (v := ?_) rfl (by kernel_rfl) (by kernel_rfl) (by kernel_rfl) (by decide) (fun _ _ _ h => h) (Or.inl ⟨by rfl, ?_⟩) hSS ?_
          rotate_left 1
          · (intro w hSw; (try dsimp only at hSw); (try simp only [List.getElem_toArray, List.getElem_cons_succ, List.getElem_cons_zero]); go_simp; (try with_reducible rfl))
          (try simp only [Act.put, List.getElem_toArray, List.getElem_cons_succ, List.getElem_cons_zero, List.setIfInBounds_toArray, List.set_cons_zero, List.set_cons_succ])
          refine wpG_take1 (i := 2) (v := ?_) rfl (by kernel_rfl) (by kernel_rfl) (by kernel_rfl) (by decide) (fun _ _ _ h => h) (Or.inl ⟨by rfl, ?_⟩) hSS ?_
          rotate_left 1
          · (intro w hSw; (try dsimp only at hSw); (try simp only [List.getElem_toArray, List.getElem_cons_succ, List.getElem_cons_zero]); go_simp; (try with_reducible rfl))
          (try simp only [Act.put, List.getElem_toArray, List.getElem_cons_succ, List.getElem_cons_zero, List.setIfInBounds_toArray, List.set_cons_zero, List.set_cons_succ])
          refine wpG_take1 (i := 4) (v := ?_) rfl (by kernel_rfl) (by kernel_rfl) (by kernel_rfl) (by decide) (fun _ _ _ h => h) (Or.inl ⟨by rfl, ?_⟩) hSS ?_
          rotate_left 1
          · (intro w hSw; (try dsimp only at hSw); (try simp only [List.getElem_toArray, List.getElem_cons_succ, List.getElem_cons_zero]); go_simp; (try with_reducible rfl))
          (try simp only [Act.put, List.getElem_toArray, List.getElem_cons_succ, List.getElem_cons_zero, List.setIfInBounds_toArray, List.set_cons_zero, List.set_cons_succ])
          refine wpG_take1 (i := 5) (v := ?_) rfl (by kernel_rfl) (by kernel_rfl) (by kernel_rfl) (by decide) (fun _ _ _ h => h) (Or.inl ⟨by rfl, ?_⟩) hSS ?_
          rotate_left 1
          · (intro w hSw; (try dsimp only at hSw); (try simp only [List.getElem_toArray, List.getElem_cons_succ, List.getElem_cons_zero]); go_simp; (try with_reducible rfl))
          (try simp only [Act.put, List.getElem_toArray, List.getElem_cons_succ, List.getElem_cons_zero, List.setIfInBounds_toArray, List.set_cons_zero, List.set_cons_succ])
          refine wpG_take1 (i := 6) (v := ?_) rfl (by kernel_rfl) (by kernel_rfl) (by kernel_rfl) (by decide) (fun _ _ _ h => h) (Or.inl ⟨by rfl, ?_⟩) hSS ?_
          rotate_left 1
          · (intro w hSw; (try dsimp only at hSw); (try simp only [List.getElem_toArray, List.getElem_cons_succ, List.getElem_cons_zero]); go_simp; (try with_reducible rfl))
          (try simp only [Act.put, List.getElem_toArray, List.getElem_cons_succ, List.getElem_cons_zero, List.setIfInBounds_toArray, List.set_cons_zero, List.set_cons_succ])
          refine wpG_take1 (i := 7) (v := ?_) rfl (by kernel_rfl) (by kernel_rfl) (by kernel_rfl) (by decide) (fun _ _ _ h => h) (Or.inl ⟨by rfl, ?_⟩) hSS ?_
          rotate_left 1
          · (intro w hSw; (try dsimp only at hSw); (try simp only [List.getElem_toArray, List.getElem_cons_succ, List.getElem_cons_zero]); go_simp; (try with_reducible rfl))
          (try simp only [Act.put, List.getElem_toArray, List.getElem_cons_succ, List.getElem_cons_zero, List.setIfInBounds_toArray, List.set_cons_zero, List.set_cons_succ])
          refine wpG_take1 (i := 8) (v := ?_) rfl (by kernel_rfl) (by kernel_rfl) (by kernel_rfl) (by decide) (fun _ _ _ h => h) (Or.inl ⟨by rfl, ?_⟩) hSS ?_
          rotate_left 1
          · (intro w hSw; (try dsimp only at hSw); (try simp only [List.getElem_toArray, List.getElem_cons_succ, List.getElem_cons_zero]); go_simp; (try with_reducible rfl))
          (try simp only [Act.put, List.getElem_toArray, List.getElem_cons_succ, List.getElem_cons_zero, List.setIfInBounds_toArray, List.set_cons_zero, List.set_cons_succ])
          refine wpG_take1 (i := 9) (v := ?_) rfl (by kernel_rfl) (by kernel_rfl) (by kernel_rfl) (by decide) (fun _ _ _ h => h) (Or.inl ⟨by rfl, ?_⟩) hSS ?_
          rotate_left 1
          · (intro w hSw; (try dsimp only at hSw); (try simp only [List.getElem_toArray, List.getElem_cons_succ, List.getElem_cons_zero]); go_simp; (try with_reducible rfl))
          (try simp only [Act.put, List.getElem_toArray, List.getElem_cons_succ, List.getElem_cons_zero, List.setIfInBounds_toArray, List.set_cons_zero, List.set_cons_succ])
          refine wpG_one (i := 3) (by kernel_rfl) rfl (fun K hK => ?_)
          refine step_callL (by rfl) (.func 71) [.tmp 40, .tmp 41] _ (by rfl) 71 _ fnChild (by rfl) _ (by rfl) _ (newIV_of (child_any q Aq cq (j : Int) ⟨by omega, by omega⟩ _ _ (HD.out _ (HINV.out.chg.trans (Chg.of_below (bl_tt HBK.out hdr)))).2.2.2.1 HQC.out (by omega))) ?_
          rintro vq w2 ⟨Ac, cc, rfl, hrc, hcc, bw2⟩
          have b2 := bl_tt hdr bw2
          have hSS2 := HCK.out _ b2
          refine hK.out _ _ hSS2 ?_
          clear hK K hSS
          (try simp only [Act.put, List.getElem_toArray, List.getElem_cons_succ, List.getElem_cons_zero, List.setIfInBounds_toArray, List.set_cons_zero, List.set_cons_succ])
          refine wpG_one (i := 10) (by kernel_rfl) rfl (fun K hK => ?_)
          refine step_callL (by rfl) (.func 72) [.tmp 45, .tmp 46, .tmp 47, .tmp 48] _ (by rfl) 72 _ fnArgument (by rfl) _ (by rfl) _ (isW_of (argument_any p (.nd 51 tn ts ks) j hlt vs A c _ _ _ _ _ _ (HD.out _ (HINV.out.chg.trans (Chg.of_below (bl_tt HBK.out b2)))).1 (HD.out _ (HINV.out.chg.trans (Chg.of_below (bl_tt HBK.out b2)))).2.1 (HD.out _ (HINV.out.chg.trans (Chg.of_below (bl_tt HBK.out b2)))).2.2.1 HLV.out)) ?_
          rintro vq w3 ⟨rfl, bw3⟩
          simp only [T.k_nd, T.s_nd, T.ks_nd]
          have b3 := bl_tt b2 bw3
          have hSS3 := HCK.out _ b3
          refine hK.out _ _ hSS3 ?_
          clear hK K hSS2
          (try simp only [Act.put, List.getElem_toArray, List.getElem_cons_succ, List.getElem_cons_zero, List.setIfInBounds_toArray, List.set_cons_zero, List.set_cons_succ])
          refine wpG_one (i := 11) (by kernel_rfl) rfl (fun K hK => ?_)
          have hcl : cntA p.prs ts ks.length 0 (ks.take j) vs ≤ sizes ks := Nat.le_trans (cntA_le _ _ _ _ _ _) (sizes_take_le _ _)
          have hF := HINV.out.fs.later (bl_tt HBK.out b3)
          have hR := HREP.out.keep _ _ _ _ HINV.out.rd HINV.out.fs (Chg.of_below (bl_tt HBK.out b3))
          refine step_callC (by rfl) (.tmp 39) [.tmp 42, .tmp 44, .tmp 49] _ (by rfl) f fn hfn cap (by rfl) _ (by rfl) _ (repV_of (HREP.out.call _ pv' _ (q ++ [(j : Int)]) Ac cc u.s _ w3 hR hF (hrc.later bw3) (by simp; omega) (by omega))) ?_
          rintro vq W6 hp
          obtain ⟨pv6, hi6⟩ := HINV.out.step HREP.out (bl_tt HBK.out b3) hp
          have hi7 : VsI Rd n0 fb Wb pw (N + one1 E0 + cntA p.prs ts ks.length 0 (ks.take (j + 1)) vs) W6 pv6 := by rw [cntA_take p.prs ts ks.length vs hlt]; simpa [Nat.add_assoc] using hi6
          have hSS6 : (fun w' : World => ((w'.cell? ⟨W.heap.size, 0, none⟩ = some (.slice A1 L1 c1) ∧ w'.cell? ⟨W.heap.size, 1, none⟩ = some (.slice A2 L2 c2) ∧ w'.cell? ⟨W.heap.size, 2, none⟩ = some (.int .u8 k) ∧ w'.cell? ⟨W.heap.size, 3, none⟩ = some (.int .i64 n) ∧ w'.cell? ⟨W.heap.size, 4, none⟩ = some (.string s) ∧ w'.cell? ⟨W.heap.size, 5, none⟩ = some (.slice A3 l3 c3)) ∧ (w'.cell? ⟨W.heap.size + 1, 0, none⟩ = some (.int .u8 51) ∧ w'.cell? ⟨W.heap.size + 1, 1, none⟩ = some (.int .i64 tn) ∧ w'.cell? ⟨W.heap.size + 1, 2, none⟩ = some (.string ts) ∧ w'.cell? ⟨W.heap.size + 1, 3, none⟩ = some (.slice (some a) ks.length tc))) ∧ (w'.cell? ⟨wr.heap.size, 0, none⟩ = some (.int .u8 u.k) ∧ w'.cell? ⟨wr.heap.size, 1, none⟩ = some (.int .i64 u.n) ∧ w'.cell? ⟨wr.heap.size, 2, none⟩ = some (.string u.s) ∧ w'.cell? ⟨wr.heap.size, 3, none⟩ = some (.slice A4 u.ks.length c4))) W6 ∧ (fun _ : World => True) W6 := ⟨⟨HCB.out _ hi7.chg, box4 ((hp.2.elim fun _ h => h.2.2.block _ (by have := (bl_tt HBK.out b3).size; have := b3.size; have := HZK.out; omega) (fun hh => by have hl := HINV.out.fs.lt; rcases hh with hh | hh; (have := hl.1; omega); (have := (hl.2 _ hh).2; omega))).trans ((b3.block _ (by have := HZK.out; omega)).trans HBU.out))⟩, trivial⟩
          refine hK.out _ _ hSS6 ?_
          clear hK K hSS3
          (try simp only [Act.put, List.getElem_toArray, List.getElem_cons_succ, List.getElem_cons_zero, List.setIfInBounds_toArray, List.set_cons_zero, List.set_cons_succ])
          refine wpG_done (by kernel_rfl) ?_
          refine NoPanic.normal ?_
          have HI7 := Lib.hid hi7
          clear hi7 hi6 hp hSS6 hF hR
          go_wp2_with fail
          go_roundw
          case rel => exact ⟨j + 1, _, by omega, by go_num, HI7.out⟩
          case measure => simp [intOf]; omega
        · obtain rfl : j = ks.length := by omega
          clear hinv
          go_wp2_with fail
          (try simp only [Exit.inBlock, Exit.then]); refine bodyPost_ret (results_none rfl _ _ _) rfl ?_
          have hinv := HINV.out
          rw [List.take_of_length_le (Nat.le_refl _)] at hinv
          have hcc := HCC.out
          rw [cntV, HE0.out, if_pos (by decide)] at hcc
          rw [← hcc, ← Nat.add_assoc]
          exact hinv.rep HBW.out ⟨_, rfl⟩
  · obtain ⟨h50, h51⟩ := not_or.1 hcall
    have hd50 : (tk == 50) = false := beq_false_of_ne h50
    have hd51 : (tk == 51) = false := beq_false_of_ne h51
    go_wp2_with fail
    go_loopw [55] (fun i wr => ∃ (j : Nat) (pv' : Value), j ≤ ks.length ∧ i = .int .i64 j ∧ VsI Rd n0 fb Wb pw (N + one1 E0 + cntK p.prs tk ts 0 (ks.take j) vs) wr pv') (fun i _ => ks.length - (intOf i).toNat)
    case atStart => exact ⟨0, _, Nat.zero_le _, rfl, by simpa [cntK] using HI3.out⟩
    case round =>
      obtain ⟨j, pv', hj, rfl, hinv⟩ := hrel
      have HINV := Lib.hid hinv
      clear HI3
      by_cases hlt : j < ks.length
      · obtain ⟨-, -, -, -, hrk⟩ := HD.out wr hinv.chg
        obtain ⟨a, u, A4, c4, rfl, hsa, Hu, ⟨q0, q1, q2, q3⟩, hnu⟩ := hrk.nd hlt
        have HNU := Lib.hid hnu
        clear hinv hrk hnu hsa
        go_upto_region 11 with fail
        have hbk : Below wr.heap.size wr (wr.alloc (.cells #[.int .u8 u.k, .int .i64 u.n, .string u.s, .slice A4 u.ks.length c4] 24)) := bl_al (Below.refl _ _) _
        have hbU := heap_alloc_new wr (.cells #[.int .u8 u.k, .int .i64 u.n, .string u.s, .slice A4 u.ks.length c4] 24)
        obtain ⟨wk, hwk⟩ : ∃ wk, wr.alloc (.cells #[.int .u8 u.k, .int .i64 u.n, .string u.s, .slice A4 u.ks.length c4] 24) = wk := ⟨_, rfl⟩
        rw [hwk] at hbk hbU ⊢
        have HZK := Lib.hid (show wk.heap.size = wr.heap.size + 1 by rw [← hwk]; simp)
        have HBK := Lib.hid hbk
        have HBU := Lib.hid hbU
        clear hwk hbk hbU
        have HCK := Lib.hid (show ∀ w' : World, Below wk.heap.size wk w' → (fun w' : World => ((w'.cell? ⟨W.heap.size, 0, none⟩ = some (.slice A1 L1 c1) ∧ w'.cell? ⟨W.heap.size, 1, none⟩ = some (.slice A2 L2 c2) ∧ w'.cell? ⟨W.heap.size, 2, none⟩ = some (.int .u8 k) ∧ w'.cell? ⟨W.heap.size, 3, none⟩ = some (.int .i64 n) ∧ w'.cell? ⟨W.heap.size, 4, none⟩ = some (.string s) ∧ w'.cell? ⟨W.heap.size, 5, none⟩ = some (.slice A3 l3 c3)) ∧ (w'.cell? ⟨W.heap.size + 1, 0, none⟩ = some (.int .u8 tk) ∧ w'.cell? ⟨W.heap.size + 1, 1, none⟩ = some (.int .i64 tn) ∧ w'.cell? ⟨W.heap.size + 1, 2, none⟩ = some (.string ts) ∧ w'.cell? ⟨W.heap.size + 1, 3, none⟩ = some (.slice (some a) ks.length tc))) ∧ (w'.cell? ⟨wr.heap.size, 0, none⟩ = some (.int .u8 u.k) ∧ w'.cell? ⟨wr.heap.size, 1, none⟩ = some (.int .i64 u.n) ∧ w'.cell? ⟨wr.heap.size, 2, none⟩ = some (.string u.s) ∧ w'.cell? ⟨wr.heap.size, 3, none⟩ = some (.slice A4 u.ks.length c4))) w' ∧ (fun _ : World => True) w' from fun w' h => ⟨⟨HCB.out w' (HINV.out.chg.trans (Chg.of_below (bl_tt HBK.out h))), box4 ((h.block _ (by have := HZK.out; omega)).trans HBU.out)⟩, trivial⟩)
        have hdr := (Below.refl wk.heap.size wk).drew
        have hSS := HCK.out _ hdr
        refine wp_region_noPanic ?_
        refine wp_region_G (fun w' : World => ((w'.cell? ⟨W.heap.size, 0, none⟩ = some (.slice A1 L1 c1) ∧ w'.cell? ⟨W.heap.size, 1, none⟩ = some (.slice A2 L2 c2) ∧ w'.cell? ⟨W.heap.size, 2, none⟩ = some (.int .u8 k) ∧ w'.cell? ⟨W.heap.size, 3, none⟩ = some (.int .i64 n) ∧ w'.cell? ⟨W.heap.size, 4, none⟩ = some (.string s) ∧ w'.cell? ⟨W.heap.size, 5, none⟩ = some (.slice A3 l3 c3)) ∧ (w'.cell? ⟨W.heap.size + 1, 0, none⟩ = some (.int .u8 tk) ∧ w'.cell? ⟨W.heap.size + 1, 1, none⟩ = some (.int .i64 tn) ∧ w'.cell? ⟨W.heap.size + 1, 2, none⟩ = some (.string ts) ∧ w'.cell? ⟨W.heap.size + 1, 3, none⟩ = some (.slice (some a) ks.length tc))) ∧ (w'.cell? ⟨wr.heap.size, 0, none⟩ = some (.int .u8 u.k) ∧ w'.cell? ⟨wr.heap.size, 1, none⟩ = some (.int .i64 u.n) ∧ w'.cell? ⟨wr.heap.size, 2, none⟩ = some (.string u.s) ∧ w'.cell? ⟨wr.heap.size, 3, none⟩ = some (.slice A4 u.ks.length c4))) (fun _ : World => True) 40 (by kernel_rfl) ?_
        refine wpG_take1 (i := 0) (v := ?_) rfl (by kernel_rfl) (by kernel_rfl) (by kernel_rfl) (by decide) (fun _ _ _ h => h) (Or.inl ⟨by rfl, ?_⟩) hSS ?_
        rotate_left 1
        · (intro w hSw; (try dsimp only at hSw); (try simp only [List.getElem_toArray, List.getElem_cons_succ, List.getElem_cons_zero]); go_simp; (try with_reducible rfl))
        (try simp only [Act.put, List.getElem_toArray, List.getElem_cons_succ, List.getElem_cons_zero, List.setIfInBounds_toArray, List.set_cons_zero, List.set_cons_succ])
        refine wpG_take1 (i := 1) (v := ?_) rfl (by kernel_rfl) (by kernel_rfl) (by kernel_rfl) (by decide) (fun _ _ _ h => h) (Or.inl ⟨by rfl, ?_⟩) hSS ?_
        rotate_left 1
        · (intro w hSw; (try dsimp only at hSw); (try simp only [List.getElem_toArray, List.getElem_cons_succ, List.getElem_cons_zero]); go_simp; (try with_reducible rfl))
        (try simp only [Act.put, List.getElem_toArray, List.getElem_cons_succ, List.getElem_cons_zero, List.setIfInBounds_toArray, List.set_cons_zero, List.set_cons_succ])
        refine wpG_take1 (i := 2) (v := ?_) rfl (by kernel_rfl) (by kernel_rfl) (by kernel_rfl) (by decide) (fun _ _ _ h => h) (Or.inl ⟨by rfl, ?_⟩) hSS ?_
        rotate_left 1
        · (intro w hSw; (try dsimp only at hSw); (try simp only [List.getElem_toArray, List.getElem_cons_succ, List.getElem_cons_zero]); go_simp; (try with_reducible rfl))
        (try simp only [Act.put, List.getElem_toArray, List.getElem_cons_succ, List.getElem_cons_zero, List.setIfInBounds_toArray, List.set_cons_zero, List.set_cons_succ])
        refine wpG_take1 (i := 3) (v := ?_) rfl (by kernel_rfl) (by kernel_rfl) (by kernel_rfl) (by decide) (fun _ _ _ h => h) (Or.inl ⟨by rfl, ?_⟩) hSS ?_
        rotate_left 1
        · (intro w hSw; (try dsimp only at hSw); (try simp only [List.getElem_toArray, List.getElem_cons_succ, List.getElem_cons_zero]); go_simp; (try with_reducible rfl))
        (try simp only [Act.put, List.getElem_toArray, List.getElem_cons_succ, List.getElem_cons_zero, List.setIfInBounds_toArray, List.set_cons_zero, List.set_cons_succ])
        refine wpG_take1 (i := 5) (v := ?_) rfl (by kernel_rfl) (by kernel_rfl) (by kernel_rfl) (by decide) (fun _ _ _ h => h) (Or.inl ⟨by rfl, ?_⟩) hSS ?_
        rotate_left 1
        · (intro w hSw; (try dsimp only at hSw); (try simp only [List.getElem_toArray, List.getElem_cons_succ, List.getElem_cons_zero]); go_simp; (try with_reducible rfl))
        (try simp only [Act.put, List.getElem_toArray, List.getElem_cons_succ, List.getElem_cons_zero, List.setIfInBounds_toArray, List.set_cons_zero, List.set_cons_succ])
        refine wpG_take1 (i := 6) (v := ?_) rfl (by kernel_rfl) (by kernel_rfl) (by kernel_rfl) (by decide) (fun _ _ _ h => h) (Or.inl ⟨by rfl, ?_⟩) hSS ?_
        rotate_left 1
        · (intro w hSw; (try dsimp only at hSw); (try simp only [List.getElem_toArray, List.getElem_cons_succ, List.getElem_cons_zero]); go_simp; (try with_reducible rfl))
        (try simp only [Act.put, List.getElem_toArray, List.getElem_cons_succ, List.getElem_cons_zero, List.setIfInBounds_toArray, List.set_cons_zero, List.set_cons_succ])
        refine wpG_take1 (i := 7) (v := ?_) rfl (by kernel_rfl) (by kernel_rfl) (by kernel_rfl) (by decide) (fun _ _ _ h => h) (Or.inl ⟨by rfl, ?_⟩) hSS ?_
        rotate_left 1
        · (intro w hSw; (try dsimp only at hSw); (try simp only [List.getElem_toArray, List.getElem_cons_succ, List.getElem_cons_zero]); go_simp; (try with_reducible rfl))
        (try simp only [Act.put, List.getElem_toArray, List.getElem_cons_succ, List.getElem_cons_zero, List.setIfInBounds_toArray, List.set_cons_zero, List.set_cons_succ])
        refine wpG_take1 (i := 9) (v := ?_) rfl (by kernel_rfl) (by kernel_rfl) (by kernel_rfl) (by decide) (fun _ _ _ h => h) (Or.inl ⟨by rfl, ?_⟩) hSS ?_
        rotate_left 1
        · (intro w hSw; (try dsimp only at hSw); (try simp only [List.getElem_toArray, List.getElem_cons_succ, List.getElem_cons_zero]); go_simp; (try with_reducible rfl))
        (try simp only [Act.put, List.getElem_toArray, List.getElem_cons_succ, List.getElem_cons_zero, List.setIfInBounds_toArray, List.set_cons_zero, List.set_cons_succ])
        refine wpG_one (i := 4) (by kernel_rfl) rfl (fun K hK => ?_)
        refine step_callL (by rfl) (.func 71) [.tmp 62, .tmp 63] _ (by rfl) 71 _ fnChild (by rfl) _ (by rfl) _ (newIV_of (child_any q Aq cq (j : Int) ⟨by omega, by omega⟩ _ _ (HD.out _ (HINV.out.chg.trans (Chg.of_below (bl_tt HBK.out hdr)))).2.2.2.1 HQC.out (by omega))) ?_
        rintro vq w2 ⟨Ac, cc, rfl, hrc, hcc, bw2⟩
        have b2 := bl_tt hdr bw2
        have hSS2 := HCK.out _ b2
        refine hK.out _ _ hSS2 ?_
        clear hK K hSS
        (try simp only [Act.put, List.getElem_toArray, List.getElem_cons_succ, List.getElem_cons_zero, List.setIfInBounds_toArray, List.set_cons_zero, List.set_cons_succ])
        refine wpG_one (i := 8) (by kernel_rfl) rfl (fun K hK => ?_)
        refine step_callL (by rfl) (.func 73) [.tmp 65, .tmp 66, .tmp 67] _ (by rfl) 73 _ fnInner (by rfl) _ (by rfl) _ (shRowV_of (inner_any (.nd tk tn ts ks) j (by omega) vs A c _ _ _ _ (HD.out _ (HINV.out.chg.trans (Chg.of_below (bl_tt HBK.out b2)))).2.1 (HD.out _ (HINV.out.chg.trans (Chg.of_below (bl_tt HBK.out b2)))).2.2.1 HLC.out (by omega))) ?_
        simp only [T.k_nd, T.s_nd, T.ks_nd]
        rintro vq w3 ⟨Av, cv, rfl, hrv, hcv, bw3⟩
        have b3 := bl_tt b2 bw3
        have hSS3 := HCK.out _ b3
        refine hK.out _ _ hSS3 ?_
        clear hK K hSS2
        (try simp only [Act.put, List.getElem_toArray, List.getElem_cons_succ, List.getElem_cons_zero, List.setIfInBounds_toArray, List.set_cons_zero, List.set_cons_succ])
        refine wpG_one (i := 10) (by kernel_rfl) rfl (fun K hK => ?_)
        have hcl : cntK p.prs tk ts 0 (ks.take j) vs ≤ sizes (ks.take j) := cntK_le _ _ _ _ (fun t _ vs => cntV_le _ t vs) _ _
        have hsz := sizes_take_le ks (j + 1)
        rw [sizes_take ks j hlt, Hu.out] at hsz
        have hmem : u ∈ ks := by rw [← Hu.out]; exact List.getElem_mem hlt
        have hdu := dep_le hmem
        have hil := innerV_len tk ts j vs
        have hzb := HINV.out.chg.size
        have hz0 := HZB.out
        have hzk := HZK.out
        have hfl := HINV.out.fs.lt
        have hF := HINV.out.fs.later (bl_tt HBK.out b3)
        have hR := HREP.out.keep _ _ _ _ HINV.out.rd HINV.out.fs (Chg.of_below (bl_tt HBK.out b3))
        have hzz := hdr.size
        have hzw := bw2.size
        have hzw2 := b2.size
        refine step_callL (by rfl) (.func 54) [.tmp 60, .tmp 61, .tmp 64, .tmp 68, .tmp 69] _ (by rfl) 54 _ fnVisit (by rfl) _ (by rfl) _ (repV_of (HIH.out u hmem (fun b => (S b ∧ b < W.heap.size) ∨ wk.heap.size ≤ b) (innerV tk ts j vs) Av cv (q ++ [(j : Int)]) Ac cc (N + one1 E0 + cntK p.prs tk ts 0 (ks.take j) vs) pv' w3 _ _ hR hF ((HD.out _ (HINV.out.chg.trans (Chg.of_below (bl_tt HBK.out b3)))).1.keep (fun b hb _ => .inl hb) (fun _ _ _ => rfl)) ((HNU.out.later (bl_tt HBK.out b3)).keep (fun b hb _ => .inl hb) (fun _ _ _ => rfl)) (hrv.mono fun b hb => by rcases hb with hb | hb; exact .inl hb; exact .inr (by omega)) hcv ((hrc.later bw3).mono fun b hb => .inr (by have : _ ≤ b := hb; omega)) hcc (fun b hb hlt' hh => ?_) (by simp; omega) (by omega) (by omega))) ?_
        · rcases hb with ⟨hb, hbl⟩ | hb
          · refine HFAR.out b hb hbl (hh.imp id fun h => ?_)
            rcases HINV.out.own b h with h1 | h1
            · exact h1
            · omega
          · rcases hh with rfl | hh
            · omega
            · have := hfl.2 b hh; omega
        rintro vq W6 hp
        obtain ⟨pv6, hi6⟩ := HINV.out.step HREP.out (bl_tt HBK.out b3) hp
        have hi7 : VsI Rd n0 fb Wb pw (N + one1 E0 + cntK p.prs tk ts 0 (ks.take (j + 1)) vs) W6 pv6 := by rw [cntK_take p.prs tk ts vs hlt, Hu.out]; simpa [Nat.add_assoc] using hi6
        have hSS6 : (fun w' : World => ((w'.cell? ⟨W.heap.size, 0, none⟩ = some (.slice A1 L1 c1) ∧ w'.cell? ⟨W.heap.size, 1, none⟩ = some (.slice A2 L2 c2) ∧ w'.cell? ⟨W.heap.size, 2, none⟩ = some (.int .u8 k) ∧ w'.cell? ⟨W.heap.size, 3, none⟩ = some (.int .i64 n) ∧ w'.cell? ⟨W.heap.size, 4, none⟩ = some (.string s) ∧ w'.cell? ⟨W.heap.size, 5, none⟩ = some (.slice A3 l3 c3)) ∧ (w'.cell? ⟨W.heap.size + 1, 0, none⟩ = some (.int .u8 tk) ∧ w'.cell? ⟨W.heap.size + 1, 1, none⟩ = some (.int .i64 tn) ∧ w'.cell? ⟨W.heap.size + 1, 2, none⟩ = some (.string ts) ∧ w'.cell? ⟨W.heap.size + 1, 3, none⟩ = some (.slice (some a) ks.length tc))) ∧ (w'.cell? ⟨wr.heap.size, 0, none⟩ = some (.int .u8 u.k) ∧ w'.cell? ⟨wr.heap.size, 1, none⟩ = some (.int .i64 u.n) ∧ w'.cell? ⟨wr.heap.size, 2, none⟩ = some (.string u.s) ∧ w'.cell? ⟨wr.heap.size, 3, none⟩ = some (.slice A4 u.ks.length c4))) W6 ∧ (fun _ : World => True) W6 := ⟨⟨HCB.out _ hi7.chg, box4 ((hp.2.elim fun _ h => h.2.2.block _ (by have := (bl_tt HBK.out b3).size; have := b3.size; have := HZK.out; omega) (fun hh => by have hl := HINV.out.fs.lt; rcases hh with hh | hh; (have := hl.1; omega); (have := (hl.2 _ hh).2; omega))).trans ((b3.block _ (by have := HZK.out; omega)).trans HBU.out))⟩, trivial⟩
        refine hK.out _ _ hSS6 ?_
        clear hK K hSS3
        (try simp only [Act.put, List.getElem_toArray, List.getElem_cons_succ, List.getElem_cons_zero, List.setIfInBounds_toArray, List.set_cons_zero, List.set_cons_succ])
        refine wpG_done (by kernel_rfl) ?_
        refine NoPanic.normal ?_
        have HI7 := Lib.hid hi7
        clear hi7 hi6 hp hSS6 hF hR
        go_wp2_with fail
        go_roundw
        case rel => exact ⟨j + 1, _, by omega, by go_num, HI7.out⟩
        case measure => simp [intOf]; omega
      · obtain rfl : j = ks.length := by omega
        clear hinv
        go_wp2_with fail
        go_end0
        have hinv := HINV.out
        rw [List.take_of_length_le (Nat.le_refl _)] at hinv
        have hcc := HCC.out
        rw [cntV, HE0.out, if_neg hcall] at hcc
        rw [← hcc, ← Nat.add_assoc]
        exact hinv.rep HBW.out ⟨_, rfl⟩

end Go.Proofs.Ytldcjboignbfpaa
