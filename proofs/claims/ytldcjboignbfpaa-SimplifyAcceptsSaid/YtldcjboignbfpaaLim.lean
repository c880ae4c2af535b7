/-
  Contracts of ast.limited and ast.isBody.
-/
import Derived.Test.YtldcjboignbfpaaAst3
import Derived.Test.YtldcjboignbfpaaInvW
namespace Go.Proofs.Ytldcjboignbfpaa
open Go.RowKit

mutual
/-- ast.limited: what is left of the count, or none. -/
def lim : T → Nat → Nat → Option Nat
  | .nd _ _ _ ks, d, l => if d = 0 ∨ l = 0 then none else lims ks (d - 1) (l - 1)
def lims : List T → Nat → Nat → Option Nat
  | [], _, l => some l
  | t :: ts, d, l => match lim t d l with
    | none => none
    | some l' => lims ts d l'
end
theorem lims_append (ts us : List T) (d : Nat) : ∀ l, lims (ts ++ us) d l = (lims ts d l).bind fun r => lims us d r := by
  induction ts with
  | nil => intro l; simp [lims]
  | cons t ts ih =>
    intro l
    simp only [List.cons_append, lims]
    cases lim t d l with
    | none => rfl
    | some r => exact ih r
theorem lims_one (t : T) (d l : Nat) : lims [t] d l = lim t d l := by
  simp only [lims]
  cases lim t d l <;> rfl
theorem lims_take {ks : List T} {d l r j : Nat} (hj : j < ks.length) (h : lims (ks.take j) d l = some r) : lims (ks.take (j + 1)) d l = lim ks[j] d r := by
  rw [List.take_succ_eq_append_getElem hj, lims_append, h]
  exact lims_one _ _ _
theorem lims_none {ks : List T} {d l j : Nat} (h : lims (ks.take j) d l = none) : lims ks d l = none := by
  rw [← List.take_append_drop j ks, lims_append, h]
  rfl
theorem lim_le (t : T) : ∀ d l r, lim t d l = some r → r ≤ l := by
  induction t using T.ind with
  | _ k n s ks ih =>
  intro d l r h
  rw [lim] at h
  split at h
  · cases h
  · have key : ∀ (us : List T), (∀ t ∈ us, ∀ d l r, lim t d l = some r → r ≤ l) → ∀ l r d, lims us d l = some r → r ≤ l := by
      intro us
      induction us with
      | nil => intro _ l r d h; simp [lims] at h; omega
      | cons t us ih2 =>
        intro hu l r d h
        simp only [lims] at h
        cases h1 : lim t d l with
        | none => rw [h1] at h; cases h
        | some r1 =>
          rw [h1] at h
          have := hu t (by simp) d l r1 h1
          have := ih2 (fun t ht => hu t (by simp [ht])) r1 r d h
          omega
    have := key ks ih _ _ _ h
    omega
theorem lims_le {ks : List T} {d l r : Nat} (h : lims ks d l = some r) : r ≤ l := by
  by_cases hd : d + 1 = 0 ∨ l + 1 = 0
  · omega
  · have := lim_le (.nd 0 0 ⟨#[]⟩ ks) (d + 1) (l + 1) r (by rw [lim, if_neg hd]; simpa using h)
    rcases ks with _ | ⟨t, ts⟩
    · simp [lims] at h; omega
    · simp only [lims] at h
      cases h1 : lim t d l with
      | none => rw [h1] at h; cases h
      | some r1 =>
        have h2 := lim_le t d l r1 h1
        rw [h1] at h
        have h3 := lims_le h
        omega

/-- What such a call leaves: the count's block b alone has turned. -/
def LimE (w : World) (b : Nat) (o : Option Nat) (e : Ending) (w' : World) : Prop :=
  e = .returned (.bool o.isSome) ∧ ∃ l' : Nat, w'.heap[b]? = some (.cells #[.int .i64 (l' : Int)] 3 (0, 0)) ∧ (∀ r, o = some r → l' = r) ∧ w.grownBy w' (some b)

theorem grown_trans {a b c : World} {row : Option Nat} (h1 : a.grownBy b row) (h2 : b.grownBy c row) : a.grownBy c row :=
  ⟨h2.os.trans h1.os, h2.tape.trans h1.tape, h2.output.trans h1.output, Nat.le_trans h1.size h2.size, fun i hi hne => (h2.block i (Nat.lt_of_lt_of_le hi h1.size) hne).trans (h1.block i hi hne)⟩
theorem grown_alloc {w : World} (o : Obj) (row : Option Nat) : w.grownBy (w.alloc o) row :=
  let h := (Below.refl w.heap.size w).alloc (Nat.le_refl _) o
  ⟨h.os, h.tape, h.output, h.size, fun b hb _ => h.block b hb⟩
theorem NV.grown {w w' : World} {S : Nat → Prop} {t : T} {v : Value} {b : Nat} (h : NV w S t v) (hg : w.grownBy w' (some b)) (hb : ¬ S b) : NV w' S t v :=
  h.keep (fun _ h _ => h) fun i hi hlt => hg.block i hlt fun e => by injection e with e; subst e; exact hb hi
theorem RowAt.grown {w w' : World} {S : Nat → Prop} {A : Option Addr} {ts : List T} {b : Nat} (h : RowAt w S A ts) (hg : w.grownBy w' (some b)) (hb : ¬ S b) : RowAt w' S A ts :=
  h.keep (fun _ h _ => h) fun i hi hlt => hg.block i hlt fun e => by injection e with e; subst e; exact hb hi

set_option maxHeartbeats 2000000 in
set_option maxRecDepth 100000 in
theorem limited_any (t : T) : ∀ (d l : Nat) (S : Nat → Prop) (v : Value) (w : World) (b : Nat), NV w S t v → ¬ S b → d ≤ 80 → l ≤ 2000 → w.heap[b]? = some (.cells #[.int .i64 (l : Int)] 3 (0, 0)) →
    Calls Try.prog 65 #[v, .int .i64 (d : Int), .pointer (some ⟨b, 0, none⟩)] w (LimE w b (lim t d l)) := by
  induction t using T.ind with
  | _ k n s ks ih =>
  intro d l S v w b hv hSb hd hl hbx
  obtain ⟨A, c, rfl, hf, hlk, hlc, hrow⟩ := hv.open_
  simp only [T.k_nd, T.n_nd, T.s_nd, T.ks_nd] at *
  have hlk' := LK_int hlk
  have IH := Lib.hid ih
  have HROW := Lib.hid hrow
  have HSB := Lib.hid hSb
  have HBX := Lib.hid hbx
  have hbl := blk_lt hbx
  have c0 := cell_al (cell_of_blk (i := 0) (u := .int .i64 (l : Int)) hbx rfl)
  have f0 : ∀ o : Obj, (w.alloc o).frozen? ⟨b, 0, none⟩ = false := fun o => by
    have : (w.alloc o).heap[b]? = some (.cells #[.int .i64 (l : Int)] 3 (0, 0)) := (Below.heap_alloc w o b hbl).trans hbx
    exact frozen_of_blk this
  clear hv ih hrow hSb hf hlk hbx
  have hne : ¬ b = w.heap.size := by omega
  have hne' : ¬ w.heap.size = b := by omega
  by_cases hd0 : d = 0
  · subst hd0
    have HX := Lib.hid (show lim (.nd k n s ks) 0 l = none by rw [lim]; simp)
    go_enter Try.func65, Try.ntmps65
    go_wp2_with fail
    go_ret
    rw [HX.out]
    exact ⟨rfl, l, (Below.heap_alloc w _ b hbl).trans HBX.out, (fun r h => by cases h), grown_alloc _ _⟩
  by_cases hl0 : l = 0
  · subst hl0
    have HX := Lib.hid (show lim (.nd k n s ks) d 0 = none by rw [lim]; simp)
    have fd : ((d : Int) == 0) = false := by simpa using hd0
    go_enter Try.func65, Try.ntmps65
    go_wp2_with fail
    go_ret
    rw [HX.out]
    exact ⟨rfl, 0, (Below.heap_alloc w _ b hbl).trans HBX.out, (fun r h => by cases h), grown_alloc _ _⟩
  obtain ⟨d', rfl⟩ : ∃ d', d = d' + 1 := ⟨d - 1, by omega⟩
  obtain ⟨l', rfl⟩ : ∃ l', l = l' + 1 := ⟨l - 1, by omega⟩
  have HX := Lib.hid (show lim (.nd k n s ks) (d' + 1) (l' + 1) = lims ks d' l' by rw [lim, if_neg (by omega)]; simp)
  rw [show ((d' + 1 : Nat) : Int) = (d' : Int) + 1 from rfl]
  have fd : ((d' : Int) + 1 == 0) = false := by simp; omega
  have fl : ((l' : Int) + 1 == 0) = false := by simp; omega
  clear hd0 hl0
  have hb1 : (w.setCell ⟨b, 0, none⟩ (.int .i64 (l' : Int))).heap[b]? = some (.cells #[.int .i64 (l' : Int)] 3 (0, 0)) := by
    have h1 := heap_setCell_same w b 0 _ 3 (.int .i64 (l' : Int)) HBX.out
    simpa using h1
  have hz1 : (w.setCell ⟨b, 0, none⟩ (.int .i64 (l' : Int))).heap.size = w.heap.size := by simp [World.setCell]
  obtain ⟨W0, hW0⟩ : ∃ W0, (w.setCell ⟨b, 0, none⟩ (.int .i64 (l' : Int))).alloc (.cells #[.int .u8 k, .int .i64 n, .string s, .slice A ks.length c] 24) = W0 := ⟨_, rfl⟩
  have H0 : W0.heap[b]? = some (.cells #[.int .i64 (l' : Int)] 3 (0, 0)) := by
    rw [← hW0, Below.heap_alloc _ _ b (by rw [hz1]; exact hbl)]; exact hb1
  have A0 : W0.heap[w.heap.size]? = some (.cells #[.int .u8 k, .int .i64 n, .string s, .slice A ks.length c] 24 (0, 0)) := by
    rw [← hW0, ← hz1]; exact heap_alloc_new _ _
  have G0 : w.grownBy W0 (some b) := by
    rw [← hW0]
    refine grown_trans (only_set (only_refl w (some b)) (p := ⟨b, 0, none⟩) rfl _) (grown_alloc _ _)
  have HH := Lib.hid (And.intro H0 (And.intro A0 G0))
  have HW0 := Lib.hid hW0
  clear H0 G0 A0 hb1 hz1 hW0
  go_enter Try.func65, Try.ntmps65
  go_wp2_with fail
  rw [HW0.out]
  clear c0 f0
  go_loopw [25] (fun i wr => ∃ (j lc : Nat), j ≤ ks.length ∧ i = .int .i64 j ∧ lc ≤ 2000 ∧ Hid (lims (ks.take j) d' l' = some lc) ∧ wr.heap[b]? = some (.cells #[.int .i64 (lc : Int)] 3 (0, 0)) ∧ wr.heap[w.heap.size]? = some (.cells #[.int .u8 k, .int .i64 n, .string s, .slice A ks.length c] 24 (0, 0)) ∧ w.grownBy wr (some b)) (fun i _ => ks.length - (intOf i).toNat)
  case atStart => exact ⟨0, l', Nat.zero_le _, rfl, by omega, Lib.hid (by simp [lims]), HH.out.1, HH.out.2.1, HH.out.2.2⟩
  case round =>
    obtain ⟨j, lc, hj, rfl, hlc2, HLI, hbx, hax, hg⟩ := hrel
    clear HH HW0
    by_cases hlt : j < ks.length
    · obtain ⟨a, t, A1, c1, rfl, _, Ht, ⟨q0, q1, q2, q3⟩, hn⟩ := (HROW.out.grown hg HSB.out).nd hlt
      have hI := IH.out ks[j] (List.getElem_mem hlt)
      rw [Ht.out] at hI
      have hbl2 := blk_lt hbx
      have hal : ∀ o : Obj, (wr.alloc o).heap[b]? = some (.cells #[.int .i64 (lc : Int)] 3 (0, 0)) := fun o => (Below.heap_alloc wr o b hbl2).trans hbx
      have HI1 := Lib.hid (hI d' lc S _ (wr.alloc (.cells #[.int .u8 t.k, .int .i64 t.n, .string t.s, .slice A1 t.ks.length c1] 24)) b (hn.later ((Below.refl _ _).alloc (Nat.le_refl _) _)) HSB.out (by omega) hlc2 (hal _))
      have HT := Lib.hid (show lims (ks.take (j + 1)) d' l' = lim t d' lc by rw [lims_take hlt HLI.out, Ht.out])
      have HG := Lib.hid (grown_trans hg (grown_alloc (.cells #[.int .u8 t.k, .int .i64 t.n, .string t.s, .slice A1 t.ks.length c1] 24) _))
      have HAX := Lib.hid (show ∀ o : Obj, (wr.alloc o).heap[w.heap.size]? = some (.cells #[.int .u8 k, .int .i64 n, .string s, .slice (some a) ks.length c] 24 (0, 0)) from fun o => (Below.heap_alloc wr o _ (blk_lt hax)).trans hax)
      clear hI hn hbx hax hal
      go_wp2_with fail
      refine HI1.out.mono ?_
      rintro e w1 ⟨rfl, l1, hb1, hl1, hg1⟩
      have HG1 := Lib.hid (grown_trans HG.out hg1)
      have HA1 := Lib.hid ((hg1.block _ (blk_lt (HAX.out _)) (fun e => hne' (by injection e))).trans (HAX.out _))
      have HB1 := Lib.hid hb1
      clear hb1 hg1
      cases ho : lim t d' lc with
      | none =>
        have HX2 := Lib.hid (show lims ks d' l' = none from lims_none (j := j + 1) (by rw [HT.out, ho]))
        go_wp2_with fail
        go_ret
        rw [HX.out, HX2.out]
        exact ⟨rfl, l1, HB1.out, (fun r h => by cases h), HG1.out⟩
      | some r =>
        have hr1 := hl1 r ho
        subst hr1
        have hle : l1 ≤ 2000 := by have := lim_le t d' lc l1 ho; omega
        have HT2 := Lib.hid (show lims (ks.take (j + 1)) d' l' = some l1 by rw [HT.out, ho])
        clear hl1 ho
        go_wp2_with fail
        go_roundw
        case rel => exact ⟨j + 1, l1, by omega, by go_num, hle, HT2, HB1.out, HA1.out, HG1.out⟩
        case measure => simp [intOf]; omega
    · obtain rfl : j = ks.length := by omega
      have HL2 := Lib.hid (show lims ks d' l' = some lc by have := HLI.out; rw [List.take_of_length_le (by omega)] at this; exact this)
      go_wp2_with fail
      go_ret
      rw [HX.out, HL2.out]
      exact ⟨rfl, lc, hbx, (fun r h => by cases h; rfl), hg⟩

/-- ast.isBody. -/
def isBodyB (t : T) : Bool := (lim t 80 2000).isSome && isB t
set_option maxHeartbeats 1000000 in
theorem isBody_any (t : T) (v : Value) (w : World) (hv : NV w Any t v) : Calls Try.prog 46 #[v] w fun e w' => e = .returned (.bool (isBodyB t)) ∧ Below w.heap.size w w' := by
  have HV := Lib.hid hv
  have HX := Lib.hid (show isBodyB t = ((lim t 80 2000).isSome && isB t) from rfl)
  obtain ⟨A, c, rfl, hf, hlk, hlc, hrow⟩ := hv.open_
  clear hf hlk hrow hv hlc
  generalize t.k = k, t.n = n, t.s = s, t.ks.length = l at *
  have HV2 := Lib.hid (show NV w (fun b => b < w.heap.size) t (nv k n s A l c) from HV.out.keep (fun _ _ h => h) fun _ _ _ => rfl)
  have hb2 : ∀ o o', Below w.heap.size w ((w.alloc o).alloc o') := fun o o' => ((Below.refl _ _).alloc (Nat.le_refl _) _).alloc (by simp) _
  have HB2 := Lib.hid hb2
  have HBX := Lib.hid (show ∀ o : Obj, ((w.alloc o).alloc (.cells #[.int .i64 2000] 3)).heap[w.heap.size + 1]? = some (.cells #[.int .i64 ((2000 : Nat) : Int)] 3 (0, 0)) from fun o => by
    have := heap_alloc_new (w.alloc o) (.cells #[.int .i64 2000] 3)
    simpa using this)
  clear hb2
  go_enter Try.func46, Try.ntmps46
  go_wp2_with fail
  refine (limited_any t 80 2000 (fun b => b < w.heap.size) _ _ (w.heap.size + 1) (HV2.out.later (HB2.out _ _)) (fun h => by have h' : w.heap.size + 1 < w.heap.size := h; omega) (by omega) (by omega) (HBX.out _)).mono ?_
  rintro e w1 ⟨rfl, l1, hb1, _, hg1⟩
  have q1 : Below w.heap.size w w1 := by
    refine (HB2.out (.cells #[.int .u8 k, .int .i64 n, .string s, .slice A l c] 24) (.cells #[.int .i64 2000] 3)).grown hg1 (by simp; omega) ?_
    intro g e; injection e with e; omega
  have hc : ∀ i, w1.cell? ⟨w.heap.size, i, none⟩ = ((w.alloc (.cells #[.int .u8 k, .int .i64 n, .string s, .slice A l c] 24)).alloc (.cells #[.int .i64 2000] 3)).cell? ⟨w.heap.size, i, none⟩ := fun i =>
    World.cell?_of_block (a := ⟨w.heap.size, i, none⟩) (hg1.block _ (by simp; omega) (fun e => by simp at e))
  have x0 : w1.cell? ⟨w.heap.size, 0, none⟩ = some (.int .u8 k) := (hc 0).trans (by simp)
  have x1 : w1.cell? ⟨w.heap.size, 1, none⟩ = some (.int .i64 n) := (hc 1).trans (by simp)
  have x2 : w1.cell? ⟨w.heap.size, 2, none⟩ = some (.string s) := (hc 2).trans (by simp)
  have x3 : w1.cell? ⟨w.heap.size, 3, none⟩ = some (.slice A l c) := (hc 3).trans (by simp)
  have HX1 := HX.out
  clear hc hg1 hb1
  cases ho : (lim t 80 2000).isSome
  · rw [ho] at HX1
    go_wp2_with fail
    go_ret
    exact ⟨by rw [HX1]; rfl, q1⟩
  · rw [ho] at HX1
    have HX2 := Lib.hid HX1
    clear HX1
    go_wp2_with fail
    refine (IsBlock_any t _ _ (HV.out.later q1)).mono ?_
    rintro e w2 ⟨rfl, bw2⟩
    go_wp2_with fail
    go_ret
    exact ⟨by rw [HX2.out]; simp, q1.trans (bw2.mono q1.size)⟩

end Go.Proofs.Ytldcjboignbfpaa
