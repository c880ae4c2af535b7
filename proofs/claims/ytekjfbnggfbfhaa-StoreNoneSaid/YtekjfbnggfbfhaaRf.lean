/-
  A range over an iterator that walks a tree ('for path, n := range ast.Walk(t)'): the law for the caller. No program stands here.
-/
import Derived.Test.YtekjfbnggfbfhaaRgI
import Derived.Test.YtekjfbnggfbfhaaTree
set_option linter.unusedSimpArgs false
set_option linter.unusedVariables false
namespace Go.Proofs.Ytekjfbnggfbfhaa
open Go Go.RowKit

/-- Nothing but the blocks of C has turned (and new ones are laid). -/
structure Chg (C : Nat → Prop) (w w' : World) : Prop where
  os : w'.os = w.os
  tape : w'.tape = w.tape
  output : w'.output = w.output
  size : w.heap.size ≤ w'.heap.size
  block : ∀ b, b < w.heap.size → ¬ C b → w'.heap[b]? = w.heap[b]?

section
variable {C C' : Nat → Prop} {w w' w'' : World}
theorem Chg.refl (C : Nat → Prop) (w : World) : Chg C w w := ⟨rfl, rfl, rfl, Nat.le_refl _, fun _ _ _ => rfl⟩
theorem Chg.trans (h : Chg C w w') (h' : Chg C w' w'') : Chg C w w'' :=
  ⟨h'.os.trans h.os, h'.tape.trans h.tape, h'.output.trans h.output, Nat.le_trans h.size h'.size, fun b hb hc => (h'.block b (Nat.lt_of_lt_of_le hb h.size) hc).trans (h.block b hb hc)⟩
theorem Chg.mono (h : Chg C w w') (hC : ∀ b, b < w.heap.size → C b → C' b) : Chg C' w w' := ⟨h.os, h.tape, h.output, h.size, fun b hb hc => h.block b hb fun h => hc (hC b hb h)⟩
/-- A second change, of blocks that may be new. -/
theorem Chg.trans2 (h : Chg C w w') (h' : Chg C' w' w'') (hC : ∀ b, b < w.heap.size → C' b → C b) : Chg C w w'' :=
  ⟨h'.os.trans h.os, h'.tape.trans h.tape, h'.output.trans h.output, Nat.le_trans h.size h'.size, fun b hb hc => (h'.block b (Nat.lt_of_lt_of_le hb h.size) fun h => hc (hC b hb h)).trans (h.block b hb hc)⟩
theorem Chg.of_below (h : Below w.heap.size w w') : Chg C w w' := ⟨h.os, h.tape, h.output, h.size, fun b hb _ => h.block b hb⟩
theorem Chg.alloc (h : Chg C w w') (o : Obj) : Chg C w (w'.alloc o) := h.trans (Chg.of_below ((Below.refl _ _).alloc (Nat.le_refl _) o))
theorem Chg.drew (h : Chg C w w') : Chg C w w'.drew := h.trans (Chg.of_below (Below.refl _ _).drew)
theorem Chg.setCell (h : Chg C w w') {p : Addr} (hp : C p.block ∨ w.heap.size ≤ p.block) (v : Value) : Chg C w (w'.setCell p v) :=
  have hs : Below p.block w' (w'.setCell p v) := (Below.refl _ _).setCell (Nat.le_refl _) v
  ⟨hs.os.trans h.os, hs.tape.trans h.tape, hs.output.trans h.output, Nat.le_trans h.size hs.size, fun b hb hc => by
    rw [Below.heap_setCell _ _ _ _ (by rintro rfl; rcases hp with hp | hp; exact hc hp; omega)]
    exact h.block b hb hc⟩
theorem Chg.below {B : Nat} (h : Chg C w w') (hB : B ≤ w.heap.size) (hC : ∀ b, C b → B ≤ b) : Below B w w' :=
  ⟨h.os, h.tape, h.output, h.size, fun b hb => h.block b (by omega) fun hc => by have := hC b hc; omega⟩
theorem Chg.putObj (w : World) (l : Nat) (o : Obj) : Chg (· = l) w (w.putObj l o) :=
  ⟨rfl, rfl, rfl, by simp [World.putObj], fun b _ hc => World.putObj_heap_other hc⟩
theorem Chg.keep {b : Nat} {o : Obj} (h : Chg C w w') (hb : w.heap[b]? = some o) (hc : ¬ C b) : w'.heap[b]? = some o :=
  (h.block b (Array.getElem?_eq_some_iff.1 hb).1 hc).trans hb
theorem Chg.row {row : Option Nat} (h : w.grownBy w' row) : Chg (fun b => row = some b) w w' := ⟨h.os, h.tape, h.output, h.size, fun b hb hc => h.block b hb fun e => hc e.symm⟩
end

/-- An iterator (function gf with what it has captured; it reads the blocks of R) that yields the nodes xs one by one, each with some slice beside it; it never turns a block of the caller's set C. -/
def WalkC (n : Nat) (P : Program) (gf : FuncId) (lb : Array Value) (xs : List T) (R : Nat → Prop) (W : World) : Prop :=
  ∀ (l : Nat) (J Jx : List T → (Nat → Prop) → World → Prop) (C : Nat → Prop) (W1 : World), l < W1.heap.size → (∀ b, C b → ¬ R b) → Chg C W W1 →
    (∀ pre C W W', J pre C W → Chg (fun b => ¬ C b) W W' → J pre C W') → (∀ pre C W, J pre C W → ∀ b, C b → b < W.heap.size) →
    (∀ pre x C W pv v, J pre C W → (pre ++ [x]) <+: xs → (∃ A m c, pv = .slice A m c) → NV W (fun b => l < b) x v →
      YieldAt (Fw none) (n - 1) P l #[pv, v] W fun e W' =>
        (e = .returned (.bool true) ∧ ∃ C', J (pre ++ [x]) C' W' ∧ (∀ b, C' b → C b ∨ W.heap.size ≤ b) ∧ Chg C W W') ∨
        (e = .returned (.bool false) ∧ ∃ C', Jx (pre ++ [x]) C' W' ∧ Chg C W W')) →
    J [] C W1 →
    CallsIn (Fw none) n P gf (#[.func (.yield l) #[] #[]] ++ lb) W1 fun e W' => (∃ v, e = .returned v) ∧ ((∃ C', J xs C' W' ∧ Chg C W1 W') ∨ (∃ pre C', Jx pre C' W' ∧ Chg C W1 W'))

/-- What a round's body leaves: it goes on, or it returns. -/
def rPost (I Ix : List T → (Nat → Prop) → World → Prop) (pre : List T) (C : Nat → Prop) (W : World) : Exit → Act → World → Prop
  | .normal, _, W' => ∃ C', I pre C' W' ∧ (∀ b, C' b → C b ∨ W.heap.size ≤ b) ∧ Chg C W W'
  | .ret, _, W' => ∃ C', Ix pre C' W' ∧ (∀ b, C' b → C b ∨ W.heap.size ≤ b) ∧ Chg C W W'
  | _, _, _ => False

theorem range_walk {n : Nat} {P : Program} {g : Operand} {ps : Array Tmp} {assign body : Code} {Q : Exit → Act → World → Prop} {a : Act} {w : World} {gf : FuncId} {lb : Array Value} {xs : List T} {R : Nat → Prop}
    (hg : a.eval g = .func (.func gf) #[] lb) (eg : ∀ args w, (callFunc gf args).run P w = .ok (.enter gf args) w) (hseq : WalkC (n - 1) P gf lb xs R w) (hps : ps.size = 2)
    (I Ix : List T → (Nat → Prop) → World → Prop) (C0 : Nat → Prop) (hI : ∀ pre C W W', I pre C W → Chg (fun b => ¬ C b) W W' → I pre C W') (hIx : ∀ pre C W W', Ix pre C W → Chg (fun b => ¬ C b) W W' → Ix pre C W')
    (hIlt : ∀ pre C W, I pre C W → ∀ b, C b → b < W.heap.size) (hIxlt : ∀ pre C W, Ix pre C W → ∀ b, C b → b < W.heap.size) (hC : ∀ b, C0 b → ¬ R b) (hRlt : ∀ b, R b → b < w.heap.size) (h0 : I [] C0 w)
    (hround : ∀ l pre x C W pv v, I pre C W → ¬ C l → w.heap.size ≤ l → l < W.heap.size → (pre ++ [x]) <+: xs → (∃ A m c, pv = .slice A m c) → NV W (fun b => l < b) x v →
      assign.wpIn (Fw (some l)) (n - 1 - 1) P (Exit.then (fun a1 W1 => Chg C W W1 ∧ ∀ W2, Chg (· = l) W1 W2 → body.wpIn (Fw (some l)) (n - 1 - 1) P (rPost I Ix (pre ++ [x]) C W2) a1 W2) (fun _ _ _ => False))
        { tmps := (ps.zip #[pv, v]).foldl (fun t (p, v) => t.setIfInBounds p v) a.tmps, defers := [] } W)
    (hdone : ∀ D C W', w.heap.size ≤ D → I xs C W' → Chg C0 w W' → W'.heap[D]? = some (.deferred (some [])) → Q .normal { a with defers := { target := .collected D, args := #[] } :: a.defers } W')
    (hstop : ∀ D pre C W', w.heap.size ≤ D → Ix pre C W' → Chg C0 w W' → W'.heap[D]? = some (.deferred (some [])) → Code.ret.wpIn (Fw none) n P Q { a with defers := { target := .collected D, args := #[] } :: a.defers } W') :
    (Code.rangeFunc g ps assign body).wpIn (Fw none) n P Q a w := by
  refine wpIn_rangeFunc ?_
  intro fn hfn
  obtain ⟨rec, hrec⟩ : ∃ rec : LoopState → Option Code → Loop, rec = fun st pe => { state := st, pending := pe, fn, tmps := a.tmps, params := ps, assign, body, defers := w.heap.size } := ⟨_, rfl⟩
  obtain ⟨W1, hW1⟩ : ∃ W1, (w.alloc (.deferred (some []))).alloc (.loop (rec .ready none)) = W1 := ⟨_, rfl⟩
  have hL1 : W1.heap[w.heap.size + 1]? = some (.loop (rec .ready none)) := by
    rw [← hW1]; have := World.alloc_heap_new (w.alloc (.deferred (some []))) (.loop (rec .ready none)); rwa [World.size_alloc] at this
  have hK1 : W1.heap[w.heap.size]? = some (.deferred (some [])) := by
    rw [← hW1]; exact (Below.heap_alloc _ _ _ (by simp)).trans (World.alloc_heap_new w _)
  have hb1 : Below w.heap.size w W1 := by rw [← hW1]; exact ((Below.refl _ w).alloc (Nat.le_refl _) _).alloc (by simp) _
  have hI1 : I [] C0 W1 := hI _ _ _ _ h0 (Chg.of_below hb1)
  have hC0lt : ∀ b, C0 b → b < w.heap.size := hIlt _ _ _ h0
  refine ⟨w.heap.size + 1, [{ target := .collected w.heap.size, args := #[] }], W1, { target := .fn (.func gf) lb, args := #[.func (.yield (w.heap.size + 1)) #[] #[]] }, W1, gf,
    #[.func (.yield (w.heap.size + 1)) #[] #[]] ++ lb, W1, ?_, ?_, (fun _ _ => trivial), ?_, (fun e => by cases e), ?_⟩
  · rw [← hW1, hrec]; exact run_enterLoop_outer _ _ _ _ _
  · simp only [resolve, hg]
    simp [go_sem]
  · simp [invoke, go_sem, eg]
  · refine (hseq (w.heap.size + 1)
      (fun pre C' W => ∃ C, (∀ b, C' b ↔ C b ∨ b = w.heap.size + 1 ∨ b = w.heap.size) ∧ I pre C W ∧ ¬ C (w.heap.size + 1) ∧ ¬ C w.heap.size ∧ (∀ b, C b → b < w.heap.size → C0 b) ∧ W.heap[w.heap.size + 1]? = some (.loop (rec .ready none)) ∧ W.heap[w.heap.size]? = some (.deferred (some [])))
      (fun pre C' W => ∃ C, Ix pre C W ∧ ¬ C (w.heap.size + 1) ∧ W.heap[w.heap.size + 1]? = some (.loop (rec .done (some .ret))) ∧ W.heap[w.heap.size]? = some (.deferred (some [])))
      (fun b => C0 b ∨ b = w.heap.size + 1 ∨ b = w.heap.size) W1 (Array.getElem?_eq_some_iff.1 hL1).1 ?_ (Chg.of_below hb1) ?_ ?_ ?_ ⟨C0, fun _ => Iff.rfl, hI1, (fun h => by have := hC0lt _ h; omega), (fun h => by have := hC0lt _ h; omega), (fun _ h _ => h), hL1, hK1⟩).mono ?_
    · intro b hb hr
      have := hRlt b hr
      rcases hb with hb | hb | hb
      · exact hC b hb hr
      · omega
      · omega
    · rintro pre C' W W' ⟨C, hC', hi, h1, h2, h3, hl, hk⟩ hch
      refine ⟨C, hC', hI _ _ _ _ hi (hch.mono fun b _ hb hc => hb ((hC' b).2 (.inl hc))), h1, h2, h3, hch.keep hl (fun h => h ((hC' _).2 (.inr (.inl rfl)))), hch.keep hk (fun h => h ((hC' _).2 (.inr (.inr rfl))))⟩
    · rintro pre C' W ⟨C, hC', hi, h1, h2, h3, hl, hk⟩ b hb
      rcases (hC' b).1 hb with hb | rfl | rfl
      · exact hIlt _ _ _ hi b hb
      · exact (Array.getElem?_eq_some_iff.1 hl).1
      · exact (Array.getElem?_eq_some_iff.1 hk).1
    · rintro pre x C' W pv v ⟨C, hC', hi, h1, h2, h3, hl, hk⟩ hpre hpv hn
      have hlt : w.heap.size + 1 < W.heap.size := (Array.getElem?_eq_some_iff.1 hl).1
      have hy := run_yield (P := P) (args := #[pv, v]) hl (by rw [hrec]; exact hps.symm)
      rw [hrec] at hy
      refine ⟨fn, _, assign, body, hy, roundIn_of_wpIn hfn (wpIn_mono (hround (w.heap.size + 1) pre x C W pv v hi h1 (by omega) hlt hpre hpv hn) ?_)⟩
      rintro e a1 Wa hea
      cases e with
      | normal =>
        obtain ⟨hca, hbody⟩ := hea
        have hl1 := hca.keep hl h1
        have hk1 := hca.keep hk h2
        have hlt1 : w.heap.size + 1 < Wa.heap.size := (Array.getElem?_eq_some_iff.1 hl1).1
        refine ⟨_, run_beginRound hl1 (by rw [hrec]), ?_⟩
        have hl2 : (Wa.putObj (w.heap.size + 1) (.loop { rec .ready none with state := .busy })).heap[w.heap.size + 1]? = some (.loop { rec .ready none with state := .busy }) := World.putObj_heap_same hlt1
        have hk2 : (Wa.putObj (w.heap.size + 1) (.loop { rec .ready none with state := .busy })).heap[w.heap.size]? = some (.deferred (some [])) := (World.putObj_heap_other (by omega)).trans hk1
        have hc2 : Chg (fun b => C b ∨ b = w.heap.size + 1) W (Wa.putObj (w.heap.size + 1) (.loop { rec .ready none with state := .busy })) :=
          (hca.mono fun _ _ h => .inl h).trans2 (Chg.putObj Wa (w.heap.size + 1) _) (fun b _ h => .inr h)
        refine wpIn_mono (hbody _ (Chg.putObj _ _ _)) ?_
        have fin : ∀ (jump : Option Code) (W3 : World), Chg C (Wa.putObj (w.heap.size + 1) (.loop { rec .ready none with state := .busy })) W3 →
            (Instr.endRound (w.heap.size + 1) jump).run P W3 = .ok (.bool jump.isNone) (W3.putObj (w.heap.size + 1) (.loop (rec (if jump.isNone then .ready else .done) jump))) ∧
            (W3.putObj (w.heap.size + 1) (.loop (rec (if jump.isNone then .ready else .done) jump))).heap[w.heap.size + 1]? = some (.loop (rec (if jump.isNone then .ready else .done) jump)) ∧
            (W3.putObj (w.heap.size + 1) (.loop (rec (if jump.isNone then .ready else .done) jump))).heap[w.heap.size]? = some (.deferred (some [])) ∧
            Chg C' W (W3.putObj (w.heap.size + 1) (.loop (rec (if jump.isNone then .ready else .done) jump))) := fun jump W3 hk3 => by
          have hl3 := hk3.keep hl2 h1
          have := run_endRound (P := P) jump hl3
          rw [hrec] at this ⊢
          refine ⟨this, World.putObj_heap_same (Array.getElem?_eq_some_iff.1 hl3).1, (World.putObj_heap_other (by omega)).trans (hk3.keep hk2 h2), ?_⟩
          have hA : Chg (fun b => C b ∨ b = w.heap.size + 1) W W3 := by
            have := hc2
            rw [hrec] at this hk3
            exact this.trans2 hk3 (fun b _ h => .inl h)
          exact (hA.trans2 (Chg.putObj W3 (w.heap.size + 1) _) (fun b _ h => .inr h)).mono fun b _ hb => (hC' b).2 (by rcases hb with hb | hb; exact .inl hb; exact .inr (.inl hb))
        rintro e3 a3 W3 hp
        have hsz : W.heap.size ≤ (Wa.putObj (w.heap.size + 1) (.loop { rec .ready none with state := .busy })).heap.size := hc2.size
        cases e3 with
        | normal =>
          obtain ⟨C3, hi3, hC3', hch3⟩ := hp
          have hC3 : ∀ b, C3 b → C b ∨ W.heap.size ≤ b := fun b h => (hC3' b h).imp id fun h' => Nat.le_trans hsz h'
          obtain ⟨hr, hl4, hk4, hchg⟩ := fin none W3 hch3
          have hn3 : ¬ C3 (w.heap.size + 1) := fun h => by rcases hC3 _ h with h | h; exact h1 h; omega
          have hn4 : ¬ C3 w.heap.size := fun h => by rcases hC3 _ h with h | h; exact h2 h; omega
          refine ⟨_, _, hr, .inl ⟨rfl, fun b => C3 b ∨ b = w.heap.size + 1 ∨ b = w.heap.size, ⟨C3, fun _ => Iff.rfl, hI _ _ _ _ hi3 ((Chg.putObj _ _ _).mono fun b _ hb hc => hn3 (hb ▸ hc)), hn3, hn4, ?_, hl4, hk4⟩, ?_, hchg⟩⟩
          · intro b hb hlt'
            rcases hC3 b hb with hb | hb
            · exact h3 b hb hlt'
            · omega
          · intro b hb
            rcases hb with hb | hb
            · rcases hC3 b hb with hb | hb
              · exact .inl ((hC' b).2 (.inl hb))
              · exact .inr (by omega)
            · exact .inl ((hC' b).2 (.inr hb))
        | ret =>
          obtain ⟨C3, hi3, hC3', hch3⟩ := hp
          have hC3 : ∀ b, C3 b → C b ∨ W.heap.size ≤ b := fun b h => (hC3' b h).imp id fun h' => Nat.le_trans hsz h'
          obtain ⟨hr, hl4, hk4, hchg⟩ := fin (some .ret) W3 hch3
          have hn3 : ¬ C3 (w.heap.size + 1) := fun h => by rcases hC3 _ h with h | h; exact h1 h; omega
          exact ⟨_, _, hr, .inr ⟨rfl, fun _ => True, ⟨C3, hIx _ _ _ _ hi3 ((Chg.putObj _ _ _).mono fun b _ hb hc => hn3 (hb ▸ hc)), hn3, hl4, hk4⟩, hchg⟩⟩
        | exit id => exact hp.elim
        | goto t => exact hp.elim
        | panic ch => exact hp.elim
        | outgrown => exact hp.elim
      | exit id => exact hea.elim
      | goto t => exact hea.elim
      | ret => exact hea.elim
      | panic ch => exact hea.elim
      | outgrown => exact hea.elim
    · rintro e W2 ⟨⟨v, rfl⟩, (⟨C', ⟨C, hC', hi, h1, h2, h3, hl, hk⟩, hch⟩ | ⟨pre, C', ⟨C, hi, h1, hl, hk⟩, hch⟩)⟩
      all_goals
        have hw2 : Chg C0 w W2 := ((Chg.of_below hb1).trans2 hch fun b hb hc => by rcases hc with hc | hc | hc; exact hc; omega; omega)
        have hfin : ∀ o, Chg C0 w (W2.putObj (w.heap.size + 1) o) := fun o => hw2.trans2 (Chg.putObj W2 (w.heap.size + 1) o) fun b hb hc => by omega
      · exact ⟨none, _, by have := run_endLoop (P := P) hl (by rw [hrec]; simp); rw [hrec] at this; exact this, hdone _ C _ (Nat.le_refl _) (hI _ _ _ _ hi ((Chg.putObj W2 (w.heap.size + 1) _).mono fun b _ (hb : b = w.heap.size + 1) hc => h1 (hb ▸ hc))) (hfin _) ((World.putObj_heap_other (by omega)).trans hk)⟩
      · exact ⟨some .ret, _, by have := run_endLoop (P := P) hl (by rw [hrec]; simp); rw [hrec] at this; exact this, hstop _ pre C _ (Nat.le_refl _) (hIx _ _ _ _ hi ((Chg.putObj W2 (w.heap.size + 1) _).mono fun b _ (hb : b = w.heap.size + 1) hc => h1 (hb ▸ hc))) (hfin _) ((World.putObj_heap_other (by omega)).trans hk)⟩

end Go.Proofs.Ytekjfbnggfbfhaa
