/-
  StoreLimits: the walk.
-/
import Derived.Test.YtekjfbnggfbfhaaLd
namespace Go.Proofs.Ytekjfbnggfbfhaa
open Go Go.RowKit

def vS : VD := ⟨⟨#[115]⟩, 3, 0⟩
def ssL (a b c : Nat) : SS := ⟨[[0], List.replicate a 0], List.replicate b 0, List.replicate c 0⟩
/-- The store whose stack has a zeros, and whose tapes have b and c. -/
def sL (a b c : Nat) : ST := newS [vX, vS] (ssL a b c)
def xN : T := .nd 2 0 ⟨#[120]⟩ []
/-- The statement of each kind. -/
def kL : Nat → Int
  | 0 => 44
  | 1 => 47
  | _ => 48
def gL : Nat → ByteArray
  | 0 => ⟨#[115]⟩
  | _ => ⟨#[]⟩
def tL (q : Nat) : T := .nd (kL q) 0 (gL q) [xN]
/-- The store with j places left, for the statement q; r: the places left at the beginning. -/
def rL (r : Nat) : Nat → Nat → ST
  | 0, j => sL (1000 - j) (4096 - r) (4096 - r)
  | 1, j => sL (1000 - r) (4096 - j) (4096 - r)
  | _, j => sL (1000 - r) (4096 - r) (4096 - j)
def fL : FR := ⟨[vX, vS], [0, 1], 0⟩
theorem atLX : fL.at ⟨#[120]⟩ = some 0 := by decide +kernel
theorem atLS : fL.at ⟨#[115]⟩ = some 1 := by decide +kernel
theorem numX (a b c : Nat) : (sL a b c).num ⟨#[120]⟩ = some 0 := by
  rw [ST.num, show (sL a b c).cur = fL from rfl, atLX]; rfl
theorem numS (a b c : Nat) : (sL a b c).num ⟨#[115]⟩ = some 1 := by
  rw [ST.num, show (sL a b c).cur = fL from rfl, atLS]; rfl
theorem indX (look : ByteArray → Option (List Int)) : indE look xN = (0, 0) := by
  rw [indE, if_pos (by decide +kernel), if_pos (by decide +kernel)]
theorem sL_ext {a b c : Nat} {S : ST} (h1 : S.base = ⟨[vX, vS], [0, 1], 0⟩) (h2 : S.calls = []) (h3 : ∀ j, S.cell j = [[0], List.replicate a 0].getD j []) (h4 : S.nc = 2) (h5 : S.tin = List.replicate b 0) (h6 : S.tout = List.replicate c 0) : S = sL a b c := by
  obtain ⟨x1, x2, x3, x4, x5, x6⟩ := S
  simp only at h1 h2 h3 h4 h5 h6
  subst h1 h2 h4 h5 h6
  have : x3 = fun i => (ssL a b c).cells.getD i [] := funext h3
  subst this
  rfl
theorem flt44 : fltE [vX, vS] (.nd 44 0 ⟨#[115]⟩ [xN]) = 0 := by decide +kernel
theorem flt45 : fltE [vX, vS] (.nd 45 0 ⟨#[115]⟩ [xN]) = 0 := by decide +kernel
theorem fltt (k : Int) (hk : k = 46 ∨ k = 47 ∨ k = 48 ∨ k = 49) : fltE [vX, vS] (.nd k 0 ⟨#[]⟩ [xN]) = 0 := by rcases hk with rfl | rfl | rfl | rfl <;> decide +kernel
theorem do44 (a b c : Nat) : doE (sL a b c) (.nd 44 0 ⟨#[115]⟩ [xN]) = if 1000 ≤ a then (5, sL a b c) else (0, sL (a + 1) b c) := by
  rw [doE, if_neg (by decide +kernel), if_neg (by decide +kernel), if_neg (by decide +kernel), if_neg (by rw [show (sL a b c).cur.vs = [vX, vS] from rfl, flt44]; decide)]
  show exec1 (sL a b c) 44 ⟨#[115]⟩ xN nil0 (indE (sL a b c).look xN) (0, 0) = _
  rw [indX, exec1, if_neg (by decide), exec2, if_neg (by decide), show xN.s = ⟨#[120]⟩ from rfl, numX]
  dsimp only
  rw [if_pos ⟨by decide, by show (0 : Int) < 1; decide⟩, exec3, if_neg (by decide), if_neg (by decide), if_pos (by decide), numS]
  dsimp only
  rw [moveE, if_pos rfl, show ((sL a b c).cell 1).length = a by simp [sL, newS, ssL]]
  split
  · rfl
  · refine Prod.ext rfl ?_
    dsimp only
    refine sL_ext rfl rfl (fun j => ?_) rfl rfl rfl
    match j with
    | 0 => rfl
    | 1 => simp [ST.put, ST.setL, sL, newS, ssL, ST.el, List.replicate_succ']
    | j + 2 => simp [ST.put, ST.setL, sL, newS, ssL]
theorem do45 (a b c : Nat) (ha : 0 < a) : doE (sL a b c) (.nd 45 0 ⟨#[115]⟩ [xN]) = (0, sL (a - 1) b c) := by
  rw [doE, if_neg (by decide +kernel), if_neg (by decide +kernel), if_neg (by decide +kernel), if_neg (by rw [show (sL a b c).cur.vs = [vX, vS] from rfl, flt45]; decide)]
  show exec1 (sL a b c) 45 ⟨#[115]⟩ xN nil0 (indE (sL a b c).look xN) (0, 0) = _
  rw [indX, exec1, if_neg (by decide), exec2, if_neg (by decide), show xN.s = ⟨#[120]⟩ from rfl, numX]
  dsimp only
  rw [if_pos ⟨by decide, by show (0 : Int) < 1; decide⟩, exec3, if_neg (by decide), if_neg (by decide), if_pos (by decide), numS]
  dsimp only
  rw [moveE, if_neg (by decide), show ((sL a b c).cell 1).length = a by simp [sL, newS, ssL], if_neg (by omega), if_neg (by simp [ST.el, sL, newS, ssL])]
  refine Prod.ext rfl ?_
  dsimp only
  refine sL_ext rfl rfl (fun j => ?_) rfl rfl rfl
  match j with
  | 0 =>
    have e : a - 1 < a := by omega
    simp [ST.put, ST.setL, sL, newS, ssL, ST.el, e]
  | 1 => simp [ST.put, ST.setL, sL, newS, ssL, ST.el]
  | j + 2 => simp [ST.put, ST.setL, sL, newS, ssL]
theorem do_tr (k : Int) (hk : k = 46 ∨ k = 47 ∨ k = 48 ∨ k = 49) (a b c : Nat) : doE (sL a b c) (.nd k 0 ⟨#[]⟩ [xN]) = transE (sL a b c) k 0 0 := by
  have hS : isS (.nd k 0 ⟨#[]⟩ [xN]) ≠ false := by rcases hk with rfl | rfl | rfl | rfl <;> decide +kernel
  have h1 : ¬ (T.nd k 0 ⟨#[]⟩ [xN]).k = 56 := by rcases hk with rfl | rfl | rfl | rfl <;> decide
  have h2 : ¬ basB (T.nd k 0 ⟨#[]⟩ [xN]).k = false := by rcases hk with rfl | rfl | rfl | rfl <;> decide
  rw [doE, if_neg hS, if_neg h1, if_neg h2, if_neg (by rw [show (sL a b c).cur.vs = [vX, vS] from rfl, fltt k hk]; decide)]
  have hr : rightE (sL a b c) k nil0 = (0, 0) := by rcases hk with rfl | rfl | rfl | rfl <;> rfl
  show exec1 (sL a b c) k ⟨#[]⟩ xN nil0 (indE (sL a b c).look xN) (rightE (sL a b c) k nil0) = _
  rw [indX, hr, exec1, if_neg (by decide), exec2, if_neg (by decide), show xN.s = ⟨#[120]⟩ from rfl, numX]
  dsimp only
  rw [if_pos ⟨by decide, by show (0 : Int) < 1; decide⟩, exec3, if_neg (by omega), if_neg (by omega), if_neg (by omega)]
  rfl
theorem do47 (a b c : Nat) : doE (sL a b c) (.nd 47 0 ⟨#[]⟩ [xN]) = if 4096 ≤ b then (5, sL a b c) else (0, sL a (b + 1) c) := by
  rw [do_tr 47 (by simp), transE, if_neg (by decide), if_neg (by decide), if_pos rfl, show (sL a b c).tin.length = b by simp [sL, newS, ssL]]
  split
  · rfl
  · refine Prod.ext rfl ?_
    dsimp only
    refine sL_ext rfl rfl (fun j => ?_) rfl (by simp [ST.put, ST.setL, sL, newS, ssL, ST.el, List.replicate_succ]) rfl
    match j with
    | 0 => rfl
    | j + 1 => simp [ST.put, ST.setL, sL, newS, ssL]
theorem do46 (a b c : Nat) (hb : 0 < b) : doE (sL a b c) (.nd 46 0 ⟨#[]⟩ [xN]) = (0, sL a (b - 1) c) := by
  obtain ⟨b, rfl⟩ : ∃ n, b = n + 1 := ⟨b - 1, by omega⟩
  rw [do_tr 46 (by simp), transE, if_pos rfl, show (sL a (b + 1) c).tin = 0 :: List.replicate b 0 by simp [sL, newS, ssL, List.replicate_succ]]
  dsimp only
  rw [if_neg (by simp [ST.el, sL, newS, ssL])]
  refine Prod.ext rfl ?_
  dsimp only
  refine sL_ext rfl rfl (fun j => ?_) rfl rfl rfl
  match j with
  | 0 => rfl
  | j + 1 => simp [ST.put, ST.setL, sL, newS, ssL]
theorem do48 (a b c : Nat) : doE (sL a b c) (.nd 48 0 ⟨#[]⟩ [xN]) = if 4096 ≤ c then (5, sL a b c) else (0, sL a b (c + 1)) := by
  rw [do_tr 48 (by simp), transE, if_neg (by decide), if_neg (by decide), if_neg (by decide), show (sL a b c).tout.length = c by simp [sL, newS, ssL]]
  split
  · rfl
  · refine Prod.ext rfl ?_
    dsimp only
    refine sL_ext rfl rfl (fun j => ?_) rfl rfl (by simp [ST.put, ST.setL, sL, newS, ssL, ST.el, List.replicate_succ'])
    match j with
    | 0 => rfl
    | j + 1 => simp [ST.put, ST.setL, sL, newS, ssL]
theorem do49 (a b c : Nat) (hc : 0 < c) : doE (sL a b c) (.nd 49 0 ⟨#[]⟩ [xN]) = (0, sL a b (c - 1)) := by
  rw [do_tr 49 (by simp), transE, if_neg (by decide), if_pos rfl, if_neg (by simp [sL, newS, ssL]; omega), if_neg (by simp [ST.el, sL, newS, ssL])]
  refine Prod.ext rfl ?_
  dsimp only
  refine sL_ext rfl rfl (fun j => ?_) rfl rfl (by simp [ST.put, ST.setL, sL, newS, ssL, List.dropLast_replicate])
  match j with
  | 0 => simp [ST.put, ST.setL, sL, newS, ssL, List.getLast?_replicate]; split <;> rfl
  | j + 1 => simp [ST.put, ST.setL, sL, newS, ssL]
theorem do_full (r q : Nat) : doE (rL r q 0) (tL q) = (5, rL r q 0) := by
  match q with
  | 0 => exact (do44 _ _ _).trans (if_pos (by omega))
  | 1 => exact (do47 _ _ _).trans (if_pos (by omega))
  | q + 2 => exact (do48 _ _ _).trans (if_pos (by omega))
theorem do_room (r q j : Nat) (hj : j < 1000) : doE (rL r q (j + 1)) (tL q) = (0, rL r q j) := by
  match q with
  | 0 => exact (do44 _ _ _).trans ((if_neg (by omega)).trans (by rw [show 1000 - (j + 1) + 1 = 1000 - j by omega]; rfl))
  | 1 => exact (do47 _ _ _).trans ((if_neg (by omega)).trans (by rw [show 4096 - (j + 1) + 1 = 4096 - j by omega]; rfl))
  | q + 2 => exact (do48 _ _ _).trans ((if_neg (by omega)).trans (by rw [show 4096 - (j + 1) + 1 = 4096 - j by omega]; rfl))
theorem undo_full (r q : Nat) : undoE (rL r q 0) (tL q) = (0, rL r q 1) := by
  match q with
  | 0 => exact do45 _ _ _ (by omega)
  | 1 => exact do46 _ _ _ (by omega)
  | q + 2 => exact do49 _ _ _ (by omega)
theorem fitL (r : Nat) : fitB [vX, vS] (ssL (1000 - r) (4096 - r) (4096 - r)) = true := by
  simp [fitB, svB, vdB, fitsL, fit1, fixE, vX, vS, ssL]
theorem rL_start (r q : Nat) : newS [vX, vS] (ssL (1000 - r) (4096 - r) (4096 - r)) = rL r q r := by
  match q with
  | 0 => rfl
  | 1 => rfl
  | q + 2 => rfl
theorem made_int (n : Nat) : madeCells (Value.int .i64 0).cells (n * 1) = (flatI (List.replicate n 0)).toArray := by
  apply Array.ext'
  apply List.ext_getElem
  · rw [Array.length_toList, size_madeCells]; simp [flatI]
  · intro i h1 h2
    have e : i % 1 = 0 := by omega
    simp [madeCells, flatI, Value.cells, e]
set_option maxRecDepth 100000 in
theorem bMake (n : Nat) (hn : n ≤ 4096) (w : World) : (Instr.makeSlice 26 (.int .i64 (n : Int)) (.int .i64 (n : Int))).run Try.prog w = .ok (.slice (some ⟨w.heap.size, 0, none⟩) n n) (w.alloc (.cells (flatI (List.replicate n 0)).toArray 3)) := by
  have h := intInf
  obtain ⟨i, hi, hz⟩ := Option.map_eq_some_iff.1 h
  injection hz with h1 h2
  injection h2 with h2 h3
  have hsc : (4096 : Nat) ≤ 9223372036854775807 := by decide
  have := run_make_rowN (P := Try.prog) 26 3 i (.int .i64 0) Try.underlying26 hi h1 .i64 .i64 n n (Nat.le_refl _) (by rw [h3]; omega) (Nat.le_trans hn hsc) w
  rw [h2, made_int] at this
  exact this

theorem bSV2 (a0 a1 a2 b0 b1 b2 : Value) (w : World) : (Instr.buildSlice 25 2 #[(0, .agg #[a0, a1, a2]), (1, .agg #[b0, b1, b2])]).run Try.prog w = .ok (.slice (some ⟨w.heap.size, 0, none⟩) 2 2) (w.alloc (.cells #[a0, a1, a2, b0, b1, b2] 24)) := by kernel_rfl
theorem bII2 (A B : Option Addr) (l c m d : Nat) (w : World) : (Instr.buildSlice 27 2 #[(0, .slice A l c), (1, .slice B m d)]).run Try.prog w = .ok (.slice (some ⟨w.heap.size, 0, none⟩) 2 2) (w.alloc (.cells #[.slice A l c, .slice B m d] 26)) := by kernel_rfl
theorem bS3 (A B C : Option Addr) (l c m d n e : Nat) (w : World) : (Instr.build 29 #[(0, .slice A l c), (1, .slice B m d), (2, .slice C n e)]).run Try.prog w = .ok (.agg #[.slice A l c, .slice B m d, .slice C n e]) w := by kernel_rfl
theorem bN3 (A : Option Addr) (l c : Nat) (w : World) : (Instr.build 36 #[(3, .slice A l c)]).run Try.prog w = .ok (nv 0 0 ⟨#[]⟩ A l c) w := by kernel_rfl
theorem bB3 (a b c : Int) (w : World) : (Instr.buildSlice 38 3 #[(0, .int .u8 a), (1, .int .u8 b), (2, .int .u8 c)]).run Try.prog w = .ok (.slice (some ⟨w.heap.size, 0, none⟩) 3 3) (w.alloc (.cells #[.int .u8 a, .int .u8 b, .int .u8 c] 5)) := by kernel_rfl
section
variable {P : Program} {ops : Array Oper} {Q : Exit → Act → World → Prop} {md : Region.Mode} {S1 S2 : World → Prop} {k : Nat}
/-- A region that draws its order, by a condition on what has come up, the slots and the world. -/
theorem wpG_inv (I : Nat → Array Bool → Act → World → Prop) (hS : ∀ w, S1 w ∧ S2 w)
    (h : ∀ f l a w, I f l a w → wpG P md ops Q S1 S2 k f l a w ∨ ∃ f', f = f' + 1 ∧ Region.ready md ops l ≠ [] ∧ ∀ i ∈ Region.ready md ops l, wpOp P ops Q i (fun a' w' => I f' (l.setIfInBounds i true) a' w') a w) :
    ∀ f l a w, I f l a w → wpG P md ops Q S1 S2 k f l a w
  | 0, l, a, w, hi => by
    rcases h 0 l a w hi with h1 | ⟨f', h1, _⟩
    · exact h1
    · omega
  | f + 1, l, a, w, hi => by
    rcases h (f + 1) l a w hi with h1 | ⟨f', h1, h2, h3⟩
    · exact h1
    · obtain rfl : f = f' := by omega
      exact ⟨fun h0 => absurd h0 h2, fun i hm => wpOp_mono (fun a' w' h' => ⟨⟨(hS w').1, fun _ => (hS w').2⟩, wpG_inv I hS h f _ a' w' h'⟩) (h3 i hm)⟩
theorem wpG_inv0 {a0 : Act} {f0 : Nat} {l0 : Array Bool} {w0 : World} (I : Act → Nat → Array Bool → Act → World → Prop) (hS : ∀ w, S1 w ∧ S2 w)
    (h : ∀ A, A = a0 → ∀ f l a w, I A f l a w → wpG P md ops Q S1 S2 k f l a w ∨ ∃ f', f = f' + 1 ∧ Region.ready md ops l ≠ [] ∧ ∀ i ∈ Region.ready md ops l, wpOp P ops Q i (fun a' w' => I A f' (l.setIfInBounds i true) a' w') a w)
    (h0 : I a0 f0 l0 a0 w0) : wpG P md ops Q S1 S2 k f0 l0 a0 w0 := wpG_inv (I a0) hS (h a0 rfl) _ _ _ _ h0
end
/-- A row of n zeros in a block of its own. -/
def SRw (w : World) (S : Nat → Prop) (n : Nat) (v : Value) : Prop := ∃ b, v = .slice (some ⟨b, 0, none⟩) n n ∧ RowI w S (some ⟨b, 0, none⟩) (List.replicate n 0)
/-- What the slots hold once they are set; S: the blocks that they may name. -/
structure LimI (k : Nat) (w : World) (S : Nat → Prop) (l0 l3 l4 l7 l10 l11 : Bool) (v20 v23 v24 v27 v30 v31 : Value) : Prop where
  f0 : l0 = true → SRw w S 1 v20
  f3 : l3 = true → SRw w S (1000 - k) v23
  f4 : l4 = true → ∃ b, v24 = .slice (some ⟨b, 0, none⟩) 2 2 ∧ RowII w S (some ⟨b, 0, none⟩) [List.replicate 1 0, List.replicate (1000 - k) 0]
  f7 : l7 = true → SRw w S (4096 - k) v27
  f10 : l10 = true → SRw w S (4096 - k) v30
  f11 : l11 = true → SV w S (ssL (1000 - k) (4096 - k) (4096 - k)) v31
theorem SRw.keep {w w' : World} {S S' : Nat → Prop} {n : Nat} {v : Value} (h : SRw w S n v) (hS : ∀ b, S b → b < w.heap.size → S' b) (hb : ∀ b, S b → b < w.heap.size → w'.heap[b]? = w.heap[b]?) : SRw w' S' n v := by
  obtain ⟨b, h1, h2⟩ := h
  exact ⟨b, h1, h2.keep hS hb⟩
theorem LimI.keep {k : Nat} {w w' : World} {S S' : Nat → Prop} {l0 l3 l4 l7 l10 l11 : Bool} {v20 v23 v24 v27 v30 v31 : Value} (h : LimI k w S l0 l3 l4 l7 l10 l11 v20 v23 v24 v27 v30 v31) (hS : ∀ b, S b → b < w.heap.size → S' b) (hb : Below w.heap.size w w') : LimI k w' S' l0 l3 l4 l7 l10 l11 v20 v23 v24 v27 v30 v31 := by
  have hk : ∀ b, S b → b < w.heap.size → w'.heap[b]? = w.heap[b]? := fun b _ hlt => hb.block b hlt
  refine ⟨fun e => (h.f0 e).keep hS hk, fun e => (h.f3 e).keep hS hk, fun e => ?_, fun e => (h.f7 e).keep hS hk, fun e => (h.f10 e).keep hS hk, fun e => (h.f11 e).keep hS hk⟩
  obtain ⟨b, h1, h2⟩ := h.f4 e
  exact ⟨b, h1, h2.keep hS hk⟩
theorem rows_new (w : World) (S : Nat → Prop) (n : Nat) (E : TypeId) (hS : S w.heap.size) : SRw (w.alloc (.cells (flatI (List.replicate n 0)).toArray E)) S n (.slice (some ⟨w.heap.size, 0, none⟩) n n) := by
  refine ⟨_, rfl, fun i hi => ?_⟩
  obtain ⟨a, h1, _, h3, h4⟩ := rowI_blk (W := w.alloc (.cells (flatI (List.replicate n 0)).toArray E)) (xs := List.replicate n 0) (heap_alloc_new w _) (by intro x hx; have := List.eq_of_mem_replicate hx; subst this; exact ⟨by decide, by decide⟩) i hi
  injection h1 with h1
  subst h1
  exact ⟨_, rfl, hS, h3, h4⟩
/-- Two rows in a block. -/
theorem rowII2 {W : World} {S : Nat → Prop} {b : Nat} {E : TypeId} {l1 l2 : List Int} {A1 A2 : Option Addr} {c1 c2 : Nat} (h : W.heap[b]? = some (.cells #[.slice A1 l1.length c1, .slice A2 l2.length c2] E (0, 0))) (hS : S b)
    (r1 : RowI W S A1 l1) (r2 : RowI W S A2 l2) (h1 : l1.length ≤ c1) (h2 : l2.length ≤ c2) : RowII W S (some ⟨b, 0, none⟩) [l1, l2] := fun i hi => by
  match i, hi with
  | 0, _ => exact ⟨⟨b, 0, none⟩, A1, c1, rfl, hS, cell_of_blk h rfl, h1, r1⟩
  | 1, _ => exact ⟨⟨b, 0, none⟩, A2, c2, rfl, hS, cell_of_blk h rfl, h2, r2⟩
def objA : Obj := .cells #[.int .u8 2, .int .i64 0, .string ⟨#[120]⟩, .slice none 0 0] 36 (0, 0)
def objB (q bA : Nat) : Obj := .cells #[.int .u8 (kL q), .int .i64 0, .string (gL q), .slice (some ⟨bA, 0, none⟩) 1 1] 36 (0, 0)
/-- Between two calls: the store, and the statement, which lies in memory of its own. -/
structure LS (q n0 sb bA bB : Nat) (W0 W : World) (S : ST) : Prop where
  bl : Below n0 W0 W
  kA : W.heap[bA]? = some objA
  kB : W.heap[bB]? = some (objB q bA)
  sr : ∃ P : Ph, SR W n0 P S ∧ P.sb = sb ∧ ¬ OwnB (rows P S) bA ∧ ¬ OwnB (rows P S) bB
theorem LS.node {q n0 sb bA bB : Nat} {W0 W : World} {S : ST} (h : LS q n0 sb bA bB W0 W S) : NV W Any (tL q) (nv (kL q) 0 (gL q) (some ⟨bA, 0, none⟩) 1 1) := by
  have hf : Fld (kL q) 0 (gL q) := by
    match q with
    | 0 => exact ⟨⟨by decide, by decide⟩, ⟨by decide, by decide⟩, by decide⟩
    | 1 => exact ⟨⟨by decide, by decide⟩, ⟨by decide, by decide⟩, by decide⟩
    | q + 2 => exact show Fld 48 0 ⟨#[]⟩ from ⟨⟨by decide, by decide⟩, ⟨by decide, by decide⟩, by decide⟩
  refine NV.shut (ks := [xN]) hf (by simp [LK]) (by simp) fun i hi => ?_
  have hi0 : i = 0 := by simp at hi; exact hi
  subst hi0
  have hx := h.kA
  exact ⟨⟨bA, 0, none⟩, _, _, _, _, rfl, trivial, ⟨cell_of_blk hx rfl, cell_of_blk hx rfl, cell_of_blk hx rfl, cell_of_blk hx rfl⟩, NV_leaf W Any ⟨⟨by decide, by decide⟩, ⟨by decide, by decide⟩, by decide⟩⟩
theorem LS.next {q n0 sb bA bB : Nat} {W0 W W' : World} {S S' : ST} (h : LS q n0 sb bA bB W0 W S) {P : Ph} (hs : SR W n0 P S) (hsb : P.sb = sb) (hA : ¬ OwnB (rows P S) bA) (hB : ¬ OwnB (rows P S) bB) {P' : Ph} (hst : SStp n0 P S W P' S' W') (hp : P'.sb = P.sb) : LS q n0 sb bA bB W0 W' S' := by
  have hn : n0 ≤ W.heap.size := by have := hs.rws.lt .sb _ rfl; omega
  refine ⟨h.bl.trans (hst.st.chg.below hn fun b ⟨q, hq⟩ => (hs.rws.lt q b hq).1), hst.st.chg.keep h.kA hA, hst.st.chg.keep h.kB hB, P', hst.sr, hp.trans hsb, fun hb => ?_, fun hb => ?_⟩
  · rcases hst.st.own _ hb with h' | h'
    · exact hA h'
    · have := blk_lt h.kA; omega
  · rcases hst.st.own _ hb with h' | h'
    · exact hB h'
    · have := blk_lt h.kB; omega
theorem LS.do_ {q n0 sb bA bB : Nat} {W0 W : World} {S : ST} (h : LS q n0 sb bA bB W0 W S) {R : Int × ST} (hR : doE S (tL q) = R) :
    Calls Try.prog 12 #[.pointer (some ⟨sb, 0, none⟩), nv (kL q) 0 (gL q) (some ⟨bA, 0, none⟩) 1 1] W fun e W' => e = .returned (.int .i64 R.1) ∧ LS q n0 sb bA bB W0 W' R.2 := by
  obtain ⟨P, hs, rfl, hA, hB⟩ := h.sr
  refine (Do_any hs (tL q) _ h.node).mono ?_
  rintro e W' ⟨he, P', hst, hp⟩
  rw [hR] at he hst
  exact ⟨he, h.next hs rfl hA hB hst hp⟩
theorem LS.undo_ {q n0 sb bA bB : Nat} {W0 W : World} {S : ST} (h : LS q n0 sb bA bB W0 W S) {R : Int × ST} (hR : undoE S (tL q) = R) :
    Calls Try.prog 13 #[.pointer (some ⟨sb, 0, none⟩), nv (kL q) 0 (gL q) (some ⟨bA, 0, none⟩) 1 1] W fun e W' => e = .returned (.int .i64 R.1) ∧ LS q n0 sb bA bB W0 W' R.2 := by
  obtain ⟨P, hs, rfl, hA, hB⟩ := h.sr
  refine (Undo_any hs (tL q) _ h.node).mono ?_
  rintro e W' ⟨he, P', hst, hp⟩
  rw [hR] at he hst
  exact ⟨he, h.next hs rfl hA hB hst hp⟩
theorem LS.cells {q n0 sb bA bB : Nat} {W0 W : World} {S : ST} (h : LS q n0 sb bA bB W0 W S) : W.cell? ⟨bB, 0, none⟩ = some (.int .u8 (kL q)) ∧ W.cell? ⟨bB, 1, none⟩ = some (.int .i64 0) ∧ W.cell? ⟨bB, 2, none⟩ = some (.string (gL q)) ∧ W.cell? ⟨bB, 3, none⟩ = some (.slice (some ⟨bA, 0, none⟩) 1 1) :=
  ⟨cell_of_blk h.kB rfl, cell_of_blk h.kB rfl, cell_of_blk h.kB rfl, cell_of_blk h.kB rfl⟩

set_option maxHeartbeats 4000000 in
set_option maxRecDepth 100000 in
theorem Limits_walk (n m : Int) (hn : 0 ≤ n ∧ n < 256) (hm : 0 ≤ m ∧ m < 256) (w : World) : Calls Try.prog 3 #[.int .u8 n, .int .u8 m] w fun e w' => e = .returned (.bool true) ∧ Below w.heap.size w w' := by
  have h1 := bV2
  have h2 := bSV2
  have h3 := buildI1
  have h4 := bII2
  have h5 := bS3
  have hc : IntKind.i64.wrap n = n := IntWalk.i64_in _ (by omega)
  have hc2 : IntKind.i64.wrap m = m := IntWalk.i64_in _ (by omega)
  obtain ⟨k, hk, hk1⟩ : ∃ k : Nat, n.tmod 3 = (k : Int) ∧ k < 3 := ⟨(n % 3).toNat, by rw [Int.tmod_eq_emod_of_nonneg hn.1]; omega, by omega⟩
  obtain ⟨q, hq, hq1⟩ : ∃ k : Nat, m.tmod 3 = (k : Int) ∧ k < 3 := ⟨(m % 3).toNat, by rw [Int.tmod_eq_emod_of_nonneg hm.1]; omega, by omega⟩
  have hs1 : IntKind.i64.wrap (1000 - (k : Int)) = ((1000 - k : Nat) : Int) := by rw [IntWalk.i64_in _ (by omega)]; omega
  have hs2 : IntKind.i64.wrap (4096 - (k : Int)) = ((4096 - k : Nat) : Int) := by rw [IntWalk.i64_in _ (by omega)]; omega
  have hm1 := bMake (1000 - k) (by omega)
  have hm2 := bMake (4096 - k) (by omega)
  go_enter Try.func3, Try.ntmps3
  go_wp2_with fail
  refine (awake_any w).mono ?_
  rintro e w0 ⟨rfl, bw0⟩
  have HB0 := Lib.hid bw0
  clear bw0
  go_wp2_with fail
  obtain ⟨w1, hw1⟩ : ∃ x, w0.alloc (.cells #[.string ⟨#[120]⟩, .int .u8 1, .int .i64 0, .string ⟨#[115]⟩, .int .u8 3, .int .i64 0] 24) = x := ⟨_, rfl⟩
  rw [hw1]
  have b1 : Below w0.heap.size w0 w1 := hw1 ▸ bl_al (Below.refl _ _) _
  have HK1 := Lib.hid (show w1.heap[w0.heap.size]? = some (.cells (flatV [vX, vS]).toArray 24 (0, 0)) from hw1 ▸ heap_alloc_new w0 _)
  have HB1 := Lib.hid (bl_tt HB0.out b1)
  clear hw1 b1
  refine wp_region_noPanic ?_
  refine wp_region_G (fun _ : World => True) (fun _ : World => True) 13 (by kernel_rfl) ?_
  have hSS : (fun _ : World => True) w1.drew ∧ (fun _ : World => True) w1.drew := ⟨trivial, trivial⟩
  refine wpG_take1 (i := 1) (v := ?_) rfl (by kernel_rfl) (by kernel_rfl) (by kernel_rfl) (by decide) (fun _ _ _ h => h) (Or.inl ⟨by rfl, ?_⟩) hSS ?_
  rotate_left 1
  · (intro w hSw; (try dsimp only at hSw); (try simp only [List.getElem_toArray, List.getElem_cons_succ, List.getElem_cons_zero]); go_simp; (try with_reducible rfl))
  (try simp only [Act.put, List.getElem_toArray, List.getElem_cons_succ, List.getElem_cons_zero, List.setIfInBounds_toArray, List.set_cons_zero, List.set_cons_succ])
  refine wpG_take1 (i := 2) (v := ?_) rfl (by kernel_rfl) (by kernel_rfl) (by kernel_rfl) (by decide) (fun _ _ _ h => h) (Or.inl ⟨by rfl, ?_⟩) hSS ?_
  rotate_left 1
  · (intro w hSw; (try dsimp only at hSw); (try simp only [List.getElem_toArray, List.getElem_cons_succ, List.getElem_cons_zero]); go_simp; (try with_reducible rfl))
  (try simp only [Act.put, List.getElem_toArray, List.getElem_cons_succ, List.getElem_cons_zero, List.setIfInBounds_toArray, List.set_cons_zero, List.set_cons_succ])
  refine wpG_take1 (i := 5) (v := ?_) rfl (by kernel_rfl) (by kernel_rfl) (by kernel_rfl) (by decide) (fun _ _ _ h => h) (Or.inl ⟨by rfl, ?_⟩) hSS ?_
  rotate_left 1
  · (intro w hSw; (try dsimp only at hSw); (try simp only [List.getElem_toArray, List.getElem_cons_succ, List.getElem_cons_zero]); go_simp; (try with_reducible rfl))
  (try simp only [Act.put, List.getElem_toArray, List.getElem_cons_succ, List.getElem_cons_zero, List.setIfInBounds_toArray, List.set_cons_zero, List.set_cons_succ])
  refine wpG_take1 (i := 6) (v := ?_) rfl (by kernel_rfl) (by kernel_rfl) (by kernel_rfl) (by decide) (fun _ _ _ h => h) (Or.inl ⟨by rfl, ?_⟩) hSS ?_
  rotate_left 1
  · (intro w hSw; (try dsimp only at hSw); (try simp only [List.getElem_toArray, List.getElem_cons_succ, List.getElem_cons_zero]); go_simp; (try with_reducible rfl))
  (try simp only [Act.put, List.getElem_toArray, List.getElem_cons_succ, List.getElem_cons_zero, List.setIfInBounds_toArray, List.set_cons_zero, List.set_cons_succ])
  refine wpG_take1 (i := 8) (v := ?_) rfl (by kernel_rfl) (by kernel_rfl) (by kernel_rfl) (by decide) (fun _ _ _ h => h) (Or.inl ⟨by rfl, ?_⟩) hSS ?_
  rotate_left 1
  · (intro w hSw; (try dsimp only at hSw); (try simp only [List.getElem_toArray, List.getElem_cons_succ, List.getElem_cons_zero]); go_simp; (try with_reducible rfl))
  (try simp only [Act.put, List.getElem_toArray, List.getElem_cons_succ, List.getElem_cons_zero, List.setIfInBounds_toArray, List.set_cons_zero, List.set_cons_succ])
  refine wpG_take1 (i := 9) (v := ?_) rfl (by kernel_rfl) (by kernel_rfl) (by kernel_rfl) (by decide) (fun _ _ _ h => h) (Or.inl ⟨by rfl, ?_⟩) hSS ?_
  rotate_left 1
  · (intro w hSw; (try dsimp only at hSw); (try simp only [List.getElem_toArray, List.getElem_cons_succ, List.getElem_cons_zero]); go_simp; (try with_reducible rfl))
  (try simp only [Act.put, List.getElem_toArray, List.getElem_cons_succ, List.getElem_cons_zero, List.setIfInBounds_toArray, List.set_cons_zero, List.set_cons_succ])
  refine wpG_inv0 (fun A f l a wr => ∃ (l0 l3 l4 l7 l10 l11 l12 : Bool) (v20 v23 v24 v27 v30 v31 v7 : Value), f = (!l0).toNat + (!l3).toNat + (!l4).toNat + (!l7).toNat + (!l10).toNat + (!l11).toNat + (!l12).toNat + 1 ∧ l = #[l0, true, true, l3, l4, true, true, l7, true, true, l10, l11, l12, false] ∧
    a = ((((((A.put (some 20) v20).put (some 23) v23).put (some 24) v24).put (some 27) v27).put (some 30) v30).put (some 31) v31).put (some 7) v7 ∧ Hid (Below w1.heap.size w1 wr) ∧ Hid (LimI k wr (fun x => v7 ≠ .pointer (some ⟨x, 0, none⟩)) l0 l3 l4 l7 l10 l11 v20 v23 v24 v27 v30 v31) ∧
    (l12 = true → ∃ b, v7 = .pointer (some ⟨b, 0, none⟩) ∧ w1.heap.size ≤ b ∧ wr.heap[b]? = some (.cells #[.slice none 0 0, .slice none 0 0, .slice none 0 0] 29 (0, 0))) ∧ (l12 = false → v7 = undef)) (fun _ => ⟨trivial, trivial⟩) ?_ ⟨false, false, false, false, false, false, false, undef, undef, undef, undef, undef, undef, undef, rfl, rfl, (by simp only [Act.put, List.setIfInBounds_toArray, List.set_cons_zero, List.set_cons_succ]), Lib.hid (Below.refl _ _).drew, Lib.hid ⟨fun h => (by cases h), fun h => (by cases h), fun h => (by cases h), fun h => (by cases h), fun h => (by cases h), fun h => (by cases h)⟩, fun h => (by cases h), fun _ => rfl⟩
  rintro A hA f l a wr ⟨l0, l3, l4, l7, l10, l11, l12, v20, v23, v24, v27, v30, v31, v7, hf, rfl, ha, HBL, HLI, hl12, hn12⟩
  by_cases hall : (l0 && l3 && l4 && l7 && l10 && l11 && l12) = true
  · left
    simp only [Bool.and_eq_true] at hall
    obtain ⟨⟨⟨⟨⟨⟨rfl, rfl⟩, rfl⟩, rfl⟩, rfl⟩, rfl⟩, rfl⟩ := hall
    obtain ⟨b7, rfl, hb7, hk7⟩ := hl12 rfl
    have HSV := Lib.hid (HLI.out.f11 rfl)
    obtain ⟨AC, cC, AI, cI', AO, cO, rfl, -⟩ := HLI.out.f11 rfl
    clear HLI hl12 hn12
    have c0 : wr.cell? ⟨b7, 0, none⟩ = some (.slice none 0 0) := cell_of_blk hk7 rfl
    have c1 : wr.cell? ⟨b7, 1, none⟩ = some (.slice none 0 0) := cell_of_blk hk7 rfl
    have c2 : wr.cell? ⟨b7, 2, none⟩ = some (.slice none 0 0) := cell_of_blk hk7 rfl
    have cf : ∀ j, wr.frozen? ⟨b7, j, none⟩ = false := fun j => frozen_of_blk hk7
    subst hf ha hA
    refine wpG_past (i := 13) (by kernel_rfl) rfl (by kernel_rfl) (fun K hK => ?_)
    (try simp only [Act.put, List.getElem_toArray, List.getElem_cons_succ, List.getElem_cons_zero, List.setIfInBounds_toArray, List.set_cons_zero, List.set_cons_succ])
    go_simp
    have hch : Chg (fun b => b = b7) wr (((wr.setCell ⟨b7, 0, none⟩ (.slice AC (ssL (1000 - k) (4096 - k) (4096 - k)).cells.length cC)).setCell ⟨b7, 1, none⟩ (.slice AI (ssL (1000 - k) (4096 - k) (4096 - k)).tin.length cI')).setCell ⟨b7, 2, none⟩ (.slice AO (ssL (1000 - k) (4096 - k) (4096 - k)).tout.length cO)) :=
      (((Chg.refl (fun b => b = b7) wr).setCell (p := ⟨b7, 0, none⟩) (.inl rfl) _).setCell (p := ⟨b7, 1, none⟩) (.inl rfl) _).setCell (p := ⟨b7, 2, none⟩) (.inl rfl) _
    have hh := heap_setCell_same _ b7 2 _ _ (.slice AO (ssL (1000 - k) (4096 - k) (4096 - k)).tout.length cO) (heap_setCell_same _ b7 1 _ _ (.slice AI (ssL (1000 - k) (4096 - k) (4096 - k)).tin.length cI') (heap_setCell_same wr b7 0 _ _ (.slice AC (ssL (1000 - k) (4096 - k) (4096 - k)).cells.length cC) hk7))
    obtain ⟨w2, hw2⟩ : ∃ x, ((wr.setCell ⟨b7, 0, none⟩ (.slice AC (ssL (1000 - k) (4096 - k) (4096 - k)).cells.length cC)).setCell ⟨b7, 1, none⟩ (.slice AI (ssL (1000 - k) (4096 - k) (4096 - k)).tin.length cI')).setCell ⟨b7, 2, none⟩ (.slice AO (ssL (1000 - k) (4096 - k) (4096 - k)).tout.length cO) = x := ⟨_, rfl⟩
    rw [hw2] at hch hh ⊢
    clear hw2 c0 c1 c2 cf
    have c0 : w2.cell? ⟨b7, 0, none⟩ = some (.slice AC (ssL (1000 - k) (4096 - k) (4096 - k)).cells.length cC) := cell_of_blk hh (by simp)
    have c1 : w2.cell? ⟨b7, 1, none⟩ = some (.slice AI (ssL (1000 - k) (4096 - k) (4096 - k)).tin.length cI') := cell_of_blk hh (by simp)
    have c2 : w2.cell? ⟨b7, 2, none⟩ = some (.slice AO (ssL (1000 - k) (4096 - k) (4096 - k)).tout.length cO) := cell_of_blk hh (by simp)
    have HB2 := Lib.hid (show Below w1.heap.size w1 w2 from HBL.out.trans (hch.below HBL.out.size fun b e => by omega))
    have hSV : SV w2 Any (ssL (1000 - k) (4096 - k) (4096 - k)) (.agg #[.slice AC (ssL (1000 - k) (4096 - k) (4096 - k)).cells.length cC, .slice AI (ssL (1000 - k) (4096 - k) (4096 - k)).tin.length cI', .slice AO (ssL (1000 - k) (4096 - k) (4096 - k)).tout.length cO]) :=
      HSV.out.keep (fun _ _ _ => trivial) fun b hb hlt => hch.block b hlt fun e => hb (by rw [e])
    have hV : RowV w2 Any (some ⟨w0.heap.size, 0, none⟩) [vX, vS] := rowV_blk (blk_bl HK1.out HB2.out) (by
      intro v hv
      simp only [List.mem_cons, List.not_mem_nil, or_false] at hv
      rcases hv with rfl | rfl <;> exact ⟨by decide, ⟨by decide, by decide⟩, by decide, by decide⟩)
    have HNW := Lib.hid (New_any [vX, vS] (ssL (1000 - k) (4096 - k) (4096 - k)) (some ⟨w0.heap.size, 0, none⟩) 2 _ w2 hV (by simp [LV]) hSV)
    clear hch hh HSV hSV hV hk7 HBL
    refine hK.out _ _ trivial (wpG_done (by kernel_rfl) (NoPanic.normal ?_))
    clear hK K hSS h1 h2 h4 h5 hm1 hm2
    go_wp2_with fail
    refine HNW.out.mono ?_
    rintro e w5 ⟨bw5, hh⟩
    rcases hh with ⟨hno, -⟩ | ⟨-, P, rfl, hsr⟩
    · rw [fitL] at hno; cases hno
    · have HS0 := Lib.hid (show SR w5 w2.heap.size P (rL k q k) from (rL_start k q) ▸ hsr)
      have HB5 := Lib.hid bw5
      clear hsr bw5
      go_wp2_with fail
      refine (lvariable_any ⟨#[120]⟩ w5).mono ?_
      rintro e w6 ⟨rfl, bw6⟩
      have HB6 := Lib.hid bw6
      clear bw6
      have h11 := bSN1
      have h12 := bN3
      have h13 := bB3
      clear h3
      rcases (show q = 0 ∨ q = 1 ∨ q = 2 by omega) with rfl | rfl | rfl
      · have hq' : m.tmod 3 = 0 := hq
        go_wp2_with fail
        obtain ⟨x3, hx3⟩ : ∃ x, ((w6.alloc (.cells #[.int .u8 2, .int .i64 0, .string ⟨#[120]⟩, .slice none 0 0] 36)).alloc (.cells #[.int .u8 44, .int .i64 0, .string ⟨#[115]⟩, .slice (some ⟨w6.heap.size, 0, none⟩) 1 1] 36)).alloc (.cells #[.int .u8 44, .int .u8 47, .int .u8 48] 5) = x := ⟨_, rfl⟩
        rw [hx3]
        have HLS := Lib.hid (show LS 0 w2.heap.size P.sb w6.heap.size (w6.heap.size + 1) w2 x3 (rL k 0 k) from by
          have hs5 : w5.heap.size ≤ w6.heap.size := HB6.out.size
          have hA := heap_alloc_new w6 (.cells #[.int .u8 2, .int .i64 0, .string ⟨#[120]⟩, .slice none 0 0] 36)
          have hB := heap_alloc_new (w6.alloc (.cells #[.int .u8 2, .int .i64 0, .string ⟨#[120]⟩, .slice none 0 0] 36)) (.cells #[.int .u8 44, .int .i64 0, .string ⟨#[115]⟩, .slice (some ⟨w6.heap.size, 0, none⟩) 1 1] 36)
          rw [World.size_alloc] at hB
          have hb3 : Below w6.heap.size w6 x3 := hx3 ▸ bl_al (bl_al (bl_al (Below.refl _ _) _) _) _
          refine ⟨bl_tt (bl_tt HB5.out HB6.out) hb3, hx3 ▸ blk_al (blk_al hA _) _, hx3 ▸ blk_al hB _, P, HS0.out.later (bl_tt HB6.out hb3), rfl, fun ⟨q, hq⟩ => ?_, fun ⟨q, hq⟩ => ?_⟩
          · have := (HS0.out.rws.lt q _ hq).2; omega
          · have := (HS0.out.rws.lt q _ hq).2; omega)
        clear hx3 HB5 HS0 HB6
        go_loopw [11] (fun i wr => ∃ j : Nat, j ≤ k ∧ i = .int .i64 j ∧ Hid (LS 0 w2.heap.size P.sb w6.heap.size (w6.heap.size + 1) w2 wr (rL k 0 (k - j)))) (fun i _ => k - (intOf i).toNat)
        case atStart => exact ⟨0, by omega, rfl, HLS⟩
        case round =>
          clear HLS
          obtain ⟨j, hj, rfl, HLS⟩ := hrel
          obtain ⟨c0, c1, c2, c3⟩ := HLS.out.cells
          by_cases hlt : j < k
          · have hj1 : (j : Int) < (k : Int) := by omega
            have HDO := Lib.hid (HLS.out.do_ (R := (0, rL k 0 (k - (j + 1)))) (by rw [show k - j = k - (j + 1) + 1 by omega]; exact do_room k 0 _ (by omega)))
            go_wp2_with fail
            refine HDO.out.mono ?_
            rintro e w7 ⟨rfl, hls⟩
            have HLS' := Lib.hid hls
            clear hls
            go_wp2_with fail
            go_roundw
            case rel => exact ⟨j + 1, by omega, by go_num, HLS'⟩
            case measure => simp [intOf]; omega
          · have hj1 : ¬ (j : Int) < (k : Int) := by omega
            obtain rfl : j = k := by omega
            have HDO := Lib.hid (HLS.out.do_ (R := (5, rL j 0 0)) (by rw [Nat.sub_self]; exact do_full j 0))
            go_wp2_with fail
            refine HDO.out.mono ?_
            rintro e w7 ⟨rfl, hls⟩
            clear c0 c1 c2 c3 HDO HLS
            have HLS := Lib.hid hls
            have HDO := Lib.hid (hls.undo_ (undo_full j 0))
            obtain ⟨c0, c1, c2, c3⟩ := hls.cells
            clear hls
            go_wp2_with fail
            refine HDO.out.mono ?_
            rintro e w8 ⟨rfl, hls⟩
            clear c0 c1 c2 c3 HDO HLS
            have HLS := Lib.hid hls
            have HDO := Lib.hid (hls.do_ (do_room j 0 0 (by omega)))
            obtain ⟨c0, c1, c2, c3⟩ := hls.cells
            clear hls
            go_wp2_with fail
            refine HDO.out.mono ?_
            rintro e w9 ⟨rfl, hls⟩
            clear c0 c1 c2 c3 HDO HLS
            have HLS := Lib.hid hls
            have HDO := Lib.hid (hls.do_ (do_full j 0))
            obtain ⟨c0, c1, c2, c3⟩ := hls.cells
            clear hls
            go_wp2_with fail
            refine HDO.out.mono ?_
            rintro e w10 ⟨rfl, hls⟩
            have HLS' := Lib.hid hls
            clear hls
            go_wp2_with fail
            go_ret
            refine ⟨rfl, ?_⟩
            exact HB1.out.trans ((HB2.out.mono HB1.out.size).trans (HLS'.out.bl.mono (Nat.le_trans HB1.out.size HB2.out.size)))
      · have hq' : m.tmod 3 = 1 := hq
        go_wp2_with fail
        obtain ⟨x3, hx3⟩ : ∃ x, ((w6.alloc (.cells #[.int .u8 2, .int .i64 0, .string ⟨#[120]⟩, .slice none 0 0] 36)).alloc (.cells #[.int .u8 47, .int .i64 0, .string ⟨#[]⟩, .slice (some ⟨w6.heap.size, 0, none⟩) 1 1] 36)).alloc (.cells #[.int .u8 44, .int .u8 47, .int .u8 48] 5) = x := ⟨_, rfl⟩
        rw [hx3]
        have HLS := Lib.hid (show LS 1 w2.heap.size P.sb w6.heap.size (w6.heap.size + 1) w2 x3 (rL k 1 k) from by
          have hs5 : w5.heap.size ≤ w6.heap.size := HB6.out.size
          have hA := heap_alloc_new w6 (.cells #[.int .u8 2, .int .i64 0, .string ⟨#[120]⟩, .slice none 0 0] 36)
          have hB := heap_alloc_new (w6.alloc (.cells #[.int .u8 2, .int .i64 0, .string ⟨#[120]⟩, .slice none 0 0] 36)) (.cells #[.int .u8 47, .int .i64 0, .string ⟨#[]⟩, .slice (some ⟨w6.heap.size, 0, none⟩) 1 1] 36)
          rw [World.size_alloc] at hB
          have hb3 : Below w6.heap.size w6 x3 := hx3 ▸ bl_al (bl_al (bl_al (Below.refl _ _) _) _) _
          refine ⟨bl_tt (bl_tt HB5.out HB6.out) hb3, hx3 ▸ blk_al (blk_al hA _) _, hx3 ▸ blk_al hB _, P, HS0.out.later (bl_tt HB6.out hb3), rfl, fun ⟨q, hq⟩ => ?_, fun ⟨q, hq⟩ => ?_⟩
          · have := (HS0.out.rws.lt q _ hq).2; omega
          · have := (HS0.out.rws.lt q _ hq).2; omega)
        clear hx3 HB5 HS0 HB6
        go_loopw [11] (fun i wr => ∃ j : Nat, j ≤ k ∧ i = .int .i64 j ∧ Hid (LS 1 w2.heap.size P.sb w6.heap.size (w6.heap.size + 1) w2 wr (rL k 1 (k - j)))) (fun i _ => k - (intOf i).toNat)
        case atStart => exact ⟨0, by omega, rfl, HLS⟩
        case round =>
          clear HLS
          obtain ⟨j, hj, rfl, HLS⟩ := hrel
          obtain ⟨c0, c1, c2, c3⟩ := HLS.out.cells
          by_cases hlt : j < k
          · have hj1 : (j : Int) < (k : Int) := by omega
            have HDO := Lib.hid (HLS.out.do_ (R := (0, rL k 1 (k - (j + 1)))) (by rw [show k - j = k - (j + 1) + 1 by omega]; exact do_room k 1 _ (by omega)))
            go_wp2_with fail
            refine HDO.out.mono ?_
            rintro e w7 ⟨rfl, hls⟩
            have HLS' := Lib.hid hls
            clear hls
            go_wp2_with fail
            go_roundw
            case rel => exact ⟨j + 1, by omega, by go_num, HLS'⟩
            case measure => simp [intOf]; omega
          · have hj1 : ¬ (j : Int) < (k : Int) := by omega
            obtain rfl : j = k := by omega
            have HDO := Lib.hid (HLS.out.do_ (R := (5, rL j 1 0)) (by rw [Nat.sub_self]; exact do_full j 1))
            go_wp2_with fail
            refine HDO.out.mono ?_
            rintro e w7 ⟨rfl, hls⟩
            clear c0 c1 c2 c3 HDO HLS
            have HLS := Lib.hid hls
            have HDO := Lib.hid (hls.undo_ (undo_full j 1))
            obtain ⟨c0, c1, c2, c3⟩ := hls.cells
            clear hls
            go_wp2_with fail
            refine HDO.out.mono ?_
            rintro e w8 ⟨rfl, hls⟩
            clear c0 c1 c2 c3 HDO HLS
            have HLS := Lib.hid hls
            have HDO := Lib.hid (hls.do_ (do_room j 1 0 (by omega)))
            obtain ⟨c0, c1, c2, c3⟩ := hls.cells
            clear hls
            go_wp2_with fail
            refine HDO.out.mono ?_
            rintro e w9 ⟨rfl, hls⟩
            clear c0 c1 c2 c3 HDO HLS
            have HLS := Lib.hid hls
            have HDO := Lib.hid (hls.do_ (do_full j 1))
            obtain ⟨c0, c1, c2, c3⟩ := hls.cells
            clear hls
            go_wp2_with fail
            refine HDO.out.mono ?_
            rintro e w10 ⟨rfl, hls⟩
            have HLS' := Lib.hid hls
            clear hls
            go_wp2_with fail
            go_ret
            refine ⟨rfl, ?_⟩
            exact HB1.out.trans ((HB2.out.mono HB1.out.size).trans (HLS'.out.bl.mono (Nat.le_trans HB1.out.size HB2.out.size)))
      · have hq' : m.tmod 3 = 2 := hq
        go_wp2_with fail
        obtain ⟨x3, hx3⟩ : ∃ x, ((w6.alloc (.cells #[.int .u8 2, .int .i64 0, .string ⟨#[120]⟩, .slice none 0 0] 36)).alloc (.cells #[.int .u8 48, .int .i64 0, .string ⟨#[]⟩, .slice (some ⟨w6.heap.size, 0, none⟩) 1 1] 36)).alloc (.cells #[.int .u8 44, .int .u8 47, .int .u8 48] 5) = x := ⟨_, rfl⟩
        rw [hx3]
        have HLS := Lib.hid (show LS 2 w2.heap.size P.sb w6.heap.size (w6.heap.size + 1) w2 x3 (rL k 2 k) from by
          have hs5 : w5.heap.size ≤ w6.heap.size := HB6.out.size
          have hA := heap_alloc_new w6 (.cells #[.int .u8 2, .int .i64 0, .string ⟨#[120]⟩, .slice none 0 0] 36)
          have hB := heap_alloc_new (w6.alloc (.cells #[.int .u8 2, .int .i64 0, .string ⟨#[120]⟩, .slice none 0 0] 36)) (.cells #[.int .u8 48, .int .i64 0, .string ⟨#[]⟩, .slice (some ⟨w6.heap.size, 0, none⟩) 1 1] 36)
          rw [World.size_alloc] at hB
          have hb3 : Below w6.heap.size w6 x3 := hx3 ▸ bl_al (bl_al (bl_al (Below.refl _ _) _) _) _
          refine ⟨bl_tt (bl_tt HB5.out HB6.out) hb3, hx3 ▸ blk_al (blk_al hA _) _, hx3 ▸ blk_al hB _, P, HS0.out.later (bl_tt HB6.out hb3), rfl, fun ⟨q, hq⟩ => ?_, fun ⟨q, hq⟩ => ?_⟩
          · have := (HS0.out.rws.lt q _ hq).2; omega
          · have := (HS0.out.rws.lt q _ hq).2; omega)
        clear hx3 HB5 HS0 HB6
        go_loopw [11] (fun i wr => ∃ j : Nat, j ≤ k ∧ i = .int .i64 j ∧ Hid (LS 2 w2.heap.size P.sb w6.heap.size (w6.heap.size + 1) w2 wr (rL k 2 (k - j)))) (fun i _ => k - (intOf i).toNat)
        case atStart => exact ⟨0, by omega, rfl, HLS⟩
        case round =>
          clear HLS
          obtain ⟨j, hj, rfl, HLS⟩ := hrel
          obtain ⟨c0, c1, c2, c3⟩ := HLS.out.cells
          by_cases hlt : j < k
          · have hj1 : (j : Int) < (k : Int) := by omega
            have HDO := Lib.hid (HLS.out.do_ (R := (0, rL k 2 (k - (j + 1)))) (by rw [show k - j = k - (j + 1) + 1 by omega]; exact do_room k 2 _ (by omega)))
            go_wp2_with fail
            refine HDO.out.mono ?_
            rintro e w7 ⟨rfl, hls⟩
            have HLS' := Lib.hid hls
            clear hls
            go_wp2_with fail
            go_roundw
            case rel => exact ⟨j + 1, by omega, by go_num, HLS'⟩
            case measure => simp [intOf]; omega
          · have hj1 : ¬ (j : Int) < (k : Int) := by omega
            obtain rfl : j = k := by omega
            have HDO := Lib.hid (HLS.out.do_ (R := (5, rL j 2 0)) (by rw [Nat.sub_self]; exact do_full j 2))
            go_wp2_with fail
            refine HDO.out.mono ?_
            rintro e w7 ⟨rfl, hls⟩
            clear c0 c1 c2 c3 HDO HLS
            have HLS := Lib.hid hls
            have HDO := Lib.hid (hls.undo_ (undo_full j 2))
            obtain ⟨c0, c1, c2, c3⟩ := hls.cells
            clear hls
            go_wp2_with fail
            refine HDO.out.mono ?_
            rintro e w8 ⟨rfl, hls⟩
            clear c0 c1 c2 c3 HDO HLS
            have HLS := Lib.hid hls
            have HDO := Lib.hid (hls.do_ (do_room j 2 0 (by omega)))
            obtain ⟨c0, c1, c2, c3⟩ := hls.cells
            clear hls
            go_wp2_with fail
            refine HDO.out.mono ?_
            rintro e w9 ⟨rfl, hls⟩
            clear c0 c1 c2 c3 HDO HLS
            have HLS := Lib.hid hls
            have HDO := Lib.hid (hls.do_ (do_full j 2))
            obtain ⟨c0, c1, c2, c3⟩ := hls.cells
            clear hls
            go_wp2_with fail
            refine HDO.out.mono ?_
            rintro e w10 ⟨rfl, hls⟩
            have HLS' := Lib.hid hls
            clear hls
            go_wp2_with fail
            go_ret
            refine ⟨rfl, ?_⟩
            exact HB1.out.trans ((HB2.out.mono HB1.out.size).trans (HLS'.out.bl.mono (Nat.le_trans HB1.out.size HB2.out.size)))
  · right
    refine ⟨f - 1, ?_, ?_, ?_⟩
    · clear HLI hl12 hn12 ha
      subst hf
      revert hall
      revert l0 l3 l4 l7 l10 l11 l12
      decide
    · clear HLI hl12 hn12 ha hf
      revert hall
      revert l0 l3 l4 l7 l10 l11 l12
      decide +kernel
    intro i hi
    have hcase : (i = 0 ∧ l0 = false) ∨ (i = 3 ∧ l3 = false) ∨ (i = 4 ∧ l4 = false ∧ l0 = true ∧ l3 = true) ∨ (i = 7 ∧ l7 = false) ∨ (i = 10 ∧ l10 = false) ∨ (i = 11 ∧ l11 = false ∧ l4 = true ∧ l7 = true ∧ l10 = true) ∨ (i = 12 ∧ l12 = false) := by
      refine of_decide_eq_true ((List.all_eq_true (p := fun i => decide ((i = 0 ∧ l0 = false) ∨ (i = 3 ∧ l3 = false) ∨ (i = 4 ∧ l4 = false ∧ l0 = true ∧ l3 = true) ∨ (i = 7 ∧ l7 = false) ∨ (i = 10 ∧ l10 = false) ∨ (i = 11 ∧ l11 = false ∧ l4 = true ∧ l7 = true ∧ l10 = true) ∨ (i = 12 ∧ l12 = false)))).1 ?_ i hi)
      clear HLI hl12 hn12 ha hf hi
      revert hall
      revert l0 l3 l4 l7 l10 l11 l12
      decide +kernel
    clear hi hall
    have hfre : v7 ≠ .pointer (some ⟨wr.heap.size, 0, none⟩) := by
      rcases l12 with _ | _
      · rw [hn12 rfl]; exact fun h => by cases h
      · obtain ⟨b, h1, _, h3⟩ := hl12 rfl
        rw [h1]
        intro h
        injection h with h
        injection h with h
        injection h with h
        have := blk_lt h3
        omega
    subst ha hA
    rcases hcase with ⟨rfl, rfl⟩ | ⟨rfl, rfl⟩ | ⟨rfl, rfl, rfl, rfl⟩ | ⟨rfl, rfl⟩ | ⟨rfl, rfl⟩ | ⟨rfl, rfl, rfl, rfl, rfl⟩ | ⟨rfl, rfl⟩
    · refine wpOp_step rfl (fun K' hK0 => ?_)
      have hK := Lib.hid hK0
      clear hK0
      (try simp only [Act.put, List.getElem_toArray, List.getElem_cons_zero, List.setIfInBounds_toArray, List.set_cons_zero, List.set_cons_succ])
      go_simp
      have hli := HLI.out.keep (S' := (fun x => v7 ≠ .pointer (some ⟨x, 0, none⟩))) (fun b h _ => h) (bl_al (Below.refl wr.heap.size wr) (.cells (flatI (List.replicate (1) 0)).toArray 3))
      have hnew := rows_new wr (fun x => v7 ≠ .pointer (some ⟨x, 0, none⟩)) (1) 3 hfre
      exact hK.out _ _ ⟨true, l3, l4, l7, l10, l11, l12, (.slice (some ⟨wr.heap.size, 0, none⟩) 1 1), v23, v24, v27, v30, v31, v7, (by subst hf; simp; omega), rfl, (by simp only [Act.put, List.setIfInBounds_toArray, List.set_cons_zero, List.set_cons_succ]), Lib.hid (bl_al HBL.out _), Lib.hid { hli with f0 := fun _ => hnew }, fun h => by obtain ⟨b, h1, h2, h3⟩ := hl12 h; exact ⟨b, h1, h2, blk_al h3 _⟩, hn12⟩
    · refine wpOp_step rfl (fun K' hK0 => ?_)
      have hK := Lib.hid hK0
      clear hK0
      (try simp only [Act.put, List.getElem_toArray, List.getElem_cons_succ, List.getElem_cons_zero, List.setIfInBounds_toArray, List.set_cons_zero, List.set_cons_succ])
      go_simp
      have hli := HLI.out.keep (S' := (fun x => v7 ≠ .pointer (some ⟨x, 0, none⟩))) (fun b h _ => h) (bl_al (Below.refl wr.heap.size wr) (.cells (flatI (List.replicate (1000 - k) 0)).toArray 3))
      have hnew := rows_new wr (fun x => v7 ≠ .pointer (some ⟨x, 0, none⟩)) (1000 - k) 3 hfre
      exact hK.out _ _ ⟨l0, true, l4, l7, l10, l11, l12, v20, (.slice (some ⟨wr.heap.size, 0, none⟩) (1000 - k) (1000 - k)), v24, v27, v30, v31, v7, (by subst hf; simp; omega), rfl, (by simp only [Act.put, List.setIfInBounds_toArray, List.set_cons_zero, List.set_cons_succ]), Lib.hid (bl_al HBL.out _), Lib.hid { hli with f3 := fun _ => hnew }, fun h => by obtain ⟨b, h1, h2, h3⟩ := hl12 h; exact ⟨b, h1, h2, blk_al h3 _⟩, hn12⟩
    · refine wpOp_step rfl (fun K' hK0 => ?_)
      have hK := Lib.hid hK0
      clear hK0
      obtain ⟨b20, rfl, r20⟩ := HLI.out.f0 rfl
      obtain ⟨b23, rfl, r23⟩ := HLI.out.f3 rfl
      (try simp only [Act.put, List.getElem_toArray, List.getElem_cons_succ, List.getElem_cons_zero, List.setIfInBounds_toArray, List.set_cons_zero, List.set_cons_succ])
      go_simp
      have hli := HLI.out.keep (S' := (fun x => v7 ≠ .pointer (some ⟨x, 0, none⟩))) (fun b h _ => h) (bl_al (Below.refl wr.heap.size wr) (.cells #[.slice (some ⟨b20, 0, none⟩) 1 1, .slice (some ⟨b23, 0, none⟩) (1000 - k) (1000 - k)] 26))
      have hbb := bl_al (Below.refl wr.heap.size wr) (.cells #[.slice (some ⟨b20, 0, none⟩) 1 1, .slice (some ⟨b23, 0, none⟩) (1000 - k) (1000 - k)] 26)
      have hnew : RowII (wr.alloc (.cells #[.slice (some ⟨b20, 0, none⟩) 1 1, .slice (some ⟨b23, 0, none⟩) (1000 - k) (1000 - k)] 26)) (fun x => v7 ≠ .pointer (some ⟨x, 0, none⟩)) (some ⟨wr.heap.size, 0, none⟩) [List.replicate 1 0, List.replicate (1000 - k) 0] :=
        rowII2 (A1 := some ⟨b20, 0, none⟩) (A2 := some ⟨b23, 0, none⟩) (c1 := 1) (c2 := 1000 - k) (by rw [List.length_replicate, List.length_replicate]; exact heap_alloc_new wr _) hfre (r20.later hbb) (r23.later hbb) (by simp) (by simp)
      exact hK.out _ _ ⟨true, true, true, l7, l10, l11, l12, .slice (some ⟨b20, 0, none⟩) 1 1, .slice (some ⟨b23, 0, none⟩) (1000 - k) (1000 - k), (.slice (some ⟨wr.heap.size, 0, none⟩) 2 2), v27, v30, v31, v7, (by subst hf; simp; omega), rfl, (by simp only [Act.put, List.setIfInBounds_toArray, List.set_cons_zero, List.set_cons_succ]), Lib.hid (bl_al HBL.out _), Lib.hid { hli with f4 := fun _ => ⟨_, rfl, hnew⟩ }, fun h => by obtain ⟨b, h1, h2, h3⟩ := hl12 h; exact ⟨b, h1, h2, blk_al h3 _⟩, hn12⟩
    · refine wpOp_step rfl (fun K' hK0 => ?_)
      have hK := Lib.hid hK0
      clear hK0
      (try simp only [Act.put, List.getElem_toArray, List.getElem_cons_succ, List.getElem_cons_zero, List.setIfInBounds_toArray, List.set_cons_zero, List.set_cons_succ])
      go_simp
      have hli := HLI.out.keep (S' := (fun x => v7 ≠ .pointer (some ⟨x, 0, none⟩))) (fun b h _ => h) (bl_al (Below.refl wr.heap.size wr) (.cells (flatI (List.replicate (4096 - k) 0)).toArray 3))
      have hnew := rows_new wr (fun x => v7 ≠ .pointer (some ⟨x, 0, none⟩)) (4096 - k) 3 hfre
      exact hK.out _ _ ⟨l0, l3, l4, true, l10, l11, l12, v20, v23, v24, (.slice (some ⟨wr.heap.size, 0, none⟩) (4096 - k) (4096 - k)), v30, v31, v7, (by subst hf; simp; omega), rfl, (by simp only [Act.put, List.setIfInBounds_toArray, List.set_cons_zero, List.set_cons_succ]), Lib.hid (bl_al HBL.out _), Lib.hid { hli with f7 := fun _ => hnew }, fun h => by obtain ⟨b, h1, h2, h3⟩ := hl12 h; exact ⟨b, h1, h2, blk_al h3 _⟩, hn12⟩
    · refine wpOp_step rfl (fun K' hK0 => ?_)
      have hK := Lib.hid hK0
      clear hK0
      (try simp only [Act.put, List.getElem_toArray, List.getElem_cons_succ, List.getElem_cons_zero, List.setIfInBounds_toArray, List.set_cons_zero, List.set_cons_succ])
      go_simp
      have hli := HLI.out.keep (S' := (fun x => v7 ≠ .pointer (some ⟨x, 0, none⟩))) (fun b h _ => h) (bl_al (Below.refl wr.heap.size wr) (.cells (flatI (List.replicate (4096 - k) 0)).toArray 3))
      have hnew := rows_new wr (fun x => v7 ≠ .pointer (some ⟨x, 0, none⟩)) (4096 - k) 3 hfre
      exact hK.out _ _ ⟨l0, l3, l4, l7, true, l11, l12, v20, v23, v24, v27, (.slice (some ⟨wr.heap.size, 0, none⟩) (4096 - k) (4096 - k)), v31, v7, (by subst hf; simp; omega), rfl, (by simp only [Act.put, List.setIfInBounds_toArray, List.set_cons_zero, List.set_cons_succ]), Lib.hid (bl_al HBL.out _), Lib.hid { hli with f10 := fun _ => hnew }, fun h => by obtain ⟨b, h1, h2, h3⟩ := hl12 h; exact ⟨b, h1, h2, blk_al h3 _⟩, hn12⟩
    · refine wpOp_step rfl (fun K' hK0 => ?_)
      have hK := Lib.hid hK0
      clear hK0
      obtain ⟨b24, rfl, r24⟩ := HLI.out.f4 rfl
      obtain ⟨b27, rfl, r27⟩ := HLI.out.f7 rfl
      obtain ⟨b30, rfl, r30⟩ := HLI.out.f10 rfl
      (try simp only [Act.put, List.getElem_toArray, List.getElem_cons_succ, List.getElem_cons_zero, List.setIfInBounds_toArray, List.set_cons_zero, List.set_cons_succ])
      go_simp
      have hnew : SV wr (fun x => v7 ≠ .pointer (some ⟨x, 0, none⟩)) (ssL (1000 - k) (4096 - k) (4096 - k)) (.agg #[.slice (some ⟨b24, 0, none⟩) 2 2, .slice (some ⟨b27, 0, none⟩) (4096 - k) (4096 - k), .slice (some ⟨b30, 0, none⟩) (4096 - k) (4096 - k)]) :=
        ⟨_, 2, _, 4096 - k, _, 4096 - k, by simp [ssL], r24, r27, r30, by simp [ssL], by simp [ssL], by simp [ssL], by simp [ssL, LI], by simp [ssL, LI]; omega, by simp [ssL, LI]; omega, by simp [ssL, LI]; omega⟩
      exact hK.out _ _ ⟨l0, l3, true, true, true, true, l12, v20, v23, .slice (some ⟨b24, 0, none⟩) 2 2, .slice (some ⟨b27, 0, none⟩) (4096 - k) (4096 - k), .slice (some ⟨b30, 0, none⟩) (4096 - k) (4096 - k), .agg #[.slice (some ⟨b24, 0, none⟩) 2 2, .slice (some ⟨b27, 0, none⟩) (4096 - k) (4096 - k), .slice (some ⟨b30, 0, none⟩) (4096 - k) (4096 - k)], v7, (by subst hf; simp; omega), rfl, (by simp only [Act.put, List.setIfInBounds_toArray, List.set_cons_zero, List.set_cons_succ]), HBL, Lib.hid { HLI.out with f11 := fun _ => hnew }, hl12, hn12⟩
    · refine wpOp_step rfl (fun K' hK0 => ?_)
      have hK := Lib.hid hK0
      clear hK0
      obtain rfl := hn12 rfl
      (try simp only [Act.put, List.getElem_toArray, List.getElem_cons_succ, List.getElem_cons_zero, List.setIfInBounds_toArray, List.set_cons_zero, List.set_cons_succ])
      go_simp
      have hli := HLI.out.keep (S' := fun x => Value.pointer (some ⟨wr.heap.size, 0, none⟩) ≠ .pointer (some ⟨x, 0, none⟩)) (fun b _ hlt h => by injection h with h; injection h with h; injection h with h; omega) (bl_al (Below.refl wr.heap.size wr) (.cells #[.slice none 0 0, .slice none 0 0, .slice none 0 0] 29))
      exact hK.out _ _ ⟨l0, l3, l4, l7, l10, l11, true, v20, v23, v24, v27, v30, v31, .pointer (some ⟨wr.heap.size, 0, none⟩), (by subst hf; simp), rfl, (by simp only [Act.put, List.setIfInBounds_toArray, List.set_cons_zero, List.set_cons_succ]), Lib.hid (bl_al HBL.out _), Lib.hid hli, fun _ => ⟨_, rfl, HBL.out.size, heap_alloc_new wr _⟩, fun h => by cases h⟩

end Go.Proofs.Ytekjfbnggfbfhaa
