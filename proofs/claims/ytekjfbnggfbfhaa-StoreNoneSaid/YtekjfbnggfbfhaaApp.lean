/-
  'row = append(row, nodes...)' onto a row that is the call's own. No program stands here.
-/
import Derived.Test.YtekjfbnggfbfhaaBld
namespace Go.Proofs.Ytekjfbnggfbfhaa
open Go.RowKit

/-- What an append copies: the nodes us, read from A on; what they lead to meets S. -/
def Src (w : World) (S : Nat → Prop) (A : Option Addr) (us : List T) : Prop :=
  ∀ i (hi : i < us.length), ∃ a u0 u1 u2 u3, A = some a ∧ Cell4 w (a.add (i * 4)) u0 u1 u2 u3 ∧ NV w S us[i] (.agg #[u0, u1, u2, u3])

theorem add_add (a : Addr) (i j : Nat) : (a.add i).add j = a.add (i + j) := by
  by_cases hi : i = 0
  · subst hi; simp [Addr.add]
  by_cases hj : j = 0
  · subst hj; simp [Addr.add]
  simp [Addr.add, hi, hj, Nat.add_assoc]

theorem Src.mono {w : World} {S S' : Nat → Prop} {A : Option Addr} {us : List T} (h : Src w S A us) (hS : ∀ b, S b → S' b) : Src w S' A us := fun i hi =>
  let ⟨a, u0, u1, u2, u3, h1, h2, h3⟩ := h i hi; ⟨a, u0, u1, u2, u3, h1, h2, h3.mono hS⟩
theorem RowAt.src {w : World} {S : Nat → Prop} {A : Option Addr} {us : List T} (h : RowAt w S A us) : Src w S A us := fun i hi =>
  let ⟨a, u0, u1, u2, u3, h1, _, h2, h3⟩ := h i hi; ⟨a, u0, u1, u2, u3, h1, h2, h3⟩

/-- The cells of such a row, as one list. -/
theorem Src.news {w : World} {S : Nat → Prop} {a : Addr} : ∀ {us : List T}, Src w S (some a) us → ∃ news : List Value, news.length = us.length * 4 ∧ (∀ j u, news[j]? = some u → w.cell? (a.add j) = some u) ∧ (∀ u ∈ news, u.oneCell' = true) ∧
    ∀ i (hi : i < us.length), ∃ u0 u1 u2 u3, news[i * 4]? = some u0 ∧ news[i * 4 + 1]? = some u1 ∧ news[i * 4 + 2]? = some u2 ∧ news[i * 4 + 3]? = some u3 ∧ NV w S us[i] (.agg #[u0, u1, u2, u3]) := by
  intro us
  induction us generalizing a with
  | nil => exact fun _ => ⟨[], rfl, fun j u h => by simp at h, fun u h => by simp at h, fun i hi => absurd hi (by simp)⟩
  | cons t us ih =>
    intro h
    obtain ⟨a', u0, u1, u2, u3, e, hc, hn⟩ := h 0 (by simp)
    injection e with e
    subst e
    have ho : u0.oneCell' = true ∧ u1.oneCell' = true ∧ u2.oneCell' = true ∧ u3.oneCell' = true := by
      obtain ⟨A', c', e, _⟩ := hn.open_
      simp only [nv, Value.agg.injEq, Array.mk.injEq, List.cons.injEq, and_true] at e
      obtain ⟨rfl, rfl, rfl, rfl⟩ := e
      exact ⟨rfl, rfl, rfl, rfl⟩
    obtain ⟨news, hl, hcell, h1, hns⟩ := ih (a := a.add 4) (fun i hi => by
      obtain ⟨a'', y0, y1, y2, y3, e, hc, hn⟩ := h (i + 1) (by simpa using hi)
      injection e with e
      subst e
      refine ⟨_, y0, y1, y2, y3, rfl, ?_, by simpa using hn⟩
      rw [add_add]
      rw [show 4 + i * 4 = (i + 1) * 4 by omega]
      exact hc)
    obtain ⟨c0, c1, c2, c3⟩ := hc
    simp only [Nat.zero_mul] at c0 c1 c2 c3
    refine ⟨u0 :: u1 :: u2 :: u3 :: news, by simp [hl]; omega, fun j u hj => ?_, fun u hu => ?_, fun i hi => ?_⟩
    · rcases j with _ | _ | _ | _ | j
      · simp at hj; subst hj; exact c0
      · simp at hj; subst hj; exact c1
      · simp at hj; subst hj; exact c2
      · simp at hj; subst hj; exact c3
      · have := hcell j u (by simpa using hj)
        rw [add_add] at this
        rw [show j + 1 + 1 + 1 + 1 = 4 + j by omega]
        exact this
    · simp only [List.mem_cons] at hu
      rcases hu with rfl | rfl | rfl | rfl | hu
      · exact ho.1
      · exact ho.2.1
      · exact ho.2.2.1
      · exact ho.2.2.2
      · exact h1 u hu
    · rcases i with _ | i
      · exact ⟨_, _, _, _, rfl, rfl, rfl, rfl, by simpa using hn⟩
      · obtain ⟨y0, y1, y2, y3, e0, e1, e2, e3, hv⟩ := hns i (by simpa using hi)
        refine ⟨y0, y1, y2, y3, ?_, ?_, ?_, ?_, by simpa using hv⟩
        · rw [show (i + 1) * 4 = i * 4 + 1 + 1 + 1 + 1 by omega]; simpa using e0
        · rw [show (i + 1) * 4 + 1 = i * 4 + 1 + 1 + 1 + 1 + 1 by omega]; simpa using e1
        · rw [show (i + 1) * 4 + 2 = i * 4 + 2 + 1 + 1 + 1 + 1 by omega]; simpa using e2
        · rw [show (i + 1) * 4 + 3 = i * 4 + 3 + 1 + 1 + 1 + 1 by omega]; simpa using e3

/-- What such an append leaves. -/
theorem run_append_nodes {P : Program} {W : World} (ty rty : TypeId) (E : TypeId) (i : TypeInfo) (z : Value) (ht : P.underlying ty = some (.slice E)) (hi : P.info? E = some i) (hz : i.zero = some z)
    (hsize : i.size = 4) (hby : i.bytes = 56) (hzs : z.cells.size = 4) (base : Nat) (S : Nat → Prop) (v : Value) (ts : List T) (hown : OwnN W base E S v ts)
    (us : List T) (A : Option Addr) (c : Nat) (hr : Src W (fun b => S b ∧ some b ≠ v.ownBlock) A us) (hlen : ts.length + us.length ≤ LK) (hbase : base ≤ W.heap.size) :
    ∃ v' w', (Builtin.append_ #[ty, ty] rty #[v, .slice A us.length c]).run P W = .ok v' w' ∧ OwnN w' base E S v' (ts ++ us) ∧ W.grownBy w' v.ownBlock ∧ (v'.ownBlock = v.ownBlock ∨ v'.ownBlock = some W.heap.size) := by
  obtain ⟨xs, hrow, hlk, hns⟩ := hown
  rcases A with _ | a
  · have hu : us = [] := by
      cases us with
      | nil => rfl
      | cons t us => obtain ⟨_, _, _, _, _, h, _⟩ := hr 0 (by simp); cases h
    subst hu
    refine ⟨v, W, ?_, by simpa using ⟨xs, hrow, hlk, hns⟩, only_refl _ _, .inl rfl⟩
    rcases hrow.2 with ⟨rfl, h0⟩ | ⟨g, cap, cur, rfl, _, _, hnc, _⟩
    · simp [Builtin.append_, run_underlying ht, sizeOf, typeInfo, hi, Builtin.lenOf, Builtin.firstCells]
    · simp [Builtin.append_, run_underlying ht, sizeOf, typeInfo, hi, Builtin.lenOf, Builtin.firstCells, hnc, storeCells]
  · obtain ⟨news, hl, hcell, h1, hnn⟩ := hr.news
    have hl56 : (ts.length + us.length) * 56 ≤ 140737488355328 := by unfold LK at hlen; omega
    have hl63 : ts.length + us.length ≤ maxLen := by unfold LK at hlen; unfold maxLen; omega
    obtain ⟨v', w', hrun, h2, h3, _, h5⟩ := run_append_own_at (P := P) W base ty rty E i z 4 56 ht hi hz hsize hby hzs (by decide) v ts.length xs hrow a us.length c news hl hcell h1 hl63 hl56 hbase
    refine ⟨v', w', hrun, ?_, h3, h5⟩
    have hk : ∀ {t : T} {u : Value}, NV W (fun b => S b ∧ some b ≠ v.ownBlock) t u → NV w' (fun b => S b ∧ some b ≠ v'.ownBlock) t u := by
      intro t u h
      refine h.keep (fun b hb hlt => ⟨hb.1, ?_⟩) (fun b hb hlt => h3.block b hlt hb.2)
      rcases h5 with h5 | h5 <;> rw [h5]
      · exact hb.2
      · intro e; injection e with e; omega
    refine ⟨xs ++ news, by simpa using h2, by simpa using hlen, fun q hq => ?_⟩
    have hxl := hrow.1
    by_cases h : q < ts.length
    · obtain ⟨y0, y1, y2, y3, e0, e1, e2, e3, hv⟩ := hns q h
      refine ⟨y0, y1, y2, y3, ?_, ?_, ?_, ?_, by rw [List.getElem_append_left h]; exact hk hv⟩ <;> rw [List.getElem?_append_left (by omega)] <;> assumption
    · have hq' : q - ts.length < us.length := by simp at hq; omega
      obtain ⟨y0, y1, y2, y3, e0, e1, e2, e3, hv⟩ := hnn (q - ts.length) hq'
      refine ⟨y0, y1, y2, y3, ?_, ?_, ?_, ?_, by rw [List.getElem_append_right (by omega)]; exact hk hv⟩
      · rw [List.getElem?_append_right (by omega), hxl, show q * 4 - ts.length * 4 = (q - ts.length) * 4 by omega]; exact e0
      · rw [List.getElem?_append_right (by omega), hxl, show q * 4 + 1 - ts.length * 4 = (q - ts.length) * 4 + 1 by omega]; exact e1
      · rw [List.getElem?_append_right (by omega), hxl, show q * 4 + 2 - ts.length * 4 = (q - ts.length) * 4 + 2 by omega]; exact e2
      · rw [List.getElem?_append_right (by omega), hxl, show q * 4 + 3 - ts.length * 4 = (q - ts.length) * 4 + 3 by omega]; exact e3

/-- 'row = append(row, nodes...)', as one step of a region that draws its order. -/
theorem step_append_nodes {P : Program} {W : World} {ops : Array Oper} {o : Oper} {a : Act} {K : Act → World → Prop} {Q : Exit → Act → World → Prop} {F : Prop} (hgd : o.guard = none) (s x : Operand) (ty : TypeId)
    (ho : o.op = .call { callee := .builtin .append, args := #[s, x], argTypes := #[ty, ty] }) (E : TypeId) (i : TypeInfo) (z : Value) (ht : P.underlying ty = some (.slice E)) (hi : P.info? E = some i) (hz : i.zero = some z)
    (hsize : i.size = 4) (hby : i.bytes = 56) (hzs : z.cells.size = 4) (base : Nat) (S : Nat → Prop) (v : Value) (ts : List T) (hs : a.eval s = v) (hown : OwnN W base E S v ts)
    (us : List T) (A : Option Addr) (m c : Nat) (hm : us.length = m) (hx : a.eval x = .slice A m c) (hr : Src W (fun b => S b ∧ some b ≠ v.ownBlock) A us) (hlen : ts.length + us.length ≤ LK) (hbase : base ≤ W.heap.size)
    (h : ∀ v' w', OwnN w' base E S v' (ts ++ us) → W.grownBy w' v.ownBlock → (v'.ownBlock = v.ownBlock ∨ v'.ownBlock = some W.heap.size) → K (a.put o.dst v') w') :
    if Region.wanted o (yielded ops a.tmps) = true then Oper.wp P o a W K Q else F := by
  have hw : Region.wanted o (yielded ops a.tmps) = true := by simp [Region.wanted, hgd]
  rw [if_pos hw]
  subst hm
  obtain ⟨v', w', hrun, h2, h3, h5⟩ := run_append_nodes (P := P) (W := W) ty o.type E i z ht hi hz hsize hby hzs base S v ts hown us A c hr hlen hbase
  unfold Oper.wp execOp
  simp only [ho, resolve, invoke, builtin, Sem.run_bind, Sem.run_pure, Result.andThen_ok, List.map_toArray, List.map_cons, List.map_nil, hs, hx, hrun]
  exact h v' w' h2 h3 h5

end Go.Proofs.Ytekjfbnggfbfhaa
