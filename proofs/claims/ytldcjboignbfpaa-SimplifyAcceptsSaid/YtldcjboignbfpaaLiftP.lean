/-
  An argument of type api.Program, opened: the program that it reads as.
-/
import Derived.Test.YtldcjboignbfpaaLift
import Derived.Test.YtldcjboignbfpaaPi
namespace Go.Proofs.Ytldcjboignbfpaa
open Go.RowKit Go.ChangeShapes Go.WideShapes Go.ChangeAt Go.Deep

theorem cellsVd : Try.prog.cellsOf 56 = 3 := by kernel_rfl
theorem bytesVd : Try.prog.bytesOf 56 = 32 := by kernel_rfl
theorem cellsPr : Try.prog.cellsOf 58 = 6 := by kernel_rfl
theorem bytesPr : Try.prog.bytesOf 58 = 96 := by kernel_rfl
theorem cellsPg : Try.prog.cellsOf 38 = 6 := by kernel_rfl
theorem cellsVds : Try.prog.cellsOf 35 = 1 := by kernel_rfl
theorem cellsPrs : Try.prog.cellsOf 36 = 1 := by kernel_rfl

section
variable {H : Type} {enc : TypeId × Value → H} {w : World} {held : Bool}

/-- A slice, opened: nil, or a row whose elements can be opened. -/
theorem open_row {ty E : TypeId} {n b : Nat} (ht : Try.prog.underlying ty = some (.slice E)) (hc : Try.prog.cellsOf E = n) (hb : Try.prog.bytesOf E = b) {fuel : Nat} {cs : List Value} {x : DataW H × List MemPlace}
    (h : DataW.trod enc Try.prog w 0 (fun _ => true) held fuel ty cs = some x) (hw : ∀ q ∈ x.1.weights Try.prog ty, q ≤ reachBytes) :
    cs = [.slice none 0 0] ∨ ∃ a len cap, cs = [.slice (some a) len cap] ∧ len ≤ cap ∧ cap * b ≤ reachBytes ∧ ∀ i, i < len → ∃ cs' y n', w.cells? 0 (a.add (i * n)) n = some cs' ∧ DataW.trod enc Try.prog w 0 (fun _ => true) held n' E cs' = some y ∧ ∀ q ∈ y.1.weights Try.prog E, q ≤ reachBytes := by
  have hsl := DataW.trod_slice ht h
  rcases hsl with ⟨e3, e3'⟩ | ⟨a, len, cap, elems, rest, n', hn', e3, e3', _, hl, hm, hel, hat, hsp, _⟩
  · exact .inl e3
  · refine .inr ⟨a, len, cap, e3, hl, ?_, ?_⟩
    · obtain ⟨hrl, _⟩ := hsp rfl
      subst e3'
      simp only [DataW.weights, ht, hb] at hw
      have := hw _ (List.mem_cons_self ..)
      simp only [List.length_map] at this
      rw [hel, hrl] at this
      rw [show cap = len + (cap - len) by omega]
      exact this
    · intro i hi
      subst e3'
      simp only [DataW.weights, ht, hb] at hw
      have hi' : i < elems.length := by omega
      have h1 := hat i (by omega)
      rw [List.getElem?_eq_getElem hi', hc] at h1
      obtain ⟨cs', hcs, ht'⟩ := Option.bind_eq_some_iff.1 h1
      exact ⟨cs', elems[i], n', hcs, ht', fun q hq => hw q (List.mem_cons_of_mem _ (List.mem_append_left _ (weightsAll_mem (List.mem_map_of_mem (List.getElem_mem hi')) q hq)))⟩

set_option maxRecDepth 100000 in
theorem open_vd {fuel : Nat} {cs : List Value} {x : DataW H × List MemPlace} (h : DataW.trod enc Try.prog w 0 (fun _ => true) held fuel 56 cs = some x) :
    ∃ v : VD, cs = [.string v.s, .int .u8 v.k, .int .i64 v.n] ∧ FldV v := by
  have hts := DataW.trod_struct Try.underlying56 h
  obtain ⟨xs, n, hfu, hx, hcl, hxl, hg⟩ := hts
  rw [cellsVd] at hcl
  match cs, hcl with
  | [c0, c1, c2], _ =>
  match xs, hxl with
  | [y0, y1, y2], _ =>
  have g0 := hg 0 _ rfl
  have g1 := hg 1 _ rfl
  have g2 := hg 2 _ rfl
  obtain ⟨s, e2, e2', ws⟩ := DataW.trod_string Try.underlying9 g0
  obtain ⟨k, e0, e0', wk⟩ := DataW.trod_int Try.underlying5 g1
  obtain ⟨m, e1, e1', wm⟩ := DataW.trod_int Try.underlying3 g2
  injection e0 with e0
  injection e1 with e1
  injection e2 with e2
  subst e0 e1 e2
  refine ⟨⟨s, k, m⟩, rfl, ws, ?_, ?_⟩
  · have := wk; simp [Lit.wf, IntKind.min, IntKind.max, IntKind.signed, IntKind.bits] at this; constructor <;> simp only <;> omega
  · have := wm; simp [Lit.wf, IntKind.min, IntKind.max, IntKind.signed, IntKind.bits] at this; constructor <;> simp only <;> omega

theorem choose_list {α : Type} [Inhabited α] {n : Nat} {P : Nat → α → Prop} (h : ∀ i, i < n → ∃ x, P i x) : ∃ l : List α, l.length = n ∧ ∀ i (hi : i < l.length), P i l[i] := by
  obtain ⟨f, hf⟩ := choose_lt h
  exact ⟨(List.range n).map f, by simp, fun i hi => by simp only [List.getElem_map, List.getElem_range]; exact hf i (by simpa using hi)⟩
instance : Inhabited VD := ⟨⟨⟨#[]⟩, 0, 0⟩⟩

set_option maxRecDepth 100000 in
theorem open_vars {fuel : Nat} {cs : List Value} {x : DataW H × List MemPlace} (h : DataW.trod enc Try.prog w 0 (fun _ => true) held fuel 35 cs = some x) (hw : ∀ q ∈ x.1.weights Try.prog 35, q ≤ reachBytes) :
    ∃ (A : Option Addr) (vs : List VD) (c : Nat), cs = [.slice A vs.length c] ∧ RowV w Any A vs ∧ vs.length ≤ LV ∧ vs.length ≤ c := by
  rcases open_row Try.underlying35 cellsVd bytesVd h hw with rfl | ⟨a, len, cap, rfl, hl, hcap, hat⟩
  · exact ⟨none, [], 0, rfl, fun i hi => absurd hi (by simp), Nat.zero_le _, Nat.zero_le _⟩
  · obtain ⟨vs, hvl, hvs⟩ := choose_list (n := len) (P := fun i (v : VD) => w.cells? 0 (a.add (i * 3)) 3 = some [.string v.s, .int .u8 v.k, .int .i64 v.n] ∧ FldV v) fun i hi => by
      obtain ⟨cs', y, n', hcs, ht, _⟩ := hat i hi
      obtain ⟨v, rfl, hf⟩ := open_vd ht
      exact ⟨v, hcs, hf⟩
    refine ⟨some a, vs, cap, by rw [hvl], fun i hi => ?_, by unfold LV; unfold reachBytes at hcap; omega, by omega⟩
    obtain ⟨hc, hf⟩ := hvs i hi
    obtain ⟨_, _, hcell⟩ := World.cells?_some hc
    refine ⟨a, rfl, trivial, ⟨?_, ?_, ?_⟩, hf⟩
    · have := hcell 0 (by omega); simpa [Addr.add] using this
    · have := hcell 1 (by omega); simpa [Addr.add] using this
    · have := hcell 2 (by omega); simpa [Addr.add] using this

instance : Inhabited T := ⟨zeroT'⟩
instance : Inhabited PR := ⟨⟨⟨#[]⟩, [], zeroT'⟩⟩

theorem nv_parts {t : T} {u0 u1 u2 u3 : Value} (h : NV w Any t (.agg #[u0, u1, u2, u3])) : ∃ A c, u0 = .int .u8 t.k ∧ u1 = .int .i64 t.n ∧ u2 = .string t.s ∧ u3 = .slice A t.ks.length c ∧ NV w Any t (nv t.k t.n t.s A t.ks.length c) := by
  obtain ⟨A, c, e, _⟩ := h.open_
  have e' := e
  simp only [nv, Value.agg.injEq, Array.mk.injEq, List.cons.injEq, and_true] at e
  exact ⟨A, c, e.1, e.2.1, e.2.2.1, e.2.2.2, e' ▸ h⟩

set_option maxRecDepth 100000 in
theorem open_proc {fuel : Nat} {cs : List Value} {x : DataW H × List MemPlace} (h : DataW.trod enc Try.prog w 0 (fun _ => true) held fuel 58 cs = some x) (hw : ∀ q ∈ x.1.weights Try.prog 58, q ≤ reachBytes) :
    ∃ (r : PR) (A1 : Option Addr) (c1 : Nat) (A2 : Option Addr) (c2 : Nat), cs = [.string r.s, .slice A1 r.ps.length c1, .int .u8 r.b.k, .int .i64 r.b.n, .string r.b.s, .slice A2 r.b.ks.length c2] ∧ PrR w Any r A1 c1 A2 c2 := by
  have hts := DataW.trod_struct Try.underlying58 h
  obtain ⟨xs, n, hfu, hx, hcl, hxl, hg⟩ := hts
  subst hx
  rw [cellsPr] at hcl
  match cs, hcl with
  | [c0, c1, c2, c3, c4, c5], _ =>
  match xs, hxl with
  | [y0, y1, y2], _ =>
  have g0 := hg 0 _ rfl
  have g1 := hg 1 _ rfl
  have g2 := hg 2 _ rfl
  have hw1 : ∀ q ∈ y1.1.weights Try.prog 35, q ≤ reachBytes := fun q hq => by
    refine hw q ?_
    simp only [List.map_cons, List.map_nil, DataW.weights, Try.underlying58]
    simp only [DataW.weightsEach, List.map_cons, List.map_nil, List.mem_append]
    exact .inr (.inl hq)
  have hw2 : ∀ q ∈ y2.1.weights Try.prog 24, q ≤ reachBytes := fun q hq => by
    refine hw q ?_
    simp only [List.map_cons, List.map_nil, DataW.weights, Try.underlying58]
    simp only [DataW.weightsEach, List.map_cons, List.map_nil, List.mem_append]
    exact .inr (.inr (.inl hq))
  obtain ⟨s, e0, _, ws⟩ := DataW.trod_string Try.underlying9 g0
  obtain ⟨A1, ps, k1, e1, hrow, hlp, hlc⟩ := open_vars g1 hw1
  obtain ⟨t, u0, u1, u2, u3, e2, hn, _, _⟩ := open_node _ _ _ g2 hw2
  obtain ⟨A2, k2, rfl, rfl, rfl, rfl, hn'⟩ := nv_parts hn
  injection e0 with e0
  injection e1 with e1
  change List.take (Try.prog.cellsOf 24) [c2, c3, c4, c5] = _ at e2
  rw [cellsNode] at e2
  simp only [List.take_succ_cons, List.take_zero, List.cons.injEq, and_true] at e2
  obtain ⟨rfl, rfl, rfl, rfl⟩ := e2
  subst e0 e1
  exact ⟨⟨s, ps, t⟩, A1, k1, A2, k2, rfl, ws, hrow, hlp, hlc, hn'⟩

set_option maxRecDepth 100000 in
theorem open_procs {fuel : Nat} {cs : List Value} {x : DataW H × List MemPlace} (h : DataW.trod enc Try.prog w 0 (fun _ => true) held fuel 36 cs = some x) (hw : ∀ q ∈ x.1.weights Try.prog 36, q ≤ reachBytes) :
    ∃ (A : Option Addr) (ps : List PR) (c : Nat), cs = [.slice A ps.length c] ∧ RowP w Any A ps ∧ ps.length ≤ LV ∧ ps.length ≤ c := by
  rcases open_row Try.underlying36 cellsPr bytesPr h hw with rfl | ⟨a, len, cap, rfl, hl, hcap, hat⟩
  · exact ⟨none, [], 0, rfl, fun i hi => absurd hi (by simp), Nat.zero_le _, Nat.zero_le _⟩
  · obtain ⟨ps, hvl, hvs⟩ := choose_list (n := len) (P := fun i (r : PR) => ∃ A1 c1 A2 c2, w.cells? 0 (a.add (i * 6)) 6 = some [.string r.s, .slice A1 r.ps.length c1, .int .u8 r.b.k, .int .i64 r.b.n, .string r.b.s, .slice A2 r.b.ks.length c2] ∧ PrR w Any r A1 c1 A2 c2) fun i hi => by
      obtain ⟨cs', y, n', hcs, ht, hwy⟩ := hat i hi
      obtain ⟨r, A1, c1, A2, c2, rfl, hr⟩ := open_proc ht hwy
      exact ⟨r, A1, c1, A2, c2, hcs, hr⟩
    refine ⟨some a, ps, cap, by rw [hvl], fun i hi => ?_, by unfold LV; unfold reachBytes at hcap; omega, by omega⟩
    obtain ⟨A1, c1, A2, c2, hc, hr⟩ := hvs i hi
    obtain ⟨_, _, hcell⟩ := World.cells?_some hc
    refine ⟨a, A1, c1, A2, c2, rfl, trivial, ⟨?_, ?_, ?_, ?_, ?_, ?_⟩, hr⟩
    · have := hcell 0 (by omega); simpa [Addr.add] using this
    · have := hcell 1 (by omega); simpa [Addr.add] using this
    · have := hcell 2 (by omega); simpa [Addr.add] using this
    · have := hcell 3 (by omega); simpa [Addr.add] using this
    · have := hcell 4 (by omega); simpa [Addr.add] using this
    · have := hcell 5 (by omega); simpa [Addr.add] using this

set_option maxRecDepth 100000 in
theorem open_prog {fuel : Nat} {cs : List Value} {x : DataW H × List MemPlace} (h : DataW.trod enc Try.prog w 0 (fun _ => true) held fuel 38 cs = some x) (hw : ∀ q ∈ x.1.weights Try.prog 38, q ≤ reachBytes) :
    ∃ (p : PG) (A1 : Option Addr) (c1 : Nat) (A2 : Option Addr) (c2 : Nat) (A3 : Option Addr) (c3 : Nat), cs = [.slice A1 p.vs.length c1, .slice A2 p.prs.length c2, .int .u8 p.m.k, .int .i64 p.m.n, .string p.m.s, .slice A3 p.m.ks.length c3] ∧ PgR w Any p A1 c1 A2 c2 A3 c3 := by
  have hts := DataW.trod_struct Try.underlying38 h
  obtain ⟨xs, n, hfu, hx, hcl, hxl, hg⟩ := hts
  subst hx
  rw [cellsPg] at hcl
  match cs, hcl with
  | [c0, c1, c2, c3, c4, c5], _ =>
  match xs, hxl with
  | [y0, y1, y2], _ =>
  have g0 := hg 0 _ rfl
  have g1 := hg 1 _ rfl
  have g2 := hg 2 _ rfl
  have hw0 : ∀ q ∈ y0.1.weights Try.prog 35, q ≤ reachBytes := fun q hq => by
    refine hw q ?_
    simp only [List.map_cons, List.map_nil, DataW.weights, Try.underlying38]
    simp only [DataW.weightsEach, List.map_cons, List.map_nil, List.mem_append]
    exact .inl hq
  have hw1 : ∀ q ∈ y1.1.weights Try.prog 36, q ≤ reachBytes := fun q hq => by
    refine hw q ?_
    simp only [List.map_cons, List.map_nil, DataW.weights, Try.underlying38]
    simp only [DataW.weightsEach, List.map_cons, List.map_nil, List.mem_append]
    exact .inr (.inl hq)
  have hw2 : ∀ q ∈ y2.1.weights Try.prog 24, q ≤ reachBytes := fun q hq => by
    refine hw q ?_
    simp only [List.map_cons, List.map_nil, DataW.weights, Try.underlying38]
    simp only [DataW.weightsEach, List.map_cons, List.map_nil, List.mem_append]
    exact .inr (.inr (.inl hq))
  obtain ⟨A1, vs, k1, e0, hrow, hlv, hlvc⟩ := open_vars g0 hw0
  obtain ⟨A2, ps, k2, e1, hrp, hlp, hlpc⟩ := open_procs g1 hw1
  obtain ⟨t, u0, u1, u2, u3, e2, hn, _, _⟩ := open_node _ _ _ g2 hw2
  obtain ⟨A3, k3, rfl, rfl, rfl, rfl, hn'⟩ := nv_parts hn
  injection e0 with e0
  injection e1 with e1
  change List.take (Try.prog.cellsOf 24) [c2, c3, c4, c5] = _ at e2
  rw [cellsNode] at e2
  simp only [List.take_succ_cons, List.take_zero, List.cons.injEq, and_true] at e2
  obtain ⟨rfl, rfl, rfl, rfl⟩ := e2
  subst e0 e1
  exact ⟨⟨vs, ps, t⟩, A1, k1, A2, k2, A3, k3, rfl, hrow, hlv, hlvc, hrp, hlp, hlpc, hn'⟩
end

end Go.Proofs.Ytldcjboignbfpaa

/-
  What the lifted proofs share: an argument of type api.Program, opened and kept.
-/
namespace Go.Proofs.Ytldcjboignbfpaa
open Go.RowKit Go.ChangeShapes Go.WideShapes Go.ChangeAt Go.Deep

set_option maxRecDepth 100000 in
theorem prog_in {H : Type} {enc : TypeId × Value → H} {W : World} {base : Nat} {v : Value} {d : DataW H} {p : List MemPlace} (hok : Value.okWide Try.prog W .any base 38 v)
    (h : DataW.Trod enc Try.prog W 0 (fun _ => true) true 38 v d p) (hw : ∀ n ∈ d.weights Try.prog 38, n ≤ reachBytes) : ∃ g, PV W Any g v := by
  obtain ⟨cs, rfl, hcs⟩ := okWide_struct Try.underlying38 hok
  obtain ⟨fuel, hf⟩ := h
  obtain ⟨g, A1, c1, A2, c2, A3, c3, e, hr⟩ := open_prog hf hw
  refine ⟨g, A1, c1, A2, c2, A3, c3, ?_, hr⟩
  have : cs = #[.slice A1 g.vs.length c1, .slice A2 g.prs.length c2, .int .u8 g.m.k, .int .i64 g.m.n, .string g.m.s, .slice A3 g.m.ks.length c3] := by
    apply Array.ext'
    simpa [Value.cells] using e
  rw [this]

set_option maxRecDepth 100000 in
theorem prog_kept {H : Type} {enc : TypeId × Value → H} {W W' : World} {v : Value} {d : DataW H} {p : List MemPlace}
    (h : DataW.Trod enc Try.prog W 0 (fun _ => true) true 38 v d p) (hb : Below W.heap.size W W') (hlt : ∀ x ∈ p, x.block < W.heap.size) :
    DataW.Trod enc Try.prog W' 0 (fun b => decide (b < W.heap.size)) true 38 v d p :=
  Below.trod Try.laidOut (by kernel_rfl) (of_decide_eq_true (by kernel_rfl)) h hb hlt

end Go.Proofs.Ytldcjboignbfpaa
