/-
  Arguments of type []Step, opened.
-/
import Derived.Test.YtekjfbnggfbfhaaLiftS
import Derived.Test.YtekjfbnggfbfhaaLk
set_option linter.unusedSimpArgs false
set_option linter.unusedVariables false
namespace Go.Proofs.Ytekjfbnggfbfhaa
open Go.RowKit Go.ChangeShapes Go.WideShapes Go.ChangeAt Go.Deep

theorem cellsStep : Try.prog.cellsOf 63 = 11 := by kernel_rfl
theorem bytesStep : Try.prog.bytesOf 63 = 152 := by kernel_rfl
theorem cellsSs : Try.prog.cellsOf 48 = 1 := by kernel_rfl
theorem bytesStr : Try.prog.bytesOf 9 = 16 := by kernel_rfl

section
variable {H : Type} {enc : TypeId × Value → H} {w : World} {held : Bool}
instance : Inhabited ByteArray := ⟨⟨#[]⟩⟩

set_option maxRecDepth 100000 in
theorem open_strs {fuel : Nat} {cs : List Value} {x : DataW H × List MemPlace} (h : DataW.trod enc Try.prog w 0 (fun _ => true) held fuel 48 cs = some x) (hw : ∀ q ∈ x.1.weights Try.prog 48, q ≤ reachBytes) :
    ∃ (A : Option Addr) (l : List ByteArray) (c : Nat), cs = [.slice A l.length c] ∧ RowS w A l ∧ l.length ≤ 17592186044416 ∧ l.length ≤ c := by
  rcases open_row Try.underlying48 cellsStr bytesStr h hw with rfl | ⟨a, len, cap, rfl, hl, hcap, hat⟩
  · exact ⟨none, [], 0, rfl, fun i hi => absurd hi (by simp), Nat.zero_le _, Nat.zero_le _⟩
  · obtain ⟨l, hvl, hvs⟩ := choose_list (n := len) (P := fun i (x : ByteArray) => w.cells? 0 (a.add (i * 1)) 1 = some [.string x]) fun i hi => by
      obtain ⟨cs', y, n', hcs, ht, _⟩ := hat i hi
      obtain ⟨s, e1, _, _⟩ := DataW.trod_string Try.underlying9 ht
      exact ⟨s, by rw [hcs, e1]⟩
    refine ⟨some a, l, cap, by rw [hvl], fun i hi => ?_, by unfold reachBytes at hcap; omega, by omega⟩
    have hc := hvs i hi
    rw [Nat.mul_one] at hc
    exact ⟨a, rfl, cell0 hc⟩
instance : Inhabited STP := ⟨⟨0, zeroT', ⟨⟨#[]⟩, 0, 0⟩, 0, [], []⟩⟩

set_option maxRecDepth 100000 in
theorem open_step {fuel : Nat} {cs : List Value} {x : DataW H × List MemPlace} (h : DataW.trod enc Try.prog w 0 (fun _ => true) held fuel 63 cs = some x) (hw : ∀ q ∈ x.1.weights Try.prog 63, q ≤ reachBytes) :
    ∃ (q : STP) (A1 : Option Addr) (c1 : Nat) (A2 : Option Addr) (c2 : Nat) (A3 : Option Addr) (c3 : Nat), cs = [.int .u8 q.k, .int .u8 q.t.k, .int .i64 q.t.n, .string q.t.s, .slice A1 q.t.ks.length c1, .string q.v.s, .int .u8 q.v.k, .int .i64 q.v.n, .int .i64 q.x, .slice A2 q.ps.length c2, .slice A3 q.ss.length c3] ∧ StF w q A1 c1 A2 A3 := by
  have hts := DataW.trod_struct Try.underlying63 h
  obtain ⟨xs, n, hfu, hx, hcl, hxl, hg⟩ := hts
  subst hx
  rw [cellsStep] at hcl
  match cs, hcl with
  | [c0, c1, c2, c3, c4, c5, c6, c7, c8, c9, c10], _ =>
  match xs, hxl with
  | [y0, y1, y2, y3, y4, y5], _ =>
  have g0 := hg 0 _ rfl
  have g1 := hg 1 _ rfl
  have g2 := hg 2 _ rfl
  have g3 := hg 3 _ rfl
  have g4 := hg 4 _ rfl
  have g5 := hg 5 _ rfl
  have hw1 : ∀ q ∈ y1.1.weights Try.prog 36, q ≤ reachBytes := fun q hq => by
    refine hw q ?_
    simp only [List.map_cons, List.map_nil, DataW.weights, Try.underlying63]
    simp only [DataW.weightsEach, List.mem_append]
    exact .inr (.inl hq)
  have hw4 : ∀ q ∈ y4.1.weights Try.prog 25, q ≤ reachBytes := fun q hq => by
    refine hw q ?_
    simp only [List.map_cons, List.map_nil, DataW.weights, Try.underlying63]
    simp only [DataW.weightsEach, List.mem_append]
    exact .inr (.inr (.inr (.inr (.inl hq))))
  have hw5 : ∀ q ∈ y5.1.weights Try.prog 48, q ≤ reachBytes := fun q hq => by
    refine hw q ?_
    simp only [List.map_cons, List.map_nil, DataW.weights, Try.underlying63]
    simp only [DataW.weightsEach, List.mem_append]
    exact .inr (.inr (.inr (.inr (.inr (.inl hq)))))
  obtain ⟨k, e0, _, wk⟩ := DataW.trod_int Try.underlying5 g0
  obtain ⟨t, u0, u1, u2, u3, e1, hn, _, _⟩ := open_node _ _ _ g1 hw1
  obtain ⟨A1, k1, rfl, rfl, rfl, rfl, hn'⟩ := nv_parts hn
  obtain ⟨v, e2, hfv⟩ := open_vd g2
  obtain ⟨m, e3, _, wm⟩ := DataW.trod_int Try.underlying3 g3
  obtain ⟨A2, ps, k2, e4, hrow, hlp, _⟩ := open_varsW g4 hw4
  obtain ⟨A3, ss, k3, e5, hrs, hls, _⟩ := open_strs g5 hw5
  injection e0 with e0
  change List.take (Try.prog.cellsOf 36) [c1, c2, c3, c4, c5, c6, c7, c8, c9, c10] = _ at e1
  rw [cellsNode] at e1
  simp only [List.take_succ_cons, List.take_zero, List.cons.injEq, and_true] at e1
  obtain ⟨rfl, rfl, rfl, rfl⟩ := e1
  change List.take (Try.prog.cellsOf 24) [c5, c6, c7, c8, c9, c10] = _ at e2
  rw [cellsVd] at e2
  simp only [List.take_succ_cons, List.take_zero, List.cons.injEq, and_true] at e2
  obtain ⟨rfl, rfl, rfl⟩ := e2
  injection e3 with e3
  injection e4 with e4
  injection e5 with e5
  subst e0 e3 e4 e5
  refine ⟨⟨k, t, v, m, ps, ss⟩, A1, k1, A2, k2, A3, k3, rfl, ?_, hn', hfv, ?_, hrow, hrs, hlp, hls⟩
  · have := wk; simp [Lit.wf, IntKind.min, IntKind.max, IntKind.signed, IntKind.bits] at this; constructor <;> simp only <;> omega
  · have := wm; simp [Lit.wf, IntKind.min, IntKind.max, IntKind.signed, IntKind.bits] at this; constructor <;> simp only <;> omega

set_option maxRecDepth 100000 in
theorem open_steps {fuel : Nat} {cs : List Value} {x : DataW H × List MemPlace} (h : DataW.trod enc Try.prog w 0 (fun _ => true) held fuel 60 cs = some x) (hw : ∀ q ∈ x.1.weights Try.prog 60, q ≤ reachBytes) :
    ∃ (A : Option Addr) (l : List STP) (c : Nat), cs = [.slice A l.length c] ∧ RowT w A l ∧ l.length ≤ 140737488355328 := by
  rcases open_row Try.underlying60 cellsStep bytesStep h hw with rfl | ⟨a, len, cap, rfl, hl, hcap, hat⟩
  · exact ⟨none, [], 0, rfl, fun i hi => absurd hi (by simp), Nat.zero_le _⟩
  · obtain ⟨l, hvl, hvs⟩ := choose_list (n := len) (P := fun i (q : STP) => ∃ (A1 : Option Addr) (c1 : Nat) (A2 : Option Addr) (c2 : Nat) (A3 : Option Addr) (c3 : Nat), w.cells? 0 (a.add (i * 11)) 11 = some [.int .u8 q.k, .int .u8 q.t.k, .int .i64 q.t.n, .string q.t.s, .slice A1 q.t.ks.length c1, .string q.v.s, .int .u8 q.v.k, .int .i64 q.v.n, .int .i64 q.x, .slice A2 q.ps.length c2, .slice A3 q.ss.length c3] ∧ StF w q A1 c1 A2 A3) fun i hi => by
      obtain ⟨cs', y, n', hcs, ht, hwy⟩ := hat i hi
      obtain ⟨q, A1, c1, A2, c2, A3, c3, rfl, hf⟩ := open_step ht hwy
      exact ⟨q, A1, c1, A2, c2, A3, c3, hcs, hf⟩
    refine ⟨some a, l, cap, by rw [hvl], fun i hi => ?_, by unfold reachBytes at hcap; omega⟩
    obtain ⟨A1, c1, A2, c2, A3, c3, hc, hf⟩ := hvs i hi
    obtain ⟨_, _, hcell⟩ := World.cells?_some hc
    refine ⟨a, A1, c1, A2, c2, A3, c3, rfl, ⟨?_, ?_, ?_, ?_, ?_, ?_, ?_, ?_, ?_, ?_, ?_⟩, hf⟩
    · have := hcell 0 (by omega); simpa [Addr.add] using this
    · have := hcell 1 (by omega); simpa [Addr.add] using this
    · have := hcell 2 (by omega); simpa [Addr.add] using this
    · have := hcell 3 (by omega); simpa [Addr.add] using this
    · have := hcell 4 (by omega); simpa [Addr.add] using this
    · have := hcell 5 (by omega); simpa [Addr.add] using this
    · have := hcell 6 (by omega); simpa [Addr.add] using this
    · have := hcell 7 (by omega); simpa [Addr.add] using this
    · have := hcell 8 (by omega); simpa [Addr.add] using this
    · have := hcell 9 (by omega); simpa [Addr.add] using this
    · have := hcell 10 (by omega); simpa [Addr.add] using this

set_option maxRecDepth 100000 in
theorem steps_in {W : World} {base : Nat} {v : Value} {d : DataW H} {p : List MemPlace} (hok : Value.okWide Try.prog W .any base 60 v)
    (h : DataW.Trod enc Try.prog W 0 (fun _ => true) true 60 v d p) (hw : ∀ n ∈ d.weights Try.prog 60, n ≤ reachBytes) : ∃ (A : Option Addr) (vs : List STP) (c : Nat), v = .slice A vs.length c ∧ RowT W A vs ∧ vs.length ≤ 140737488355328 := by
  obtain ⟨a, len, cap, rfl⟩ := okWide_slice Try.underlying60 hok
  obtain ⟨fuel, hf⟩ := h
  obtain ⟨A, vs, c, e, hr, h1⟩ := open_steps hf hw
  refine ⟨A, vs, c, ?_, hr, h1⟩
  simpa [Value.cells] using e
end

end Go.Proofs.Ytekjfbnggfbfhaa
