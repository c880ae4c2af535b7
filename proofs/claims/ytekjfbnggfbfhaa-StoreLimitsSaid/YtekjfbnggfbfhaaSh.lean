/-
  arith.Update; the basic statements, plainly.
-/
import Derived.Test.YtekjfbnggfbfhaaSg
import Derived.Test.YtekjfbnggfbfhaaStf
namespace Go.Proofs.Ytekjfbnggfbfhaa
open Go Go.RowKit

set_option maxHeartbeats 2000000 in
theorem Update_any (k x y : Int) (hk : k = 40 ∨ k = 41 ∨ k = 42) (w : World) : Calls Try.prog 61 #[.int .u8 k, .int .i64 x, .int .i64 y] w fun e w' => e = .returned (.tuple #[.int .i64 (updE k x y), .int .i64 0]) ∧ w' = w := by
  rcases hk with rfl | rfl | rfl
  · rw [show updE 40 x y = wrap64 (x + y) by simp [updE]]
    go_enter Try.func61, Try.ntmps61
    go_wp2_with fail
    go_ret2
    exact ⟨rfl, rfl⟩
  · rw [show updE 41 x y = wrap64 (x - y) by simp [updE]]
    go_enter Try.func61, Try.ntmps61
    go_wp2_with fail
    go_ret2
    exact ⟨rfl, rfl⟩
  · rw [show updE 42 x y = bits BinOp.xor IntKind.i64 x y by simp [updE]]
    go_enter Try.func61, Try.ntmps61
    go_wp2_with fail
    go_ret2
    exact ⟨rfl, rfl⟩
theorem wrapI64 (x : Int) : I64 (IntKind.i64.wrap x) := by
  rw [IntKind.wrap_i64]
  unfold I64
  omega
theorem upd_I64 (k x y : Int) : I64 (updE k x y) := by
  unfold updE
  split
  · unfold wrap64 I64; omega
  · split
    · unfold wrap64 I64; omega
    · exact wrapI64 _
/-- The last variable of a name. -/
theorem findV_last : ∀ (vs : List VD) (s : ByteArray) (j : Nat), j ≤ vs.length → findV (vs.take j) s = (lastI vs s j).bind fun i => vs[i]?
  | vs, s, 0, _ => by simp [findV, lastI]
  | vs, s, j + 1, h => by
    rw [findV_take (by omega), lastI_succ (by omega), findV_last vs s j (by omega)]
    by_cases e : vs[j].s.toList = s.toList
    · have e' : (vs[j].s.toList == s.toList) = true := by simpa using e
      have hj : j < vs.length := by omega
      rw [if_pos e, if_pos e']
      simp [hj]
    · have e' : ¬ (vs[j].s.toList == s.toList) = true := by simpa using e
      rw [if_neg e, if_neg e']
theorem findV_at (f : FR) (s : ByteArray) : findV f.vs s = (f.at s).bind fun i => f.vs[i]? := by
  have := findV_last f.vs s f.vs.length (Nat.le_refl _)
  rw [List.take_of_length_le (Nat.le_refl _)] at this
  exact this
/-- A name that the current frame sees. -/
theorem num_of {S : ST} (h : S.WF) {s : ByteArray} {v : VD} (hv : findV S.cur.vs s = some v) : ∃ id, S.num s = some id ∧ CurK S id v.k := by
  rw [findV_at, Option.bind_eq_some_iff] at hv
  obtain ⟨i, h1, h2⟩ := hv
  obtain ⟨kd, hw⟩ := h.cur
  have hi := FR.at_lt h1
  have hc : i < S.cur.cs.length := by rw [hw.len]; exact hi
  refine ⟨S.cur.cs[i], by rw [ST.num, h1]; simp [hc], i, v, h2, List.getElem?_eq_getElem hc, rfl⟩
theorem flt_own {vs : List VD} {k n : Int} {s : ByteArray} {ks : List T} (h : fltE vs (.nd k n s ks) = 0) : ownE vs k s = 0 ∧ fltEs vs ks = 0 := by
  rw [fltE] at h
  split at h
  · contradiction
  · next h1 => exact ⟨Classical.not_not.1 h1, h⟩
theorem flts_mem {vs : List VD} : ∀ {ks : List T}, fltEs vs ks = 0 → ∀ t ∈ ks, fltE vs t = 0
  | t :: ts, h, u, hu => by
    rw [fltEs] at h
    split at h
    · contradiction
    · next h1 =>
      rcases List.mem_cons.1 hu with rfl | hu
      · exact Classical.not_not.1 h1
      · exact flts_mem h u hu
theorem own_find {vs : List VD} {k : Int} {s : ByteArray} (h : ownE vs k s = 0) (hn : needE k ≠ 0) : ∃ v, findV vs s = some v ∧ v.k = needE k := by
  rw [ownE, if_neg hn] at h
  cases hf : findV vs s with
  | none => rw [hf] at h; cases h
  | some v =>
    rw [hf] at h
    dsimp only at h
    split at h
    · next h1 => exact ⟨v, rfl, h1⟩
    · cases h
/-- A place whose variable fits. -/
theorem plc_num {S : ST} (h : S.WF) {p : T} (hp : isP p = true) (hf : fltE S.cur.vs p = 0) : ∃ id k, S.num p.s = some id ∧ CurK S id k ∧ k ≠ 3 := by
  obtain ⟨k, n, s, ks⟩ := p
  simp only [isP, T.k_nd, Bool.and_eq_true, Bool.or_eq_true, beq_iff_eq] at hp
  obtain ⟨h1, _⟩ := flt_own hf
  rcases hp.1 with rfl | rfl
  · obtain ⟨v, h2, h3⟩ := own_find h1 (by decide)
    obtain ⟨id, h4, h5⟩ := num_of h h2
    exact ⟨id, v.k, h4, h5, by rw [h3]; decide⟩
  · obtain ⟨v, h2, h3⟩ := own_find h1 (by decide)
    obtain ⟨id, h4, h5⟩ := num_of h h2
    exact ⟨id, v.k, h4, h5, by rw [h3]; decide⟩

def swapS (S : ST) (id i jd j : Nat) : ST := (S.put id i (S.el jd j)).put jd j (S.el id i)
def exec3 (S : ST) (k : Int) (s qs : ByteArray) (r2 : Int) (id i : Nat) : Int × ST :=
  if k = 40 ∨ k = 41 ∨ k = 42 then (0, S.put id i (updE k (S.el id i) r2))
  else if k = 43 then match S.num qs with
    | none => (0, S)
    | some jd => if 0 ≤ r2 ∧ r2 < (S.cell jd).length then (0, swapS S id i jd r2.toNat) else (12, S)
  else if k = 44 ∨ k = 45 then match S.num s with
    | none => (0, S)
    | some sid => moveE S k id i sid
  else transE S k id i
def rightE (S : ST) (k : Int) (q : T) : Int × Int := if k = 43 then indE S.look q else if k = 40 ∨ k = 41 ∨ k = 42 then exprE S.look q else (0, 0)
def exec2 (S : ST) (k : Int) (s ps qs : ByteArray) (r1 : Int) (r2 : Int × Int) : Int × ST :=
  if r2.2 ≠ 0 then (r2.2, S) else match S.num ps with
    | none => (0, S)
    | some id => if 0 ≤ r1 ∧ r1 < (S.cell id).length then exec3 S k s qs r2.1 id r1.toNat else (12, S)
def exec1 (S : ST) (k : Int) (s : ByteArray) (p q : T) (r1 r2 : Int × Int) : Int × ST := if r1.2 ≠ 0 then (r1.2, S) else exec2 S k s p.s q.s r1.1 r2
def nil0 : T := .nd 0 0 ⟨#[]⟩ []
/-- Store.execute. -/
def execE (S : ST) : T → Int × ST
  | .nd k _ s ks => exec1 S k s (ks.getD 0 nil0) (ks.getD 1 nil0) (indE S.look (ks.getD 0 nil0)) (rightE S k (ks.getD 1 nil0))
/-- Store.Do. -/
def doE (S : ST) (t : T) : Int × ST :=
  if isS t = false then (3, S) else if t.k = 56 then (9, S) else if basB t.k = false then (7, S) else if fltE S.cur.vs t ≠ 0 then (fltE S.cur.vs t, S) else execE S t
/-- Store.Undo. -/
def undoE (S : ST) : T → Int × ST
  | .nd k n s ks => doE S (.nd (invK1 k) n s ks)

end Go.Proofs.Ytekjfbnggfbfhaa
