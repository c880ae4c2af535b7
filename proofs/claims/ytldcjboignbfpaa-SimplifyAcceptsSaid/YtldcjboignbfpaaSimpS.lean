/-
  The simplified form of a block, plainly: what simplify.simplified computes.
-/
import Derived.Test.YtldcjboignbfpaaCanc
import Derived.Test.YtldcjboignbfpaaBld
namespace Go.Proofs.Ytldcjboignbfpaa
open Go.RowKit

/-- One statement more: it cancels the last one, or it is appended. -/
def stepC (acc : List T) (t : T) : List T := match acc.getLast? with
  | some a => if canc a t then acc.dropLast else acc ++ [t]
  | none => [t]
def foldC (l : List T) : List T := l.foldl stepC []
mutual
/-- simplify.simplified. -/
def simp : T → T
  | .nd _ _ _ ks => .nd 57 0 ⟨#[]⟩ (foldC (stms ks))
/-- A statement with its blocks simplified. -/
def stm : T → T
  | .nd k n s ks => .nd k n s (sks ks)
def stms : List T → List T
  | [] => []
  | t :: ts => stm t :: stms ts
def sks : List T → List T
  | [] => []
  | t :: ts => (if t.k == 57 then simp t else t) :: sks ts
end
def skF (t : T) : T := if t.k == 57 then simp t else t
theorem sks_map : ∀ ks : List T, sks ks = ks.map skF
  | [] => by simp [sks]
  | t :: ts => by simp [sks, sks_map ts, skF]
theorem stms_map : ∀ ks : List T, stms ks = ks.map stm
  | [] => by simp [stms]
  | t :: ts => by simp [stms, stms_map ts]
theorem foldC_snoc (l : List T) (t : T) : foldC (l ++ [t]) = stepC (foldC l) t := by simp [foldC, List.foldl_append]
theorem stepC_len (acc : List T) (t : T) : (stepC acc t).length ≤ acc.length + 1 := by
  unfold stepC
  split
  · split
    · simp; omega
    · simp
  · simp
theorem foldC_len (l : List T) : (foldC l).length ≤ l.length := by
  unfold foldC
  suffices h : ∀ (l acc : List T), (l.foldl stepC acc).length ≤ acc.length + l.length by simpa using h l []
  intro l
  induction l with
  | nil => intro acc; simp
  | cons t l ih =>
    intro acc
    have h1 := ih (stepC acc t)
    have h2 := stepC_len acc t
    simp only [List.foldl_cons, List.length_cons]
    omega
theorem stepC_pop {acc : List T} {a t : T} (h : canc a t = true) : stepC (acc ++ [a]) t = acc := by simp [stepC, h]
theorem stepC_push {acc : List T} {a t : T} (h : canc a t = false) : stepC (acc ++ [a]) t = acc ++ [a] ++ [t] := by simp [stepC, h]
theorem stepC_nil (t : T) : stepC [] t = [t] := rfl

/-- The last node of a row is let go. -/
theorem OwnN.pop {w : World} {base : Nat} {E : TypeId} {S : Nat → Prop} {A : Option Addr} {l cap : Nat} {ts : List T} {x : T} (h : OwnN w base E S (.slice A (l + 1) cap) (ts ++ [x])) : OwnN w base E S (.slice A l cap) ts := by
  obtain ⟨xs, ho, hl, hn⟩ := h
  rcases ho.2 with ⟨e, _⟩ | ⟨g, cap', cur, e, hb, hg, hc, hm, hz, hx⟩
  · injection e with _ e; omega
  · injection e with e1 e2 e3
    subst e1 e3
    have hll : l = ts.length := by simp at e2; omega
    subst hll
    refine ⟨xs.take (ts.length * 4), ⟨by have := ho.1; simp at this; simp; omega, .inr ⟨g, cap, cur, rfl, hb, hg, by simp at hc; omega, hm, hz, ?_⟩⟩, by simp at hl; omega, fun i hi => ?_⟩
    · rw [← hx, List.take_take]; congr 1; simp
    · obtain ⟨u0, u1, u2, u3, h0, h1, h2, h3, hv⟩ := hn i (by simp; omega)
      refine ⟨u0, u1, u2, u3, ?_, ?_, ?_, ?_, ?_⟩
      · rw [List.getElem?_take_of_lt (by omega)]; exact h0
      · rw [List.getElem?_take_of_lt (by omega)]; exact h1
      · rw [List.getElem?_take_of_lt (by omega)]; exact h2
      · rw [List.getElem?_take_of_lt (by omega)]; exact h3
      · rw [List.getElem_append_left hi] at hv; exact hv

theorem fresh2 {wr w1 W : World} {B : Nat} {E : TypeId} {v x : Value} {L : List T} {t : T} {o : Obj} (ho : OwnN wr B E (From B) v L) (hB : B ≤ wr.heap.size) (hn : NV w1 (From (wr.alloc o).heap.size) t x) (hb : Below w1.heap.size w1 W) :
    NV W (fun b => From B b ∧ some b ≠ v.ownBlock) t x := by
  refine (hn.later hb).mono fun b hb => ?_
  have hb' : wr.heap.size + 1 ≤ b := by simpa using hb
  refine ⟨by show B ≤ b; omega, fun e => ?_⟩
  have := (ho.block b e.symm).2
  omega

end Go.Proofs.Ytldcjboignbfpaa
