/-
  slices.Insert and slices.Delete at []int, of a row that the call owns (out of the kit's contracts).
-/
import Derived.Test.YtekjfbnggfbfhaaSs
import Derived.Test.YtekjfbnggfbfhaaCal
import Derived.Shelf.Slices.Cells
import Derived.Shelf.Spec.SlicesInsertGrow
namespace Go.Proofs.Ytekjfbnggfbfhaa
open Go Go.RowKit

def renDel : Go.Shelf.Ren := ⟨fun | 23 => 86 | n => n, fun | 22 => 26 | 3 => 3 | 4 => 4 | 0 => 0 | n => n, fun | n => n⟩
theorem laysDel : Go.Proofs.Lays2.n23 Try.prog renDel := {
  mixed := by kernel_rfl
  f23 := Try.func86.trans (congrArg some (by kernel_rfl))
  t0 := Try.underlying0
  a0 := Try.isAgg0
  z0 := Try.sizeOf0
  v0 := Try.zeroValue0
  t3 := Try.underlying3
  a3 := Try.isAgg3
  z3 := Try.sizeOf3
  v3 := Try.zeroValue3
  t4 := Try.underlying4
  a4 := Try.isAgg4
  z4 := Try.sizeOf4
  v4 := Try.zeroValue4
  t22 := Try.underlying26
  a22 := Try.isAgg26
  z22 := Try.sizeOf26
  v22 := Try.zeroValue26
  i3 := by kernel_rfl }
def renIns : Go.Shelf.Ren := ⟨fun | 21 => 87 | 27 => 90 | 28 => 91 | 35 => 94 | 39 => 96 | n => n, fun | 22 => 26 | 3 => 3 | 4 => 4 | 0 => 0 | n => n, fun | n => n⟩
theorem laysIns : Go.Proofs.Lays2.n21 Try.prog renIns := {
  mixed := by kernel_rfl
  f21 := Try.func87.trans (congrArg some (by kernel_rfl))
  f27 := Try.func90.trans (congrArg some (by kernel_rfl))
  f28 := Try.func91.trans (congrArg some (by kernel_rfl))
  f35 := Try.func94.trans (congrArg some (by kernel_rfl))
  f39 := Try.func96.trans (congrArg some (by kernel_rfl))
  t0 := Try.underlying0
  a0 := Try.isAgg0
  z0 := Try.sizeOf0
  v0 := Try.zeroValue0
  t3 := Try.underlying3
  a3 := Try.isAgg3
  z3 := Try.sizeOf3
  v3 := Try.zeroValue3
  t4 := Try.underlying4
  a4 := Try.isAgg4
  z4 := Try.sizeOf4
  v4 := Try.zeroValue4
  t22 := Try.underlying26
  a22 := Try.isAgg26
  z22 := Try.sizeOf26
  v22 := Try.zeroValue26
  i3 := by kernel_rfl }

theorem blk_setCells {g : Nat} {e : TypeId} : ∀ (vs : List Value) (o : Nat) (w : World) (cur : Array Value), w.heap[g]? = some (.cells cur e (0, 0)) → ∃ cur', (w.setCells g o vs).heap[g]? = some (.cells cur' e (0, 0)) ∧ cur'.size = cur.size
  | [], _, _, cur, h => ⟨cur, h, rfl⟩
  | v :: vs, o, w, cur, h => by
    obtain ⟨cur', h1, h2⟩ := blk_setCells vs (o + 1) (w.setCell ⟨g, o, none⟩ v) _ (heap_setCell_same w g o cur _ v h)
    exact ⟨cur', h1, by rw [h2]; simp⟩
theorem chg_setCells (g : Nat) : ∀ (vs : List Value) (o : Nat) (w : World), Chg (fun b => b = g) w (w.setCells g o vs)
  | [], _, w => Chg.refl _ w
  | v :: vs, o, w => ((Chg.refl (fun b => b = g) w).setCell (p := ⟨g, o, none⟩) (.inl rfl) v).trans (chg_setCells g vs (o + 1) (w.setCell ⟨g, o, none⟩ v))
theorem own_of_cells {W : World} {base g cap n : Nat} {e : TypeId} {cur : Array Value} {xs : List Value} (hb : base ≤ g) (hg : W.heap[g]? = some (.cells cur e (0, 0))) (hs : cur.size = cap) (hn : n ≤ cap) (hm : cap ≤ maxLen) (hx : xs.length = n) (hc : ∀ j u, xs[j]? = some u → W.cell? ⟨g, j, none⟩ = some u) :
    W.ownsRow base e 1 (.slice (some ⟨g, 0, none⟩) n cap) n xs := by
  refine ⟨by omega, .inr ⟨g, cap, cur, rfl, hb, hg, hn, hm, by omega, ?_⟩⟩
  refine List.ext_getElem (by simp; omega) fun j h1 h2 => ?_
  have := hc j xs[j] (List.getElem?_eq_getElem h2)
  simp only [World.cell?, hg] at this
  simp at this
  rw [List.getElem_take]
  have h3 : j < cur.size := by omega
  rw [Array.getElem?_eq_getElem h3] at this
  simpa using this
theorem cell_ins {w : World} {g o : Nat} {vs : List Value} (h : ∀ j, j < vs.length → (w.cell? ⟨g, o + j, none⟩).isSome = true) {k : Nat} {u : Value} (hk : o ≤ k) (hu : vs[k - o]? = some u) : (w.setCells g o vs).cell? ⟨g, k, none⟩ = some u := by
  obtain ⟨h1, h2⟩ := List.getElem?_eq_some_iff.1 hu
  have := World.cell?_setCells_in g vs o w h (k - o) h1
  rw [show o + (k - o) = k by omega] at this
  rw [this, h2]
theorem cell_outs {w : World} {g o : Nat} {vs : List Value} {k : Nat} (hk : k < o ∨ o + vs.length ≤ k) : (w.setCells g o vs).cell? ⟨g, k, none⟩ = w.cell? ⟨g, k, none⟩ := World.cell?_setCells_out g vs o w ⟨g, k, none⟩ fun _ _ => hk
theorem some_setCells {w : World} {g o : Nat} {vs : List Value} (k : Nat) (hk : (w.cell? ⟨g, k, none⟩).isSome = true) : ((w.setCells g o vs).cell? ⟨g, k, none⟩).isSome = true := by
  induction vs generalizing w o with
  | nil => exact hk
  | cons v vs ih =>
    refine ih ?_
    by_cases e : o = k
    · subst e
      obtain ⟨u, hu⟩ := Option.isSome_iff_exists.1 hk
      rw [World.cell?_setCell_same _ _ _ hu]
      rfl
    · rw [World.cell?_setCell_other]
      · exact hk
      · intro h; injection h; omega

theorem cell_new (w : World) (cs : Array Value) (E : TypeId) (j : Nat) : (w.alloc (.cells cs E)).cell? ⟨w.heap.size, j, none⟩ = cs[j]? := by
  have h := heap_alloc_new w (.cells cs E)
  simp only [World.cell?, h]
  simp
/-- What Insert hands back. -/
def InsP (W : World) (n0 : Nat) (v : Value) (ys : List Int) (e : Ending) (W' : World) : Prop := ∃ v', e = .returned v' ∧ W'.ownsRow n0 3 1 v' ys.length (flatI ys) ∧ Chg (fun b => v.ownBlock = some b) W W' ∧ ∀ b, v'.ownBlock = some b → v.ownBlock = some b ∨ W.heap.size ≤ b
theorem flatI_get {xs : List Int} {j : Nat} {u : Value} (h : (flatI xs)[j]? = some u) : ∃ x, xs[j]? = some x ∧ u = .int .i64 x := by
  simp only [flatI, List.getElem?_map, Option.map_eq_some_iff] at h
  obtain ⟨x, h1, h2⟩ := h
  exact ⟨x, h1, h2.symm⟩
theorem flatI_one (xs : List Int) : ∀ u ∈ flatI xs, u.oneCell' = true := fun u hu => by
  simp only [flatI, List.mem_map] at hu
  obtain ⟨x, _, rfl⟩ := hu
  rfl
theorem flatI_len (xs : List Int) : (flatI xs).length = xs.length := by simp [flatI]
theorem flatI_app (xs ys : List Int) : flatI (xs ++ ys) = flatI xs ++ flatI ys := by simp [flatI]

theorem Insert_any {W : World} {n0 : Nat} {v : Value} {xs : List Int} (h : W.ownsRow n0 3 1 v xs.length (flatI xs)) (i : Nat) (hi : i ≤ xs.length) (hl : xs.length ≤ 4096) (hn0 : n0 ≤ W.heap.size) (x : Int) (vb : Nat) (hvb : W.heap[vb]? = some (.cells #[.int .i64 x] 3 (0, 0))) (hne : v.ownBlock ≠ some vb) :
    Calls Try.prog 87 #[v, .int .i64 i, .slice (some ⟨vb, 0, none⟩) 1 1] W (InsP W n0 v (xs.take i ++ x :: xs.drop i)) := by
  have hvs : ∀ j u, [Value.int .i64 x][j]? = some u → W.cell? ⟨vb, 0 + j, none⟩ = some u := fun j u hj => by
    rw [Nat.zero_add]
    simp only [World.cell?, hvb]
    simpa using hj
  have hv1 : ∀ u ∈ [Value.int .i64 x], u.oneCell' = true := fun u hu => by simp at hu; subst hu; rfl
  have hys : (xs.take i ++ x :: xs.drop i).length = xs.length + 1 := by simp; omega
  have hmax : maxLen = 9223372036854775807 := rfl
  have grow_end : ∀ (base : Option Addr) (c : Nat), xs.length ≤ c → c < xs.length + 1 → (base = none → xs.length = 0) → (∀ a, base = some a → ∀ j u, (flatI xs)[j]? = some u → W.cell? (a.add j) = some u) → i = xs.length → v = .slice base xs.length c →
      Calls Try.prog 87 #[.slice base xs.length c, .int .i64 i, .slice (some ⟨vb, 0, none⟩) 1 1] W (InsP W n0 v (xs.take i ++ x :: xs.drop i)) := fun base c h1 h2 h3 h4 hie _ => by
    subst hie
    refine (Any2.slices_Insert_int_end_grow laysIns base xs.length c vb 0 1 1 (flatI xs) [.int .i64 x] W (by omega) h1 h2 (by omega) (flatI_len xs) rfl h3 h4 hvs hv1).mono ?_
    rintro e W' ⟨rfl, rfl⟩
    refine ⟨_, rfl, ?_, (Chg.refl _ W).drew.alloc _, fun b hb => .inr ?_⟩
    · rw [hys]
      have hge := grownCap_ge W (xs.length + 1) c (renIns.t 3)
      refine own_of_cells (e := 3) hn0 (heap_alloc_new W.drew _) ?_ hge (grownCap_le_maxLen _ _ _ _ (by omega)) (by rw [flatI_len, hys]) ?_
      · rw [Array.size_append, size_zeroCells, List.size_toArray, List.length_append, flatI_len, show (Value.int .i64 0).cells.size = 1 from rfl]
        simp only [List.length_singleton, Nat.mul_one]
        omega
      · intro j u hj
        rw [List.take_of_length_le (Nat.le_refl _), List.drop_eq_nil_of_le (Nat.le_refl _), flatI_app] at hj
        rw [show W.heap.size = W.drew.heap.size from rfl, cell_new]
        obtain ⟨h5, h6⟩ := List.getElem?_eq_some_iff.1 hj
        rw [Array.getElem?_append_left (by simpa [flatI] using h5)]
        simpa [flatI] using hj
    · simp [Value.ownBlock] at hb; omega
  rcases h.2 with ⟨rfl, h0⟩ | ⟨g, cap, cur, rfl, hb, hg, hnc, hcm, hz, hx⟩
  · have h0' : xs.length = 0 := h0
    have hi0 : i = xs.length := by omega
    have := grow_end none 0 (by omega) (by omega) (fun _ => h0') (fun a e => by cases e) hi0 (by rw [h0'])
    rw [h0'] at this
    exact this
  · have hcs : ∀ j u, (flatI xs)[j]? = some u → W.cell? ⟨g, j, none⟩ = some u := fun j u hj => by
      have hj' := (List.getElem?_eq_some_iff.1 hj).1
      rw [flatI_len] at hj'
      exact (h.cellAt j (by omega)).trans hj
    have hgv : g ≠ vb := fun e => hne (by rw [e]; rfl)
    have hsp : ∀ j, j < cap → (W.cell? ⟨g, j, none⟩).isSome = true := fun j hj => by
      simp only [World.cell?, hg]
      have : j < cur.size := by omega
      simp [this]
    have hfz : ∀ j, W.frozen? ⟨g, j, none⟩ = false := fun j => frozen_of_blk hg
    rcases Nat.lt_or_ge cap (xs.length + 1) with hroom | hroom
    · rcases Nat.lt_or_ge i xs.length with hlt | hge
      · refine (Any2.slices_Insert_int_grow laysIns g 0 xs.length cap i vb 0 1 1 (flatI xs) [.int .i64 x] W hlt (by omega) hnc hroom (by omega) (flatI_len xs) rfl (fun j u hj => by rw [Nat.zero_add]; exact hcs j u hj) hvs (flatI_one xs) hv1).mono ?_
        rintro e W' ⟨rfl, rfl⟩
        have hge := grownCap_ge W (xs.length + 1) cap (renIns.t 3)
        obtain ⟨G, hG⟩ : ∃ G, grownCap W (xs.length + 1) cap (renIns.t 3) = G := ⟨_, rfl⟩
        have hGm : G ≤ maxLen := hG ▸ grownCap_le_maxLen W _ _ _ (by omega)
        rw [hG] at hge ⊢
        obtain ⟨C, hC⟩ : ∃ C, (((flatI xs).take i).toArray ++ Builtin.zeroCells (Value.int .i64 0).cells (xs.length + 1 - i) ++ Builtin.zeroCells (Value.int .i64 0).cells (G - (xs.length + 1))) = C := ⟨_, rfl⟩
        have hCs : C.size = G := by
          rw [← hC, Array.size_append, Array.size_append, size_zeroCells, size_zeroCells, show (Value.int .i64 0).cells.size = 1 from rfl, List.size_toArray, List.length_take, flatI_len]
          omega
        have hC0 : ∀ j, j < i → C[j]? = (flatI xs)[j]? := fun j hj => by
          rw [← hC, Array.getElem?_append_left (by simp [flatI]; omega), Array.getElem?_append_left (by simp [flatI]; omega)]
          simp [List.getElem?_take_of_lt hj]
        rw [hC]
        obtain ⟨W1, hW1⟩ : ∃ W1, W.alloc (.cells C 3) = W1 := ⟨_, rfl⟩
        have e1 : W.alloc (.cells C (renIns.t 3)) = W1 := hW1
        rw [e1]
        have hh : W1.heap[W.heap.size]? = some (.cells C 3 (0, 0)) := hW1 ▸ heap_alloc_new W _
        have hcell : ∀ j, W1.cell? ⟨W.heap.size, j, none⟩ = C[j]? := fun j => by rw [← hW1]; exact cell_new W C _ j
        have hb1 : Below W.heap.size W W1 := hW1 ▸ bl_al (Below.refl _ _) _
        have hdl : ((flatI xs).drop i).length = xs.length - i := by rw [List.length_drop, flatI_len]
        obtain ⟨cur1, k1, k2⟩ := blk_setCells [.int .i64 x] i W1.drew C hh
        obtain ⟨cur2, k3, k4⟩ := blk_setCells ((flatI xs).drop i) (i + 1) (W1.drew.setCells W.heap.size i [.int .i64 x]).drew cur1 k1
        have hsp0 : ∀ j, j < G → (W1.drew.cell? ⟨W.heap.size, j, none⟩).isSome = true := fun j hj => by
          have h9 : W1.drew.cell? ⟨W.heap.size, j, none⟩ = C[j]? := hcell j
          rw [h9, Array.getElem?_eq_getElem (by omega)]; rfl
        have hsp1 : ∀ j, j < G → ((W1.drew.setCells W.heap.size i [.int .i64 x]).drew.cell? ⟨W.heap.size, j, none⟩).isSome = true := fun j hj => some_setCells j (hsp0 j hj)
        refine ⟨_, rfl, ?_, ?_, fun b hb => .inr (by simp [Value.ownBlock] at hb; omega)⟩
        · rw [hys]
          refine own_of_cells hn0 k3 (by omega) hge hGm (by rw [flatI_len, hys]) ?_
          intro j u hj
          rw [flatI_app] at hj
          have hti : (flatI (xs.take i)).length = i := by rw [flatI_len, List.length_take]; omega
          rcases Nat.lt_trichotomy j i with hji | hji | hji
          · rw [cell_outs (.inl (by omega))]
            show (W1.drew.setCells W.heap.size i [.int .i64 x]).cell? ⟨W.heap.size, j, none⟩ = _
            rw [cell_outs (.inl hji)]
            show W1.cell? ⟨W.heap.size, j, none⟩ = _
            rw [hcell j, hC0 j hji]
            rw [List.getElem?_append_left (by omega)] at hj
            rw [flatI, List.map_take, List.getElem?_take_of_lt hji] at hj
            exact hj
          · subst hji
            rw [cell_outs (.inl (by omega))]
            show (W1.drew.setCells W.heap.size j [.int .i64 x]).cell? ⟨W.heap.size, j, none⟩ = _
            refine cell_ins (fun q hq => hsp0 (j + q) (by simp at hq; omega)) (Nat.le_refl _) ?_
            rw [List.getElem?_append_right (by omega), hti] at hj
            simpa [flatI] using hj
          · refine cell_ins (fun q hq => hsp1 (i + 1 + q) (by rw [hdl] at hq; omega)) (by omega) ?_
            rw [List.getElem?_append_right (by omega), hti, show j - i = (j - (i + 1)) + 1 by omega] at hj
            simpa [flatI] using hj
        · have c1 : Chg (fun b => b = W.heap.size) W (((W1.drew.setCells W.heap.size i [.int .i64 x]).drew).setCells W.heap.size (i + 1) ((flatI xs).drop i)) :=
            (((Chg.of_below hb1).drew.trans (chg_setCells W.heap.size _ _ _)).drew).trans (chg_setCells W.heap.size _ _ _)
          exact c1.mono fun b hb e => by omega
      · exact grow_end (some ⟨g, 0, none⟩) cap hnc hroom (fun e => by cases e) (fun a e j u hj => by injection e with e; subst e; rw [Addr.add_lit, Nat.zero_add]; exact hcs j u hj) (by omega) rfl
    · rcases Nat.lt_or_ge i xs.length with hlt | hge
      · refine (Any2.slices_Insert_int_shift laysIns g 0 xs.length cap i vb 0 1 1 (flatI xs) [.int .i64 x] W hlt (by omega) hroom (by omega) (Ne.symm hgv) (flatI_len xs) rfl (fun j u hj => by rw [Nat.zero_add]; exact hcs j u hj) (fun j hj => by rw [Nat.zero_add]; exact hsp j (by omega)) (fun j _ => hfz _) hvs (flatI_one xs) hv1 3 3 1 cur.size (by simp [World.shape?, hvb]) (by simp [World.shape?, hg]) (by omega) (frozen_of_blk hvb) (frozen_of_blk hvb)).mono ?_
        rintro e W' ⟨rfl, rfl⟩
        simp only [Nat.zero_add]
        have hdl : ((flatI xs).drop i).length = xs.length - i := by rw [List.length_drop, flatI_len]
        obtain ⟨cur1, k1, k2⟩ := blk_setCells ((flatI xs).drop i) (i + 1) W.drew cur hg
        obtain ⟨cur2, k3, k4⟩ := blk_setCells [.int .i64 x] i _ cur1 k1
        have hsp1 : ∀ j, j < cap → ((W.drew.setCells g (i + 1) ((flatI xs).drop i)).cell? ⟨g, j, none⟩).isSome = true := fun j hj => some_setCells j (hsp j hj)
        refine ⟨_, rfl, ?_, ((Chg.of_below (Below.refl _ W).drew).trans ((chg_setCells g _ _ _).trans (chg_setCells g _ _ _))).mono fun b _ e => by rw [e]; rfl, fun b hb => .inl hb⟩
        rw [hys]
        refine own_of_cells hb k3 (by omega) hroom hcm (by rw [flatI_len, hys]) ?_
        intro j u hj
        rw [flatI_app] at hj
        have hti : (flatI (xs.take i)).length = i := by rw [flatI_len, List.length_take]; omega
        rcases Nat.lt_trichotomy j i with hji | hji | hji
        · rw [cell_outs (.inl hji), cell_outs (.inl (by omega))]
          rw [List.getElem?_append_left (by omega)] at hj
          refine hcs j u ?_
          rw [flatI, List.map_take, List.getElem?_take_of_lt hji] at hj
          exact hj
        · subst hji
          refine cell_ins (fun q hq => hsp1 _ (by simp at hq; omega)) (Nat.le_refl _) ?_
          rw [List.getElem?_append_right (by omega), hti] at hj
          simpa [flatI] using hj
        · rw [cell_outs (.inr (by simp; omega))]
          refine cell_ins (w := W.drew) (o := i + 1) (fun q hq => hsp (i + 1 + q) (by rw [hdl] at hq; omega)) (by omega) ?_
          rw [List.getElem?_append_right (by omega), hti, show j - i = (j - (i + 1)) + 1 by omega] at hj
          simpa [flatI] using hj
      · have hie : i = xs.length := by omega
        subst hie
        refine (Any2.slices_Insert_int_end_room laysIns g 0 xs.length cap vb 0 1 1 [.int .i64 x] W (by omega) hroom (by omega) rfl (fun j hj => by rw [Nat.zero_add]; exact hsp _ (by omega)) (fun j _ => hfz _) hvs hv1).mono ?_
        rintro e W' ⟨rfl, rfl⟩
        simp only [Nat.zero_add]
        obtain ⟨cur1, k1, k2⟩ := blk_setCells [.int .i64 x] xs.length W cur hg
        refine ⟨_, rfl, ?_, (chg_setCells g _ _ _).mono fun b _ e => by rw [e]; rfl, fun b hb => .inl hb⟩
        rw [hys]
        refine own_of_cells hb k1 (by omega) hroom hcm (by rw [flatI_len, hys]) ?_
        intro j u hj
        rw [List.take_of_length_le (Nat.le_refl _), List.drop_eq_nil_of_le (Nat.le_refl _), flatI_app] at hj
        rcases Nat.lt_or_ge j xs.length with hji | hji
        · rw [cell_outs (.inl hji)]
          rw [List.getElem?_append_left (by rw [flatI_len]; exact hji)] at hj
          exact hcs j u hj
        · refine cell_ins (fun q hq => hsp _ (by simp at hq; omega)) hji ?_
          rw [List.getElem?_append_right (by rw [flatI_len]; exact hji), flatI_len] at hj
          exact hj

theorem Delete_any {W : World} {n0 : Nat} {v : Value} {xs : List Int} (h : W.ownsRow n0 3 1 v xs.length (flatI xs)) (i : Nat) (hi : i < xs.length) (hl : xs.length ≤ 4096) :
    Calls Try.prog 86 #[v, .int .i64 i, .int .i64 ((i : Int) + 1)] W (InsP W n0 v (xs.take i ++ xs.drop (i + 1))) := by
  rcases h.2 with ⟨rfl, h0⟩ | ⟨g, cap, cur, rfl, hb, hg, hnc, hcm, hz, hx⟩
  · omega
  · have hcs : ∀ j u, (flatI xs)[j]? = some u → W.cell? ⟨g, j, none⟩ = some u := fun j u hj => by
      have hj' := (List.getElem?_eq_some_iff.1 hj).1
      rw [flatI_len] at hj'
      exact (h.cellAt j (by omega)).trans hj
    have hsp : ∀ j, j < cap → (W.cell? ⟨g, j, none⟩).isSome = true := fun j hj => by
      simp only [World.cell?, hg]
      have : j < cur.size := by omega
      simp [this]
    have hmax : maxLen = 9223372036854775807 := rfl
    refine (Any.slices_Delete_int_cells laysDel g 0 xs.length cap i (i + 1) xs W (Nat.le_refl _) hnc (by omega) (by omega) (by omega) (fun j hj => by rw [Nat.zero_add]; exact hcs j _ (by simp [flatI, hj])) (fun j _ => frozen_of_blk hg)).mono ?_
    rintro e W' ⟨rfl, q, rfl⟩
    have hys : (xs.take i ++ xs.drop (i + 1)).length = xs.length - 1 := by simp; omega
    rw [List.take_of_length_le (Nat.le_refl _)]
    obtain ⟨cur1, k1, k2⟩ := blk_setCells ((xs.take i ++ xs.drop (i + 1) ++ List.replicate (i + 1 - i) 0).map (Value.int .i64)) 0 (W.drewN q) cur hg
    have hlen : ((xs.take i ++ xs.drop (i + 1) ++ List.replicate (i + 1 - i) (0 : Int)).map (Value.int .i64)).length = xs.length := by simp; omega
    refine ⟨_, rfl, ?_, ((Chg.of_below (drewN_below (Below.refl _ W) q)).trans (chg_setCells g _ _ _)).mono fun b _ e => by rw [e]; rfl, fun b hb => .inl hb⟩
    rw [show xs.length - (i + 1 - i) = xs.length - 1 by omega, hys]
    refine own_of_cells hb k1 (by omega) (by omega) hcm (by rw [flatI_len, hys]) ?_
    intro j u hj
    have hj' := (List.getElem?_eq_some_iff.1 hj).1
    rw [flatI_len, hys] at hj'
    refine cell_ins (w := W.drewN q) (o := 0) (fun k hk => by rw [Nat.zero_add]; exact hsp k (by omega)) (Nat.zero_le _) ?_
    rw [Nat.sub_zero, List.map_append, List.getElem?_append_left (by rw [List.length_map, hys]; exact hj')]
    exact hj

theorem fnInsert : IsFn Try.prog 87 Try.f87 := ⟨Try.func87, by kernel_rfl, by kernel_rfl⟩

section
variable {I : Type} [DecidableEq I] {n0 : Nat} {d : I → RowD} {W : World}
set_option maxHeartbeats 4000000 in
set_option maxRecDepth 100000 in
theorem tinsert_any (h : Rws W n0 d) (i0 iv : I) (h01 : i0 ≠ iv) (b o : Nat) (hb : (d i0).v.ownBlock = some b) (hov : (d i0).xs[o]? = some (d iv).v) (xs : List Int) (hiv : d iv = ⟨(d iv).v, 3, 1, xs.length, flatI xs⟩) (hl : xs.length ≤ 4096) (i : Nat) (hi : i ≤ xs.length) (x : Int) :
    Calls Try.prog 76 #[.pointer (some ⟨b, o, none⟩), .int .i64 i, .int .i64 x] W fun e W' => (4096 ≤ xs.length ∧ e = .returned (.int .i64 5) ∧ Below W.heap.size W W') ∨
      (xs.length < 4096 ∧ e = .returned (.int .i64 0) ∧ ∃ vv, Stp n0 d W (updR (updR d iv ⟨vv, 3, 1, xs.length + 1, flatI (xs.take i ++ x :: xs.drop i)⟩) i0 { d i0 with xs := (d i0).xs.set o vv }) W') := by
  have hrv := h.row iv
  rw [hiv] at hrv
  obtain ⟨A1, c1, e1, -⟩ := row_slice hrv
  dsimp only at e1 hrv
  have x0 : W.cell? ⟨b, o, none⟩ = some (.slice A1 xs.length c1) := by rw [← e1]; exact h.cell i0 hb hov
  have HX0 := Lib.hid x0
  have HR := Lib.hid h
  have hn0 := h.lt i0 b hb
  obtain ⟨n, hn⟩ : ∃ n, xs.length = n := ⟨_, rfl⟩
  have HN := Lib.hid hn
  have HE1 := Lib.hid e1
  have HIV := Lib.hid hrv
  rw [hn] at x0 hl
  have hbi := buildI1
  clear h hrv hn e1
  by_cases hfull : 4096 ≤ n
  · obtain rfl : n = 4096 := by omega
    go_enter Try.func76, Try.ntmps76
    go_wp2_with fail
    go_ret
    exact .inl ⟨by rw [HN.out]; exact Nat.le_refl _, rfl, Below.refl _ _⟩
  · have hnf : ¬ (4096 : Int) ≤ (n : Int) := by omega
    have hbl : Below W.heap.size W (W.alloc (.cells #[.int .i64 x] 3)) := bl_al (Below.refl _ _) _
    have hnw : ∀ b', (d iv).v.ownBlock = some b' → b' < W.heap.size := fun b' e => (HR.out.lt iv b' e).2
    have HIN := Lib.hid (Insert_any (own_later HIV.out hbl) i hi (by rw [HN.out]; exact hl) (by simp; omega) x W.heap.size (heap_alloc_new W _) (fun e => by have := hnw _ e; omega))
    rw [HE1.out, HN.out] at HIN
    have hcb := cell_bl hbl HX0.out
    go_enter Try.func76, Try.ntmps76
    go_wp2_with fail
    refine HIN.out.mono ?_
    rintro e w2 ⟨v', rfl, ho, hc, hob⟩
    have hys : (xs.take i ++ x :: xs.drop i).length = n + 1 := by rw [← HN.out]; simp; have := HN.out; omega
    rw [hys] at ho
    obtain ⟨g8, cap8, rfl⟩ := ownsRow_succ ho
    have HR1 := HR.out.later hbl
    have st1 : Stp n0 d (W.alloc (.cells #[.int .i64 x] 3)) (updR d iv ⟨.slice (some ⟨g8, 0, none⟩) (n + 1) cap8, 3, 1, n + 1, flatI (xs.take i ++ x :: xs.drop i)⟩) w2 :=
      Stp.upd (i := iv) HR1 (hc.mono fun b' _ hb' => by rw [HE1.out, HN.out]; exact hb') ho (fun b' hb' => by rw [HE1.out, HN.out]; exact hob b' hb')
    have hd0 : updR d iv ⟨.slice (some ⟨g8, 0, none⟩) (n + 1) cap8, 3, 1, n + 1, flatI (xs.take i ++ x :: xs.drop i)⟩ i0 = d i0 := updR_other h01
    have z0 : w2.cell? ⟨b, o, none⟩ = some (.slice A1 n c1) := by rw [← HN.out, ← HE1.out]; exact st1.rws.cell i0 (by rw [hd0]; exact hb) (by rw [hd0]; exact hov)
    have zf : w2.frozen? ⟨b, o, none⟩ = false := st1.rws.frozen i0 (by rw [hd0]; exact hb) o
    have st2 := Stp.set (i := i0) st1.rws (g := b) (by rw [hd0]; exact hb) (o := o) (by rw [hd0]; exact (List.getElem?_eq_some_iff.1 hov).1) (.slice (some ⟨g8, 0, none⟩) (n + 1) cap8)
    rw [hd0] at st2
    have HFN := Lib.hid ((st1.trans st2).after hbl HR.out)
    clear st1 st2 ho hc hob HIN hcb
    go_wp2_with fail
    go_ret
    refine .inr ⟨by rw [HN.out]; omega, rfl, .slice (some ⟨g8, 0, none⟩) (n + 1) cap8, ?_⟩
    rw [HN.out]
    exact HFN.out

set_option maxHeartbeats 4000000 in
set_option maxRecDepth 100000 in
theorem tremove_any (h : Rws W n0 d) (i0 iv : I) (h01 : i0 ≠ iv) (b o : Nat) (hb : (d i0).v.ownBlock = some b) (hov : (d i0).xs[o]? = some (d iv).v) (xs : List Int) (hiv : d iv = ⟨(d iv).v, 3, 1, xs.length, flatI xs⟩) (hl : xs.length ≤ 4096) (k : Int) (i : Nat) (hi : 0 < xs.length → k = i ∧ i < xs.length) :
    Calls Try.prog 75 #[.pointer (some ⟨b, o, none⟩), .int .i64 k] W fun e W' => (xs.length = 0 ∧ e = .returned (.tuple #[.int .i64 0, .int .i64 17]) ∧ Below W.heap.size W W') ∨
      (0 < xs.length ∧ e = .returned (.tuple #[.int .i64 (xs.getD i 0), .int .i64 0]) ∧ ∃ vv, Stp n0 d W (updR (updR d iv ⟨vv, 3, 1, xs.length - 1, flatI (xs.take i ++ xs.drop (i + 1))⟩) i0 { d i0 with xs := (d i0).xs.set o vv }) W') := by
  have hrv := h.row iv
  rw [hiv] at hrv
  obtain ⟨A1, c1, e1, -⟩ := row_slice hrv
  dsimp only at e1 hrv
  have x0 : W.cell? ⟨b, o, none⟩ = some (.slice A1 xs.length c1) := by rw [← e1]; exact h.cell i0 hb hov
  have HX0 := Lib.hid x0
  have HR := Lib.hid h
  obtain ⟨n, hn⟩ : ∃ n, xs.length = n := ⟨_, rfl⟩
  have HN := Lib.hid hn
  have HE1 := Lib.hid e1
  have HIV := Lib.hid hrv
  rw [hn] at x0 hl hi
  clear h hn e1
  rcases Nat.eq_zero_or_pos n with h0 | h0
  · subst h0
    clear hrv
    go_enter Try.func75, Try.ntmps75
    go_wp2_with fail
    go_ret2
    exact .inl ⟨HN.out, rfl, Below.refl _ _⟩
  · obtain ⟨rfl, hin⟩ := hi h0
    obtain ⟨g, c2, hv2, -, -, hcell⟩ := row_some hrv (by rw [HN.out]; exact h0)
    rw [HE1.out] at hv2
    injection hv2 with a1 a2 a3
    subst a1 a3
    obtain ⟨y, hy⟩ : ∃ y, xs.getD i 0 = y := ⟨_, rfl⟩
    have x1 : W.cell? ⟨g, i, none⟩ = some (.int .i64 y) := by
      rw [hcell i (by rw [HN.out]; omega), ← hy]
      have : i < xs.length := by rw [HN.out]; exact hin
      simp [flatI, this]
    have hn0 : ¬ (n : Int) = 0 := by omega
    have hn1 : ((n : Int) == 0) = false := by simpa using hn0
    have hin' : (i : Int) < (n : Int) := by omega
    have HIN := Lib.hid (Delete_any HIV.out i (by rw [HN.out]; exact hin) (by rw [HN.out]; exact hl))
    rw [HE1.out, HN.out] at HIN
    have HY := Lib.hid hy
    clear hrv hcell hy hi
    go_enter Try.func75, Try.ntmps75
    go_wp2_with fail
    refine HIN.out.mono ?_
    rintro e w2 ⟨v', rfl, ho, hc, hob⟩
    have hys : (xs.take i ++ xs.drop (i + 1)).length = n - 1 := by rw [← HN.out]; simp; have := HN.out; omega
    rw [hys] at ho
    obtain ⟨A8, cap8, rfl, -, -⟩ := row_slice ho
    have st1 : Stp n0 d W (updR d iv ⟨.slice A8 (n - 1) cap8, 3, 1, n - 1, flatI (xs.take i ++ xs.drop (i + 1))⟩) w2 :=
      Stp.upd (i := iv) HR.out (hc.mono fun b' _ hb' => by rw [HE1.out, HN.out]; exact hb') ho (fun b' hb' => by rw [HE1.out, HN.out]; exact hob b' hb')
    have hd0 : updR d iv ⟨.slice A8 (n - 1) cap8, 3, 1, n - 1, flatI (xs.take i ++ xs.drop (i + 1))⟩ i0 = d i0 := updR_other h01
    have z0 : w2.cell? ⟨b, o, none⟩ = some (.slice (some ⟨g, 0, none⟩) n c1) := by rw [← HN.out, ← HE1.out]; exact st1.rws.cell i0 (by rw [hd0]; exact hb) (by rw [hd0]; exact hov)
    have zf : w2.frozen? ⟨b, o, none⟩ = false := st1.rws.frozen i0 (by rw [hd0]; exact hb) o
    have st2 := Stp.set (i := i0) st1.rws (g := b) (by rw [hd0]; exact hb) (o := o) (by rw [hd0]; exact (List.getElem?_eq_some_iff.1 hov).1) (.slice A8 (n - 1) cap8)
    rw [hd0] at st2
    have HFN := Lib.hid (st1.trans st2)
    clear st1 st2 ho hc hob HIN
    go_wp2_with fail
    go_ret2
    refine .inr ⟨by rw [HN.out]; omega, by rw [HY.out]; rfl, .slice A8 (n - 1) cap8, ?_⟩
    rw [HN.out]
    exact HFN.out
end

end Go.Proofs.Ytekjfbnggfbfhaa
