/-
  checker: the contract of reject.
-/
import Derived.Test.YtldcjboignbfpaaCk
namespace Go.Proofs.Ytldcjboignbfpaa
open Go Go.RowKit

/-- Two children of the same name. -/
def dupB (ks : List T) : Bool := (List.range ks.length).any fun i => hasN (ks.take i) (ks.getD i (.nd 0 0 ⟨#[]⟩ [])).s
theorem dupB_yes {ks : List T} {j : Nat} (hj : j < ks.length) (h : hasN (ks.take j) ks[j].s = true) : dupB ks = true := by
  unfold dupB
  rw [List.any_eq_true]
  exact ⟨j, by simpa using hj, by simpa [hj] using h⟩
theorem dupB_no {ks : List T} (h : ∀ j (hj : j < ks.length), hasN (ks.take j) ks[j].s = false) : dupB ks = false := by
  unfold dupB
  rw [List.any_eq_false]
  intro j hj
  have hj' : j < ks.length := by simpa using hj
  simpa [hj'] using h j hj'
/-- What reject asks of a node. -/
structure RejOK (t : T) : Prop where
  d : dep t ≤ 1000
  two : t.k = 40 ∨ t.k = 41 ∨ t.k = 42 ∨ t.k = 43 ∨ t.k = 56 → 2 ≤ t.ks.length
  one : 44 ≤ t.k ∧ t.k ≤ 49 → 1 ≤ t.ks.length
  four : t.k = 52 ∨ t.k = 53 → 4 ≤ t.ks.length
  pl : 40 ≤ t.k ∧ t.k ≤ 49 → ∀ x ∈ t.ks, x.k = 3 → 1 ≤ x.ks.length
/-- checker.reject: the error. -/
def rejE (t : T) : Int :=
  if t.k = 56 then 9
  else if t.k = 40 ∨ t.k = 41 ∨ t.k = 42 then if idxB (kid t 0) (kid t 0).s || menB (kid t 1) (kid t 0).s then 8 else 0
  else if t.k = 43 then if aliB t.ks [(kid t 0).s, (kid t 1).s] then 8 else 0
  else if t.k = 44 ∨ t.k = 45 then if aliB t.ks [(kid t 0).s, t.s] then 8 else 0
  else if 46 ≤ t.k ∧ t.k ≤ 49 then if aliB t.ks [(kid t 0).s] then 8 else 0
  else if t.k = 50 ∨ t.k = 51 then if dupB t.ks then 8 else 0
  else if t.k = 52 then if conB (kid t 3) && !conB (kid t 0) then 10 else 0
  else if t.k = 53 then if conB (kid t 0) then 10 else 0
  else 0

/-- The first and the second child, and the fourth. -/
theorem row0 {w : World} {ks : List T} {A : Option Addr} (h : RowAt w Any A ks) (hl : 0 < ks.length) : ∃ (a : Addr) (t : T) (A' : Option Addr) (c' : Nat), A = some a ∧ Hid (ks[0] = t) ∧ Nd4 w a t A' c' ∧ NV w Any t (nv t.k t.n t.s A' t.ks.length c') := by
  obtain ⟨a, t, A', c', rfl, _, Ht, h4, hn⟩ := h.nd hl
  simp only [Nat.zero_mul, Addr.add_zero'] at h4
  exact ⟨a, t, A', c', rfl, Ht, h4, hn⟩
theorem rowI {w : World} {ks : List T} {a : Addr} (h : RowAt w Any (some a) ks) (i : Nat) (hl : i + 1 < ks.length) : ∃ (t : T) (A' : Option Addr) (c' : Nat), Hid (ks[i + 1] = t) ∧ Nd4 w ⟨a.block, a.off + (i + 1) * 4, none⟩ t A' c' ∧ NV w Any t (nv t.k t.n t.s A' t.ks.length c') := by
  obtain ⟨a', t, A', c', e, _, Ht, h4, hn⟩ := h.nd hl
  injection e with e
  subst e
  have ha : a.add ((i + 1) * 4) = ⟨a.block, a.off + (i + 1) * 4, none⟩ := by unfold Addr.add; split <;> simp_all
  rw [ha] at h4
  exact ⟨t, A', c', Ht, h4, hn⟩

set_option maxHeartbeats 4000000 in
set_option maxRecDepth 100000 in
theorem reject_set (n : Int) (s : ByteArray) (ks : List T) (A : Option Addr) (c : Nat) (w : World) (hrow : RowAt w Any A ks) (hl : 2 ≤ ks.length) : Calls Try.prog 81 #[nv 56 n s A ks.length c] w (NmE w 9) := by
  obtain ⟨a, t0, A1, c1, rfl, Ht0, h4, -⟩ := row0 (hrow.later (bl_al (Below.refl _ _) (.cells #[.int .u8 56, .int .i64 n, .string s, .slice A ks.length c] 24))) (by omega)
  obtain ⟨q0, q1, q2, q3⟩ := h4
  clear Ht0
  obtain ⟨L, hL⟩ : ∃ L, ks.length = L := ⟨_, rfl⟩
  rw [hL] at q0 q1 q2 q3 hl ⊢
  have hfl : (0 : Int) < (L : Int) := by omega
  have hfl0 : 0 < L := by omega
  clear hrow hL hl
  go_enter Try.func81, Try.ntmps81
  go_wp2_with fail
  go_ret2
  exact ⟨_, rfl, bl_al (Below.refl _ _) _⟩

set_option maxHeartbeats 8000000 in
set_option maxRecDepth 100000 in
theorem reject_upd (k n : Int) (s : ByteArray) (ks : List T) (A : Option Addr) (c : Nat) (w : World) (hk : k = 40 ∨ k = 41 ∨ k = 42) (hrow : RowAt w Any A ks) (hl : 2 ≤ ks.length) (hd : ∀ t ∈ ks, dep t ≤ 1000) (hp : ∀ t ∈ ks, t.k = 3 → 1 ≤ t.ks.length) :
    Calls Try.prog 81 #[nv k n s A ks.length c] w (NmE w (if idxB ks[0] ks[0].s || menB ks[1] ks[0].s then 8 else 0)) := by
  have hrow' := hrow.later (bl_al (Below.refl _ _) (.cells #[.int .u8 k, .int .i64 n, .string s, .slice A ks.length c] 24))
  obtain ⟨a, t0, A1, c1, rfl, Ht0, h4, hn0⟩ := row0 hrow' (by omega)
  obtain ⟨t1, A2, c2, Ht1, h5, hn1⟩ := rowI hrow' 0 (by omega)
  simp only [Nat.zero_add, Nat.one_mul] at Ht1 h5
  have d0 := hd ks[0] (List.getElem_mem _)
  have d1 := hd ks[1] (List.getElem_mem _)
  have p0 := hp ks[0] (List.getElem_mem _)
  rw [Ht0.out] at d0 p0 ⊢
  rw [Ht1.out] at d1 ⊢
  obtain ⟨R, hR⟩ : ∃ R : Int, (if (idxB t0 t0.s || menB t1 t0.s) = true then 8 else 0) = R := ⟨_, rfl⟩
  rw [hR]
  obtain ⟨b0, hb0⟩ : ∃ b, idxB t0 t0.s = b := ⟨_, rfl⟩
  obtain ⟨b1, hb1⟩ : ∃ b, menB t1 t0.s = b := ⟨_, rfl⟩
  have HI := Lib.hid (show ∀ v w, NV w Any t0 v → Calls Try.prog 87 #[v, .string t0.s] w fun e w' => e = .returned (.bool b0) ∧ Below w.heap.size w w' from fun v w h => hb0 ▸ indexed_any t0 t0.s v w h d0 p0)
  have HM := Lib.hid (show ∀ v w, NV w Any t1 v → Calls Try.prog 88 #[v, .string t0.s] w fun e w' => e = .returned (.bool b1) ∧ Below w.heap.size w w' from fun v w h => hb1 ▸ mentions_any t1 t0.s v w h d1)
  rw [hb0, hb1] at hR
  have HR := Lib.hid hR
  obtain ⟨L, hL⟩ : ∃ L, ks.length = L := ⟨_, rfl⟩
  have hfl : (0 : Int) < (L : Int) := by omega
  have hfl0 : 0 < L := by omega
  have hfl1 : (1 : Int) < (L : Int) := by omega
  have hfl2 : 1 < L := by omega
  have hbx := box4 (heap_alloc_new w (.cells #[.int .u8 k, .int .i64 n, .string s, .slice (some a) ks.length c] 24))
  clear Ht0 Ht1 hrow hrow' hR hb0 hb1 d0 d1 p0 hd hp
  rw [hL] at h4 h5 hn0 hn1 hl hbx ⊢
  obtain ⟨W0, hW0⟩ : ∃ W0, w.alloc (.cells #[.int .u8 k, .int .i64 n, .string s, .slice (some a) L c] 24) = W0 := ⟨_, rfl⟩
  have q0 : Below w.heap.size w W0 := hW0 ▸ bl_al (Below.refl _ _) _
  rw [hW0] at h4 h5 hn0 hn1 hbx
  have HN0 := Lib.hid hn0
  have HN1 := Lib.hid hn1
  have HALL := Lib.hid (show ∀ w', Below W0.heap.size W0 w' → (Nd4 w' a t0 A1 c1 ∧ Nd4 w' ⟨a.block, a.off + 4, none⟩ t1 A2 c2) ∧ w'.cell? ⟨w.heap.size, 0, none⟩ = some (.int .u8 k) ∧ w'.cell? ⟨w.heap.size, 3, none⟩ = some (.slice (some a) L c) from fun w' h => ⟨⟨Nd4_bl h h4, Nd4_bl h h5⟩, cell_bl h hbx.1, cell_bl h hbx.2.2.2⟩)
  clear hn0 hn1 h4 h5 hbx hL hl
  obtain ⟨⟨⟨a0, a1, a2, a3⟩, ⟨b0', b1', b2, b3⟩⟩, x0, x3⟩ := HALL.out _ (Below.refl _ _)
  rcases hk with rfl | rfl | rfl
  all_goals
    go_enter Try.func81, Try.ntmps81
    go_wp2_with fail
    refine (HI.out _ _ HN0.out).mono ?_
    rintro e w1 ⟨rfl, bw1⟩
    obtain ⟨⟨⟨a0, a1, a2, a3⟩, ⟨b0', b1', b2, b3⟩⟩, x0, x3⟩ := HALL.out _ bw1
    have q1 := bl_tt q0 bw1
    have HN2 := Lib.hid (HN1.out.later bw1)
    clear bw1
    cases b0
    · go_wp2_with fail
      refine (HM.out _ _ HN2.out).mono ?_
      rintro e w2 ⟨rfl, bw2⟩
      have q2 := bl_tt q1 bw2
      clear bw2
      cases b1
      · go_wp2_with fail
        go_ret2
        exact ⟨_, by rw [← HR.out]; rfl, q2⟩
      · go_wp2_with fail
        go_ret2
        exact ⟨_, by rw [← HR.out]; rfl, q2⟩
    · go_wp2_with fail
      go_ret2
      exact ⟨_, by rw [← HR.out]; rfl, q1⟩

theorem buildSS1 (s : ByteArray) (w : World) : (Instr.buildSlice 102 1 #[(0, .string s)]).run Try.prog w = .ok (.slice (some ⟨w.heap.size, 0, none⟩) 1 1) (w.alloc (.cells #[.string s] 9)) := by kernel_rfl
theorem buildSS2 (s s' : ByteArray) (w : World) : (Instr.buildSlice 102 2 #[(0, .string s), (1, .string s')]).run Try.prog w = .ok (.slice (some ⟨w.heap.size, 0, none⟩) 2 2) (w.alloc (.cells #[.string s, .string s'] 9)) := by kernel_rfl
theorem rowS_new (w : World) (E : TypeId) (ss : List ByteArray) : RowS (w.alloc (.cells (ss.map Value.string).toArray E)) (some ⟨w.heap.size, 0, none⟩) ss := fun i hi => by
  refine ⟨_, rfl, ?_⟩
  have := news_newN w E (ss.map Value.string) i (.string ss[i]) (by simp [hi])
  exact this

set_option maxHeartbeats 8000000 in
set_option maxRecDepth 100000 in
theorem reject_tr (k n : Int) (s : ByteArray) (ks : List T) (A : Option Addr) (c : Nat) (w : World) (hk : k = 46 ∨ k = 47 ∨ k = 48 ∨ k = 49) (hrow : RowAt w Any A ks) (hl : 1 ≤ ks.length) (hlk : ks.length ≤ LK) (hd : ∀ t ∈ ks, dep t ≤ 1000) (hp : ∀ t ∈ ks, t.k = 3 → 1 ≤ t.ks.length) :
    Calls Try.prog 81 #[nv k n s A ks.length c] w (NmE w (if aliB ks [ks[0].s] then 8 else 0)) := by
  have hrow' := hrow.later (bl_al (Below.refl _ _) (.cells #[.int .u8 k, .int .i64 n, .string s, .slice A ks.length c] 24))
  obtain ⟨a, t0, A1, c1, rfl, Ht0, h4, hn0⟩ := row0 hrow' (by omega)
  rw [Ht0.out]
  obtain ⟨R, hR⟩ : ∃ R : Int, (if aliB ks [t0.s] = true then 8 else 0) = R := ⟨_, rfl⟩
  rw [hR]
  obtain ⟨L, hL⟩ : ∃ L, ks.length = L := ⟨_, rfl⟩
  have HAL := Lib.hid (show ∀ (B : Option Addr) (d : Nat) (w : World), RowAt w Any (some a) ks → RowS w B [t0.s] → Calls Try.prog 89 #[.slice (some a) L c, .slice B 1 d] w (NmE w R) from fun B d w h h' => hL ▸ hR ▸ alias_any ks [t0.s] (some a) c B d w h h' hlk (by simp) (fun t ht => ⟨hd t ht, hp t ht⟩))
  have hfl : (0 : Int) < (L : Int) := by omega
  have hfl0 : 0 < L := by omega
  have hbx := box4 (heap_alloc_new w (.cells #[.int .u8 k, .int .i64 n, .string s, .slice (some a) ks.length c] 24))
  have HROW := Lib.hid hrow'
  clear Ht0 hrow hrow' hR hd hp
  rw [hL] at h4 hl hbx HROW ⊢
  obtain ⟨W0, hW0⟩ : ∃ W0, w.alloc (.cells #[.int .u8 k, .int .i64 n, .string s, .slice (some a) L c] 24) = W0 := ⟨_, rfl⟩
  have q0 : Below w.heap.size w W0 := hW0 ▸ bl_al (Below.refl _ _) _
  rw [hW0] at h4 hbx HROW
  obtain ⟨x0, x1, x2, x3⟩ := hbx
  obtain ⟨a0, a1, a2, a3⟩ := h4
  have hb1 := buildSS1
  clear hn0 hL hl
  have HS := Lib.hid (show ∀ w', Below W0.heap.size W0 w' → w'.cell? ⟨w.heap.size, 3, none⟩ = some (.slice (some a) L c) ∧ w'.cell? ⟨a.block, a.off + 2, none⟩ = some (.string t0.s) from fun w' h => ⟨cell_bl h x3, cell_bl h a2⟩)
  have HK0 := Lib.hid (HS.out _ (Below.refl _ _).drew)
  have HK1 := Lib.hid (HS.out _ (bl_al (Below.refl _ _) (.cells #[.string t0.s] 9)).drew)
  have HRS := Lib.hid (show RowS (W0.alloc (.cells #[.string t0.s] 9)).drew (some ⟨W0.heap.size, 0, none⟩) [t0.s] from rowS_new W0 9 [t0.s])
  have HRW := Lib.hid (HROW.out.later (bl_al (Below.refl _ _) (.cells #[.string t0.s] 9)).drew)
  clear x3 a0 a1 a2 a3 x1 x2
  rcases hk with rfl | rfl | rfl | rfl
  all_goals
    go_enter Try.func81, Try.ntmps81
    go_upto_region 20 with fail
    go_region_held3 (fun w' : World => w'.cell? ⟨w.heap.size, 3, none⟩ = some (.slice (some a) L c) ∧ w'.cell? ⟨a.block, a.off + 2, none⟩ = some (.string t0.s))
      (first | with_reducible exact HK2.out | with_reducible exact HK1.out | with_reducible exact HK0.out)
      (first
        | (go_at_call 89; refine (HAL.out _ _ _ HRW.out HRS.out).mono ?_; rintro e y1 ⟨s1, rfl, by1⟩; have b1 := bl_tt (bl_al (Below.refl W0.heap.size W0) (.cells #[.string t0.s] 9)).drew by1; have HK2 := Lib.hid (HS.out _ b1))
        | fail)
    have HB1 := Lib.hid (bl_tt q0 b1)
    clear by1 b1 HK2
    go_wp2_with fail
    go_ret2
    exact ⟨s1, rfl, HB1.out⟩

end Go.Proofs.Ytldcjboignbfpaa

/-
  checker: the contract of reject, for the other kinds.
-/
namespace Go.Proofs.Ytldcjboignbfpaa
open Go Go.RowKit

set_option maxHeartbeats 8000000 in
set_option maxRecDepth 100000 in
theorem reject_pp (k n : Int) (s : ByteArray) (ks : List T) (A : Option Addr) (c : Nat) (w : World) (hk : k = 44 ∨ k = 45) (hrow : RowAt w Any A ks) (hl : 1 ≤ ks.length) (hlk : ks.length ≤ LK) (hd : ∀ t ∈ ks, dep t ≤ 1000) (hp : ∀ t ∈ ks, t.k = 3 → 1 ≤ t.ks.length) :
    Calls Try.prog 81 #[nv k n s A ks.length c] w (NmE w (if aliB ks [ks[0].s, s] then 8 else 0)) := by
  have hrow' := hrow.later (bl_al (Below.refl _ _) (.cells #[.int .u8 k, .int .i64 n, .string s, .slice A ks.length c] 24))
  obtain ⟨a, t0, A1, c1, rfl, Ht0, h4, hn0⟩ := row0 hrow' (by omega)
  rw [Ht0.out]
  obtain ⟨R, hR⟩ : ∃ R : Int, (if aliB ks [t0.s, s] = true then 8 else 0) = R := ⟨_, rfl⟩
  rw [hR]
  obtain ⟨L, hL⟩ : ∃ L, ks.length = L := ⟨_, rfl⟩
  have HAL := Lib.hid (show ∀ (B : Option Addr) (d : Nat) (w : World), RowAt w Any (some a) ks → RowS w B [t0.s, s] → Calls Try.prog 89 #[.slice (some a) L c, .slice B 2 d] w (NmE w R) from fun B d w h h' => hL ▸ hR ▸ alias_any ks [t0.s, s] (some a) c B d w h h' hlk (by simp) (fun t ht => ⟨hd t ht, hp t ht⟩))
  have hfl : (0 : Int) < (L : Int) := by omega
  have hfl0 : 0 < L := by omega
  have hbx := box4 (heap_alloc_new w (.cells #[.int .u8 k, .int .i64 n, .string s, .slice (some a) ks.length c] 24))
  have HROW := Lib.hid hrow'
  clear Ht0 hrow hrow' hR hd hp
  rw [hL] at h4 hl hbx HROW ⊢
  obtain ⟨W0, hW0⟩ : ∃ W0, w.alloc (.cells #[.int .u8 k, .int .i64 n, .string s, .slice (some a) L c] 24) = W0 := ⟨_, rfl⟩
  have q0 : Below w.heap.size w W0 := hW0 ▸ bl_al (Below.refl _ _) _
  rw [hW0] at h4 hbx HROW
  obtain ⟨x0, x1, x2, x3⟩ := hbx
  obtain ⟨a0, a1, a2, a3⟩ := h4
  have hb1 := buildSS2
  clear hn0 hL hl
  have HS := Lib.hid (show ∀ w', Below W0.heap.size W0 w' → w'.cell? ⟨w.heap.size, 2, none⟩ = some (.string s) ∧ w'.cell? ⟨w.heap.size, 3, none⟩ = some (.slice (some a) L c) ∧ w'.cell? ⟨a.block, a.off + 2, none⟩ = some (.string t0.s) from fun w' h => ⟨cell_bl h x2, cell_bl h x3, cell_bl h a2⟩)
  have HK0 := Lib.hid (HS.out _ (Below.refl _ _).drew)
  have HK1 := Lib.hid (HS.out _ (bl_al (Below.refl _ _) (.cells #[.string t0.s, .string s] 9)).drew)
  have HRS := Lib.hid (show RowS (W0.alloc (.cells #[.string t0.s, .string s] 9)).drew (some ⟨W0.heap.size, 0, none⟩) [t0.s, s] from rowS_new W0 9 [t0.s, s])
  have HRW := Lib.hid (HROW.out.later (bl_al (Below.refl _ _) (.cells #[.string t0.s, .string s] 9)).drew)
  clear x3 a0 a1 a2 a3 x1 x2
  rcases hk with rfl | rfl
  all_goals
    go_enter Try.func81, Try.ntmps81
    go_upto_region 15 with fail
    go_region_held3 (fun w' : World => w'.cell? ⟨w.heap.size, 2, none⟩ = some (.string s) ∧ w'.cell? ⟨w.heap.size, 3, none⟩ = some (.slice (some a) L c) ∧ w'.cell? ⟨a.block, a.off + 2, none⟩ = some (.string t0.s))
      (first | with_reducible exact HK2.out | with_reducible exact HK1.out | with_reducible exact HK0.out)
      (first
        | (go_at_call 89; refine (HAL.out _ _ _ HRW.out HRS.out).mono ?_; rintro e y1 ⟨s1, rfl, by1⟩; have b1 := bl_tt (bl_al (Below.refl W0.heap.size W0) (.cells #[.string t0.s, .string s] 9)).drew by1; have HK2 := Lib.hid (HS.out _ b1))
        | fail)
    have HB1 := Lib.hid (bl_tt q0 b1)
    clear by1 b1 HK2
    go_wp2_with fail
    go_ret2
    exact ⟨s1, rfl, HB1.out⟩

set_option maxHeartbeats 8000000 in
set_option maxRecDepth 100000 in
theorem reject_swap (n : Int) (s : ByteArray) (ks : List T) (A : Option Addr) (c : Nat) (w : World) (hrow : RowAt w Any A ks) (hl : 2 ≤ ks.length) (hlk : ks.length ≤ LK) (hd : ∀ t ∈ ks, dep t ≤ 1000) (hp : ∀ t ∈ ks, t.k = 3 → 1 ≤ t.ks.length) :
    Calls Try.prog 81 #[nv 43 n s A ks.length c] w (NmE w (if aliB ks [ks[0].s, ks[1].s] then 8 else 0)) := by
  have hrow' := hrow.later (bl_al (Below.refl _ _) (.cells #[.int .u8 43, .int .i64 n, .string s, .slice A ks.length c] 24))
  obtain ⟨a, t0, A1, c1, rfl, Ht0, h4, hn0⟩ := row0 hrow' (by omega)
  obtain ⟨t1, A2, c2, Ht1, h5, hn1⟩ := rowI hrow' 0 (by omega)
  simp only [Nat.zero_add, Nat.one_mul] at Ht1 h5
  rw [Ht0.out, Ht1.out]
  obtain ⟨R, hR⟩ : ∃ R : Int, (if aliB ks [t0.s, t1.s] = true then 8 else 0) = R := ⟨_, rfl⟩
  rw [hR]
  obtain ⟨L, hL⟩ : ∃ L, ks.length = L := ⟨_, rfl⟩
  have HAL := Lib.hid (show ∀ (B : Option Addr) (d : Nat) (w : World), RowAt w Any (some a) ks → RowS w B [t0.s, t1.s] → Calls Try.prog 89 #[.slice (some a) L c, .slice B 2 d] w (NmE w R) from fun B d w h h' => hL ▸ hR ▸ alias_any ks [t0.s, t1.s] (some a) c B d w h h' hlk (by simp) (fun t ht => ⟨hd t ht, hp t ht⟩))
  have hfl : (0 : Int) < (L : Int) := by omega
  have hfl0 : 0 < L := by omega
  have hfl1 : (1 : Int) < (L : Int) := by omega
  have hfl2 : 1 < L := by omega
  have hbx := box4 (heap_alloc_new w (.cells #[.int .u8 43, .int .i64 n, .string s, .slice (some a) ks.length c] 24))
  have HROW := Lib.hid hrow'
  clear Ht0 Ht1 hrow hrow' hR hd hp
  rw [hL] at h4 h5 hl hbx HROW ⊢
  obtain ⟨W0, hW0⟩ : ∃ W0, w.alloc (.cells #[.int .u8 43, .int .i64 n, .string s, .slice (some a) L c] 24) = W0 := ⟨_, rfl⟩
  have q0 : Below w.heap.size w W0 := hW0 ▸ bl_al (Below.refl _ _) _
  rw [hW0] at h4 h5 hbx HROW
  obtain ⟨x0, x1, x2, x3⟩ := hbx
  obtain ⟨a0, a1, a2, a3⟩ := h4
  obtain ⟨b0, b1, b2, b3⟩ := h5
  have hb1 := buildSS2
  clear hn0 hn1 hL hl
  go_enter Try.func81, Try.ntmps81
  go_upto_region 11 with fail
  have HS := Lib.hid (show ∀ w', Below W0.heap.size W0 w' → w'.cell? ⟨w.heap.size, 3, none⟩ = some (.slice (some a) L c) ∧ Nd4 w' a t0 A1 c1 ∧ Nd4 w' ⟨a.block, a.off + 4, none⟩ t1 A2 c2 from fun w' h => ⟨cell_bl h x3, Nd4_bl h ⟨a0, a1, a2, a3⟩, Nd4_bl h ⟨b0, b1, b2, b3⟩⟩)
  clear x3 a0 a1 a2 a3 b0 b1 b2 b3 x1 x2
  go_region_held3 (fun w' : World => w'.cell? ⟨w.heap.size, 3, none⟩ = some (.slice (some a) L c) ∧ (w'.cell? a = some (.int .u8 t0.k) ∧ w'.cell? ⟨a.block, a.off + 1, none⟩ = some (.int .i64 t0.n) ∧ w'.cell? ⟨a.block, a.off + 2, none⟩ = some (.string t0.s) ∧ w'.cell? ⟨a.block, a.off + 3, none⟩ = some (.slice A1 t0.ks.length c1)) ∧ (w'.cell? ⟨a.block, a.off + 4, none⟩ = some (.int .u8 t1.k) ∧ w'.cell? ⟨a.block, a.off + 4 + 1, none⟩ = some (.int .i64 t1.n) ∧ w'.cell? ⟨a.block, a.off + 4 + 2, none⟩ = some (.string t1.s) ∧ w'.cell? ⟨a.block, a.off + 4 + 3, none⟩ = some (.slice A2 t1.ks.length c2)))
      (exact HS.out _ (by first | exact (Below.refl _ _).drew | exact (bl_al (Below.refl _ _) _).drew | exact (bl_al (bl_al (Below.refl _ _) _) _).drew | fail))
      (first | fail)
  · have hrs := rowS_new ((W0.alloc (.cells #[.int .u8 t0.k, .int .i64 t0.n, .string t0.s, .slice A1 t0.ks.length c1] 24)).alloc (.cells #[.int .u8 t1.k, .int .i64 t1.n, .string t1.s, .slice A2 t1.ks.length c2] 24)) 9 [t0.s, t1.s]
    simp only [World.size_alloc] at hrs
    have HRS := Lib.hid hrs
    clear hrs
    go_wp2_with fail
    refine (HAL.out _ _ _ (HROW.out.later (bl_al (bl_al (bl_al (Below.refl _ _) _) _) _).drew) HRS.out).mono ?_
    rintro e y1 ⟨s1, rfl, by1⟩
    have HB1 := Lib.hid (bl_tt q0 (bl_tt (bl_al (bl_al (bl_al (Below.refl W0.heap.size W0) _) _) _).drew by1))
    clear by1
    go_wp2_with fail
    go_ret2
    exact ⟨s1, rfl, HB1.out⟩
  · have hrs := rowS_new ((W0.alloc (.cells #[.int .u8 t1.k, .int .i64 t1.n, .string t1.s, .slice A2 t1.ks.length c2] 24)).alloc (.cells #[.int .u8 t0.k, .int .i64 t0.n, .string t0.s, .slice A1 t0.ks.length c1] 24)) 9 [t0.s, t1.s]
    simp only [World.size_alloc] at hrs
    have HRS := Lib.hid hrs
    clear hrs
    go_wp2_with fail
    refine (HAL.out _ _ _ (HROW.out.later (bl_al (bl_al (bl_al (Below.refl _ _) _) _) _).drew) HRS.out).mono ?_
    rintro e y1 ⟨s1, rfl, by1⟩
    have HB1 := Lib.hid (bl_tt q0 (bl_tt (bl_al (bl_al (bl_al (Below.refl W0.heap.size W0) _) _) _).drew by1))
    clear by1
    go_wp2_with fail
    go_ret2
    exact ⟨s1, rfl, HB1.out⟩

set_option maxHeartbeats 8000000 in
set_option maxRecDepth 100000 in
theorem reject_none (k n : Int) (s : ByteArray) (A : Option Addr) (l c : Nat) (w : World) (hk : k < 40 ∨ 54 ≤ k) (hk2 : k ≠ 56) : Calls Try.prog 81 #[nv k n s A l c] w (NmE w 0) := by
  have z56 : (k == 56) = false := by simp; omega
  have z40 : (k == 40) = false := by simp; omega
  have z41 : (k == 41) = false := by simp; omega
  have z42 : (k == 42) = false := by simp; omega
  have z43 : (k == 43) = false := by simp; omega
  have z44 : (k == 44) = false := by simp; omega
  have z45 : (k == 45) = false := by simp; omega
  have z46 : (k == 46) = false := by simp; omega
  have z47 : (k == 47) = false := by simp; omega
  have z48 : (k == 48) = false := by simp; omega
  have z49 : (k == 49) = false := by simp; omega
  have z50 : (k == 50) = false := by simp; omega
  have z51 : (k == 51) = false := by simp; omega
  have z52 : (k == 52) = false := by simp; omega
  have z53 : (k == 53) = false := by simp; omega
  clear hk hk2
  go_enter Try.func81, Try.ntmps81
  go_wp2_with fail
  go_ret2
  exact ⟨_, rfl, bl_al (Below.refl _ _) _⟩

set_option maxHeartbeats 8000000 in
set_option maxRecDepth 100000 in
theorem reject_if (n : Int) (s : ByteArray) (ks : List T) (A : Option Addr) (c : Nat) (w : World) (hrow : RowAt w Any A ks) (hl : 4 ≤ ks.length) :
    Calls Try.prog 81 #[nv 52 n s A ks.length c] w (NmE w (if conB ks[3] && !conB ks[0] then 10 else 0)) := by
  have hrow' := hrow.later (bl_al (Below.refl _ _) (.cells #[.int .u8 52, .int .i64 n, .string s, .slice A ks.length c] 24))
  obtain ⟨a, t0, A1, c1, rfl, Ht0, h4, hn0⟩ := row0 hrow' (by omega)
  obtain ⟨t1, A2, c2, Ht1, h5, hn1⟩ := rowI hrow' 2 (by omega)
  simp only [Nat.reduceAdd, Nat.reduceMul] at Ht1 h5
  rw [Ht0.out, Ht1.out]
  obtain ⟨R, hR⟩ : ∃ R : Int, (if (conB t1 && !conB t0) = true then 10 else 0) = R := ⟨_, rfl⟩
  rw [hR]
  obtain ⟨b0, hb0⟩ : ∃ b, conB t0 = b := ⟨_, rfl⟩
  obtain ⟨b1, hb1⟩ : ∃ b, conB t1 = b := ⟨_, rfl⟩
  have H0 := Lib.hid (show ∀ v w, NV w Any t0 v → Calls Try.prog 92 #[v] w fun e w' => e = .returned (.bool b0) ∧ Below w.heap.size w w' from fun v w h => hb0 ▸ constant_any t0 v w h)
  have H1 := Lib.hid (show ∀ v w, NV w Any t1 v → Calls Try.prog 92 #[v] w fun e w' => e = .returned (.bool b1) ∧ Below w.heap.size w w' from fun v w h => hb1 ▸ constant_any t1 v w h)
  rw [hb0, hb1] at hR
  have HR := Lib.hid hR
  obtain ⟨L, hL⟩ : ∃ L, ks.length = L := ⟨_, rfl⟩
  have hfl : (0 : Int) < (L : Int) := by omega
  have hfl0 : 0 < L := by omega
  have hfl1 : (3 : Int) < (L : Int) := by omega
  have hfl2 : 3 < L := by omega
  have hbx := box4 (heap_alloc_new w (.cells #[.int .u8 52, .int .i64 n, .string s, .slice (some a) ks.length c] 24))
  clear Ht0 Ht1 hrow hrow' hR hb0 hb1
  rw [hL] at h4 h5 hn0 hn1 hl hbx ⊢
  obtain ⟨W0, hW0⟩ : ∃ W0, w.alloc (.cells #[.int .u8 52, .int .i64 n, .string s, .slice (some a) L c] 24) = W0 := ⟨_, rfl⟩
  have q0 : Below w.heap.size w W0 := hW0 ▸ bl_al (Below.refl _ _) _
  rw [hW0] at h4 h5 hn0 hn1 hbx
  have HN0 := Lib.hid hn0
  have HN1 := Lib.hid hn1
  have HALL := Lib.hid (show ∀ w', Below W0.heap.size W0 w' → (Nd4 w' a t0 A1 c1 ∧ Nd4 w' ⟨a.block, a.off + 12, none⟩ t1 A2 c2) ∧ w'.cell? ⟨w.heap.size, 0, none⟩ = some (.int .u8 52) ∧ w'.cell? ⟨w.heap.size, 3, none⟩ = some (.slice (some a) L c) from fun w' h => ⟨⟨Nd4_bl h h4, Nd4_bl h h5⟩, cell_bl h hbx.1, cell_bl h hbx.2.2.2⟩)
  clear hn0 hn1 h4 h5 hbx hL hl
  obtain ⟨⟨⟨a0, a1, a2, a3⟩, ⟨b0', b1', b2, b3⟩⟩, x0, x3⟩ := HALL.out _ (Below.refl _ _)
  go_enter Try.func81, Try.ntmps81
  go_wp2_with fail
  refine (H1.out _ _ HN1.out).mono ?_
  rintro e w1 ⟨rfl, bw1⟩
  obtain ⟨⟨⟨a0, a1, a2, a3⟩, ⟨b0', b1', b2, b3⟩⟩, x0, x3⟩ := HALL.out _ bw1
  have q1 := bl_tt q0 bw1
  have HN2 := Lib.hid (HN0.out.later bw1)
  clear bw1
  cases b1
  · go_wp2_with fail
    go_ret2
    exact ⟨_, by rw [← HR.out]; rfl, q1⟩
  · go_wp2_with fail
    refine (H0.out _ _ HN2.out).mono ?_
    rintro e w2 ⟨rfl, bw2⟩
    have q2 := bl_tt q1 bw2
    clear bw2
    cases b0
    · go_wp2_with fail
      go_ret2
      exact ⟨_, by rw [← HR.out]; rfl, q2⟩
    · go_wp2_with fail
      go_ret2
      exact ⟨_, by rw [← HR.out]; rfl, q2⟩

set_option maxHeartbeats 8000000 in
set_option maxRecDepth 100000 in
theorem reject_from (n : Int) (s : ByteArray) (ks : List T) (A : Option Addr) (c : Nat) (w : World) (hrow : RowAt w Any A ks) (hl : 4 ≤ ks.length) :
    Calls Try.prog 81 #[nv 53 n s A ks.length c] w (NmE w (if conB ks[0] then 10 else 0)) := by
  have hrow' := hrow.later (bl_al (Below.refl _ _) (.cells #[.int .u8 53, .int .i64 n, .string s, .slice A ks.length c] 24))
  obtain ⟨a, t0, A1, c1, rfl, Ht0, h4, hn0⟩ := row0 hrow' (by omega)
  rw [Ht0.out]
  obtain ⟨R, hR⟩ : ∃ R : Int, (if conB t0 = true then 10 else 0) = R := ⟨_, rfl⟩
  rw [hR]
  obtain ⟨b0, hb0⟩ : ∃ b, conB t0 = b := ⟨_, rfl⟩
  have H0 := Lib.hid (show ∀ v w, NV w Any t0 v → Calls Try.prog 92 #[v] w fun e w' => e = .returned (.bool b0) ∧ Below w.heap.size w w' from fun v w h => hb0 ▸ constant_any t0 v w h)
  rw [hb0] at hR
  have HR := Lib.hid hR
  obtain ⟨L, hL⟩ : ∃ L, ks.length = L := ⟨_, rfl⟩
  have hfl : (0 : Int) < (L : Int) := by omega
  have hfl0 : 0 < L := by omega
  have hbx := box4 (heap_alloc_new w (.cells #[.int .u8 53, .int .i64 n, .string s, .slice (some a) ks.length c] 24))
  clear Ht0 hrow hrow' hR hb0
  rw [hL] at h4 hn0 hl hbx ⊢
  obtain ⟨W0, hW0⟩ : ∃ W0, w.alloc (.cells #[.int .u8 53, .int .i64 n, .string s, .slice (some a) L c] 24) = W0 := ⟨_, rfl⟩
  have q0 : Below w.heap.size w W0 := hW0 ▸ bl_al (Below.refl _ _) _
  rw [hW0] at h4 hn0 hbx
  have HN0 := Lib.hid hn0
  obtain ⟨a0, a1, a2, a3⟩ := h4
  obtain ⟨x0, x1, x2, x3⟩ := hbx
  clear hn0 hL hl
  go_enter Try.func81, Try.ntmps81
  go_wp2_with fail
  refine (H0.out _ _ HN0.out).mono ?_
  rintro e w1 ⟨rfl, bw1⟩
  have q1 := bl_tt q0 bw1
  clear bw1 a0 a1 a2 a3 x0 x1 x2 x3
  cases b0
  · go_wp2_with fail
    go_ret2
    exact ⟨_, by rw [← HR.out]; rfl, q1⟩
  · go_wp2_with fail
    go_ret2
    exact ⟨_, by rw [← HR.out]; rfl, q1⟩

set_option maxHeartbeats 8000000 in
set_option maxRecDepth 100000 in
theorem reject_call (k n : Int) (s : ByteArray) (ks : List T) (A : Option Addr) (c : Nat) (w : World) (hk : k = 50 ∨ k = 51) (hrow : RowAt w Any A ks) (hlk : ks.length ≤ LK) (hlc : ks.length ≤ c) :
    Calls Try.prog 81 #[nv k n s A ks.length c] w (NmE w (if dupB ks then 8 else 0)) := by
  have hl' := LK_int hlk
  obtain ⟨R, hR⟩ : ∃ R : Int, (if dupB ks = true then 8 else 0) = R := ⟨_, rfl⟩
  rw [hR]
  have HR := Lib.hid hR
  have HROW := Lib.hid hrow
  have HLK := Lib.hid hlk
  clear hR hrow hlk
  rcases hk with rfl | rfl
  · go_enter Try.func81, Try.ntmps81
    go_wp2_with fail
    go_loopw [100] (fun i wr => ∃ j : Nat, j ≤ ks.length ∧ i = .int .i64 j ∧ Below w.heap.size w wr ∧ wr.heap[w.heap.size]? = some (.cells #[.int .u8 50, .int .i64 n, .string s, .slice A ks.length c] 24 (0, 0)) ∧ Hid (∀ q (hq : q < ks.length), q < j → hasN (ks.take q) ks[q].s = false)) (fun i _ => ks.length - (intOf i).toNat)
    case atStart => exact ⟨0, Nat.zero_le _, rfl, bl_al (Below.refl _ _) _, heap_alloc_new w _, Lib.hid fun q _ h => by omega⟩
    case round =>
      obtain ⟨j, hj, rfl, hbl, hbx, HJ⟩ := hrel
      have HBX := Lib.hid hbx
      have HBL := Lib.hid hbl
      by_cases hlt : j < ks.length
      · obtain ⟨a, t, A1, c1, rfl, _, Ht, ⟨q0, q1, q2, q3⟩, -⟩ := (HROW.out.later hbl).nd hlt
        obtain ⟨m0, m1, m2, m3⟩ := box4 hbx
        have m3' := fun o => cell_al m3 o
        obtain ⟨b, hb⟩ : ∃ b, hasN (ks.take j) t.s = b := ⟨_, rfl⟩
        have htl : (ks.take j).length = j := by simp; omega
        have HCO := Lib.hid (show ∀ (c : Nat) (nb : Nat) (w : World), RowAt w Any (some a) (ks.take j) → w.cell? ⟨nb, 2, none⟩ = some (.string t.s) → Calls Try.prog 90 #[.slice (some a) j c, .func (.func 91) #[] #[.pointer (some ⟨nb, 0, none⟩)]] w fun e w' => e = .returned (.bool b) ∧ Below w.heap.size w w' from fun c nb w h h' => by
          have := ContainsN_any (ks.take j) (some a) c t.s nb w h (by have := HLK.out; omega) h'
          rwa [htl, hb] at this)
        have HB := Lib.hid hb
        have HRT := Lib.hid (show RowAt (wr.alloc (.cells #[.int .u8 t.k, .int .i64 t.n, .string t.s, .slice A1 t.ks.length c1] 24)) Any (some a) (ks.take j) from fun i hi => by
          have hi' : i < ks.length := by simp at hi; omega
          have := (HROW.out.later (bl_al hbl (.cells #[.int .u8 t.k, .int .i64 t.n, .string t.s, .slice A1 t.ks.length c1] 24))) i hi'
          simpa using this)
        have hjc : j ≤ c := by omega
        have hjc' : (j : Int) ≤ (c : Int) := by omega
        clear hb htl hbx hbl
        go_wp2_with fail
        refine (HCO.out _ _ _ HRT.out (by simp)).mono ?_
        rintro e w1 ⟨rfl, bw1⟩
        have HB1 := Lib.hid (bl_tt (bl_al HBL.out _) bw1)
        have HX1 := Lib.hid (blk_bl (blk_al HBX.out _) bw1)
        have hy2 : w1.cell? ⟨wr.heap.size, 2, none⟩ = some (.string t.s) := cell_bl bw1 (by simp)
        clear bw1 q0 q1 q2 q3 m0 m1 m2 m3 m3'
        cases b
        · have HJ2 : Hid (∀ q (hq : q < ks.length), q < j + 1 → hasN (ks.take q) ks[q].s = false) := Lib.hid fun q hq hqj => by
            by_cases e : q < j
            · exact HJ.out q hq e
            · obtain rfl : q = j := by omega
              rw [Ht.out]; exact HB.out
          go_wp2_with fail
          go_roundw
          case rel => exact ⟨j + 1, by omega, by go_num, HB1.out, HX1.out, HJ2⟩
          case measure => simp [intOf]; omega
        · have hRR : R = 8 := by rw [← HR.out, if_pos (dupB_yes hlt (by rw [Ht.out]; exact HB.out))]
          have HRR := Lib.hid hRR
          clear hRR
          go_wp2_with fail
          go_ret2
          exact ⟨_, by rw [HRR.out]; rfl, HB1.out⟩
      · have hRR : R = 0 := by rw [← HR.out, dupB_no fun q hq => HJ.out q hq (by omega)]; rfl
        have HRR := Lib.hid hRR
        clear hRR hbl hbx
        go_wp2_with fail
        go_ret2
        exact ⟨_, by rw [HRR.out]; rfl, HBL.out⟩
  · go_enter Try.func81, Try.ntmps81
    go_wp2_with fail
    go_loopw [100] (fun i wr => ∃ j : Nat, j ≤ ks.length ∧ i = .int .i64 j ∧ Below w.heap.size w wr ∧ wr.heap[w.heap.size]? = some (.cells #[.int .u8 51, .int .i64 n, .string s, .slice A ks.length c] 24 (0, 0)) ∧ Hid (∀ q (hq : q < ks.length), q < j → hasN (ks.take q) ks[q].s = false)) (fun i _ => ks.length - (intOf i).toNat)
    case atStart => exact ⟨0, Nat.zero_le _, rfl, bl_al (Below.refl _ _) _, heap_alloc_new w _, Lib.hid fun q _ h => by omega⟩
    case round =>
      obtain ⟨j, hj, rfl, hbl, hbx, HJ⟩ := hrel
      have HBX := Lib.hid hbx
      have HBL := Lib.hid hbl
      by_cases hlt : j < ks.length
      · obtain ⟨a, t, A1, c1, rfl, _, Ht, ⟨q0, q1, q2, q3⟩, -⟩ := (HROW.out.later hbl).nd hlt
        obtain ⟨m0, m1, m2, m3⟩ := box4 hbx
        have m3' := fun o => cell_al m3 o
        obtain ⟨b, hb⟩ : ∃ b, hasN (ks.take j) t.s = b := ⟨_, rfl⟩
        have htl : (ks.take j).length = j := by simp; omega
        have HCO := Lib.hid (show ∀ (c : Nat) (nb : Nat) (w : World), RowAt w Any (some a) (ks.take j) → w.cell? ⟨nb, 2, none⟩ = some (.string t.s) → Calls Try.prog 90 #[.slice (some a) j c, .func (.func 91) #[] #[.pointer (some ⟨nb, 0, none⟩)]] w fun e w' => e = .returned (.bool b) ∧ Below w.heap.size w w' from fun c nb w h h' => by
          have := ContainsN_any (ks.take j) (some a) c t.s nb w h (by have := HLK.out; omega) h'
          rwa [htl, hb] at this)
        have HB := Lib.hid hb
        have HRT := Lib.hid (show RowAt (wr.alloc (.cells #[.int .u8 t.k, .int .i64 t.n, .string t.s, .slice A1 t.ks.length c1] 24)) Any (some a) (ks.take j) from fun i hi => by
          have hi' : i < ks.length := by simp at hi; omega
          have := (HROW.out.later (bl_al hbl (.cells #[.int .u8 t.k, .int .i64 t.n, .string t.s, .slice A1 t.ks.length c1] 24))) i hi'
          simpa using this)
        have hjc : j ≤ c := by omega
        have hjc' : (j : Int) ≤ (c : Int) := by omega
        clear hb htl hbx hbl
        go_wp2_with fail
        refine (HCO.out _ _ _ HRT.out (by simp)).mono ?_
        rintro e w1 ⟨rfl, bw1⟩
        have HB1 := Lib.hid (bl_tt (bl_al HBL.out _) bw1)
        have HX1 := Lib.hid (blk_bl (blk_al HBX.out _) bw1)
        have hy2 : w1.cell? ⟨wr.heap.size, 2, none⟩ = some (.string t.s) := cell_bl bw1 (by simp)
        clear bw1 q0 q1 q2 q3 m0 m1 m2 m3 m3'
        cases b
        · have HJ2 : Hid (∀ q (hq : q < ks.length), q < j + 1 → hasN (ks.take q) ks[q].s = false) := Lib.hid fun q hq hqj => by
            by_cases e : q < j
            · exact HJ.out q hq e
            · obtain rfl : q = j := by omega
              rw [Ht.out]; exact HB.out
          go_wp2_with fail
          go_roundw
          case rel => exact ⟨j + 1, by omega, by go_num, HB1.out, HX1.out, HJ2⟩
          case measure => simp [intOf]; omega
        · have hRR : R = 8 := by rw [← HR.out, if_pos (dupB_yes hlt (by rw [Ht.out]; exact HB.out))]
          have HRR := Lib.hid hRR
          clear hRR
          go_wp2_with fail
          go_ret2
          exact ⟨_, by rw [HRR.out]; rfl, HB1.out⟩
      · have hRR : R = 0 := by rw [← HR.out, dupB_no fun q hq => HJ.out q hq (by omega)]; rfl
        have HRR := Lib.hid hRR
        clear hRR hbl hbx
        go_wp2_with fail
        go_ret2
        exact ⟨_, by rw [HRR.out]; rfl, HBL.out⟩

end Go.Proofs.Ytldcjboignbfpaa
