/-
  checker: the contracts of constfold.Const, constant, mentions, indexed.
-/
import Derived.Test.YtldcjboignbfpaaCe
import Derived.Test.YtldcjboignbfpaaFx
import Derived.Test.YtldcjboignbfpaaWk
import Derived.Sort.CutIn
import Derived.IntWalk
namespace Go.Proofs.Ytldcjboignbfpaa
open Go Go.RowKit
attribute [local go_sem] Oper.semAt_some

/-- checker.constant. -/
def conB (t : T) : Bool := isE t && (foldE t).c

set_option maxHeartbeats 4000000 in
set_option maxRecDepth 100000 in
theorem Const_any (t : T) (v : Value) (w : World) (hv : NV w Any t v) : Calls Try.prog 96 #[v] w fun e w' => ∃ x : Int, e = .returned (.tuple #[.int .i64 x, .bool (conB t)]) ∧ Below w.heap.size w w' := by
  have HV := Lib.hid hv
  obtain ⟨A, c, rfl, -⟩ := hv.open_
  clear hv
  cases hE : isE t
  · have hc : conB t = false := by simp [conB, hE]
    rw [hc]
    have HE := Lib.hid hE
    generalize t.k = k, t.n = n, t.s = s, t.ks.length = m at *
    clear hE hc
    go_enter Try.func96, Try.ntmps96
    go_wp2_with fail
    refine (IsExpr_any t _ _ (HV.out.later (bl_al (Below.refl _ _) _))).mono ?_
    rintro e w1 ⟨rfl, bw1⟩
    have q1 := bl_tt (bl_al (Below.refl _ _) _) bw1
    rw [HE.out]
    clear bw1
    go_wp2_with fail
    go_ret2
    exact ⟨_, rfl, q1⟩
  · have hc : conB t = (foldE t).c := by simp [conB, hE]
    rw [hc]
    have HE := Lib.hid hE
    obtain ⟨⟨gv, gc⟩, hf⟩ : ∃ f, foldE t = f := ⟨_, rfl⟩
    have HFO := Lib.hid (show ∀ (v : Value) (w : World), NV w Any t v → Calls Try.prog 98 #[v] w (NewF w ⟨gv, gc⟩) from hf ▸ fold_any t hE)
    rw [hf]
    generalize t.k = k, t.n = n, t.s = s, t.ks.length = m at *
    clear hE hc hf
    go_enter Try.func96, Try.ntmps96
    go_wp2_with fail
    refine (IsExpr_any t _ _ (HV.out.later (bl_al (Below.refl _ _) _))).mono ?_
    rintro e w1 ⟨rfl, bw1⟩
    have q1 := bl_tt (bl_al (Below.refl _ _) _) bw1
    have hN := blk_bl (heap_alloc_new w (.cells #[.int .u8 k, .int .i64 n, .string s, .slice A m c] 24)) bw1
    obtain ⟨a0, a1, a2, a3⟩ := box4 hN
    rw [HE.out]
    clear bw1 hN
    go_wp2_with fail
    refine (HFO.out _ _ (HV.out.later q1)).mono ?_
    rintro e w2 ⟨k2, n2, s2, A2, l2, c2, rfl, -, bw2⟩
    have q2 := bl_tt q1 bw2
    clear bw2 a0 a1 a2 a3
    obtain ⟨-, -, -, -, y4, y5⟩ := box6 (heap_alloc_new w2 (.cells #[.int .u8 k2, .int .i64 n2, .string s2, .slice A2 l2 c2, .int .i64 gv, .bool gc] 107))
    have HS := Lib.hid (show (fun w' : World => w'.cell? ⟨w2.heap.size, 4, none⟩ = some (.int .i64 gv) ∧ w'.cell? ⟨w2.heap.size, 5, none⟩ = some (.bool gc)) (w2.alloc (.cells #[.int .u8 k2, .int .i64 n2, .string s2, .slice A2 l2 c2, .int .i64 gv, .bool gc] 107)).drew from ⟨y4, y5⟩)
    clear y4 y5
    go_upto_region 4 with fail
    go_region_held3 (fun w' : World => w'.cell? ⟨w2.heap.size, 4, none⟩ = some (.int .i64 gv) ∧ w'.cell? ⟨w2.heap.size, 5, none⟩ = some (.bool gc))
      (with_reducible exact HS.out)
      (first | fail)
    go_wp2_with fail
    refine bodyPost_ret (v := .tuple #[.int .i64 gv, .bool gc]) (by simp [results, Try.results96, go_sem]) rfl ⟨gv, rfl, (bl_al q2 _).drew⟩

set_option maxHeartbeats 4000000 in
set_option maxRecDepth 100000 in
theorem constant_any (t : T) (v : Value) (w : World) (hv : NV w Any t v) : Calls Try.prog 92 #[v] w fun e w' => e = .returned (.bool (conB t)) ∧ Below w.heap.size w w' := by
  have HV := Lib.hid hv
  obtain ⟨A, c, rfl, -⟩ := hv.open_
  clear hv
  obtain ⟨b, hb⟩ : ∃ b, conB t = b := ⟨_, rfl⟩
  rw [hb]
  have HB := Lib.hid hb
  clear hb
  generalize t.k = k, t.n = n, t.s = s, t.ks.length = m at *
  go_enter Try.func92, Try.ntmps92
  go_wp2_with fail
  refine (Const_any t _ _ (HV.out.later (bl_al (Below.refl _ _) _))).mono ?_
  rintro e w1 ⟨x, rfl, bw1⟩
  have q1 := bl_tt (bl_al (Below.refl _ _) _) bw1
  rw [HB.out]
  clear bw1
  go_wp2_with fail
  go_ret
  exact ⟨rfl, q1⟩

/-- A node that names s. -/
def naming (s : ByteArray) (x : T) : Bool := (x.k == 2 || x.k == 3 || x.k == 4 || x.k == 5) && x.s.toList == s.toList
/-- checker.mentions. -/
def menB (t : T) (s : ByteArray) : Bool := (po t).any (naming s)

/-- What mentions holds in memory: the name's box and the result's. -/
def MenI (nm : ByteArray) (N : Nat) (r : Bool) (q : Prop) (C : Nat → Prop) (W : World) : Prop :=
  (∀ b, C b ↔ b = N + 1 ∨ b = N + 1 + 1) ∧ W.heap[N + 1]? = some (.cells #[.string nm] 9 (0, 0)) ∧ W.heap[N + 1 + 1]? = some (.cells #[.bool r] 4 (0, 0)) ∧ q
set_option maxHeartbeats 8000000 in
set_option maxRecDepth 100000 in
theorem mentions_any (t : T) (nm : ByteArray) (v : Value) (w : World) (hv : NV w Any t v) (hd : dep t ≤ 1000) : Calls Try.prog 88 #[v, .string nm] w fun e w' => e = .returned (.bool (menB t nm)) ∧ Below w.heap.size w w' := by
  have HV := Lib.hid hv
  obtain ⟨A, c, rfl, -⟩ := hv.open_
  clear hv
  obtain ⟨b, hb⟩ : ∃ b, menB t nm = b := ⟨_, rfl⟩
  rw [hb]
  have HB := Lib.hid hb
  have HD := Lib.hid hd
  clear hb hd
  generalize t.k = k, t.n = n, t.s = s, t.ks.length = m at *
  refine (callsIn_wide (n := 3)).1 (callsIn_of_wp_marks Try.func88 rfl trivial ((wpIn_wide (n := 3)).2 ?_))
  simp only [Try.ntmps88, List.size_toArray, List.length_cons, List.length_nil, Nat.reduceAdd, Nat.reduceSub, Array.replicate_succ, Array.replicate_zero, List.push_toArray, List.append_toArray, List.nil_append, List.cons_append]
  go_wp2_with fail
  refine (Walk_any t _ _ (HV.out.later (bl_al (bl_al (bl_al (Below.refl _ _) _) _) _))).mono ?_
  rintro e x6 ⟨gr, k6, n6, s6, A6, m6, c6, rfl, hgr, hgb, hn6, bx6⟩
  have q6 := bl_tt (bl_al (bl_al (bl_al (Below.refl w.heap.size w) _) _) _) bx6
  have hNB := blk_bl (blk_al (heap_alloc_new (w.alloc (.cells #[.int .u8 k, .int .i64 n, .string s, .slice A m c] 24)) (.cells #[.string nm] 9)) (.cells #[.bool false] 4)) bx6
  have hRB := blk_bl (heap_alloc_new ((w.alloc (.cells #[.int .u8 k, .int .i64 n, .string s, .slice A m c] 24)).alloc (.cells #[.string nm] 9)) (.cells #[.bool false] 4)) bx6
  simp only [World.size_alloc] at hNB hRB hgr
  have HGB := Lib.hid hgb
  have HN6 := Lib.hid hn6
  have HQ6 := Lib.hid q6
  have HRB := Lib.hid hRB
  have HNB := Lib.hid hNB
  have HGR := Lib.hid hgr
  clear bx6 hgb hn6 q6 hRB hNB hgr
  go_wp2_with fail
  refine (wpIn_wide (n := 3)).1 ?_
  refine range_walk (n := 3) (gf := 47) (lb := #[.pointer (some ⟨gr, 0, none⟩)]) rfl (run_callFunc fnWalk1) (Walk1_stops (3 - 1) gr t x6 _ k6 n6 s6 A6 m6 c6 HGB.out HN6.out HD.out) rfl
    (fun pre C W => MenI nm w.heap.size false (pre.any (naming nm) = false) C W)
    (fun _ C W => MenI nm w.heap.size true ((po t).any (naming nm) = true) C W)
    (fun b => b = w.heap.size + 1 ∨ b = w.heap.size + 1 + 1)
    (fun pre C W W' ⟨h1, h2, h3, h4⟩ hc => ⟨h1, hc.keep h2 (fun h => h ((h1 _).2 (.inl rfl))), hc.keep h3 (fun h => h ((h1 _).2 (.inr rfl))), h4⟩)
    (fun pre C W W' ⟨h1, h2, h3, h4⟩ hc => ⟨h1, hc.keep h2 (fun h => h ((h1 _).2 (.inl rfl))), hc.keep h3 (fun h => h ((h1 _).2 (.inr rfl))), h4⟩)
    (fun pre C W ⟨h1, h2, h3, _⟩ b hb => by rcases (h1 b).1 hb with rfl | rfl; exact blk_lt h2; exact blk_lt h3)
    (fun pre C W ⟨h1, h2, h3, _⟩ b hb => by rcases (h1 b).1 hb with rfl | rfl; exact blk_lt h2; exact blk_lt h3)
    (fun b hb hr => by have := HGR.out; rcases hr with hr | hr <;> rcases hb with hb | hb <;> first | omega | (have := hr.1; simp at this; omega)) ?_ ⟨fun _ => Iff.rfl, HNB.out, HRB.out, rfl⟩ ?_ ?_ ?_
  · rintro b (rfl | hb)
    · exact blk_lt HGB.out
    · exact hb.2
  · rintro l pre x C W pv v ⟨hC, hnb, hrb, hno⟩ hCl hl hlW hpre ⟨Ap, mp, cp, rfl⟩ hnx
    obtain ⟨Ax, cx, rfl, hfx, hlx, hlcx, hrx⟩ := hnx.open_
    change Code.wpIn (Fence.wide.inRound l) (3 - 1 - 1) Try.prog _ _ _ _
    gi_wp2
    refine ⟨(Chg.refl _ _).alloc _, fun W2 hW2 => ?_⟩
    have hwl := blk_lt hnb
    have hwl2 := blk_lt hrb
    have hbx := hW2.keep (heap_alloc_new W (.cells #[.int .u8 x.k, .int .i64 x.n, .string x.s, .slice Ax x.ks.length cx] 24)) (show ¬ W.heap.size = l by omega)
    have hnb2 := hW2.keep (blk_al hnb (.cells #[.int .u8 x.k, .int .i64 x.n, .string x.s, .slice Ax x.ks.length cx] 24)) (fun h => hCl ((hC _).2 (.inl h.symm)))
    have hrb2 := hW2.keep (blk_al hrb (.cells #[.int .u8 x.k, .int .i64 x.n, .string x.s, .slice Ax x.ks.length cx] 24)) (fun h => hCl ((hC _).2 (.inr h.symm)))
    have hx0 : W2.cell? ⟨W.heap.size, 0, none⟩ = some (.int .u8 x.k) := cell_of_blk hbx rfl
    have hx2 : W2.cell? ⟨W.heap.size, 2, none⟩ = some (.string x.s) := cell_of_blk hbx rfl
    have hy0 : W2.cell? ⟨w.heap.size + 1, 0, none⟩ = some (.string nm) := cell_of_blk hnb2 rfl
    have hz0 : W2.cell? ⟨w.heap.size + 1 + 1, 0, none⟩ = some (.bool false) := cell_of_blk hrb2 rfl
    have hzf : W2.frozen? ⟨w.heap.size + 1 + 1, 0, none⟩ = false := frozen_of_blk hrb2
    have hxm : x ∈ po t := by
      obtain ⟨ys, hys⟩ := hpre
      rw [← hys]; simp
    have HXM := Lib.hid hxm
    have HNO := Lib.hid hno
    have HCC := Lib.hid hC
    have HNB2 := Lib.hid hnb2
    have HRB2 := Lib.hid hrb2
    obtain ⟨nx, hnx'⟩ : ∃ z, naming nm x = z := ⟨_, rfl⟩
    have HNX := Lib.hid hnx'
    obtain ⟨kk, hkk⟩ : ∃ kk, x.k = kk := ⟨_, rfl⟩
    obtain ⟨ss, hss⟩ : ∃ ss, x.s = ss := ⟨_, rfl⟩
    have HKS := Lib.hid (show naming nm x = ((kk == 2 || kk == 3 || kk == 4 || kk == 5) && ss.toList == nm.toList) by rw [← hkk, ← hss]; rfl)
    rw [hkk] at hx0 ⊢
    rw [hss] at hx2 ⊢
    clear hW2 hbx hrx hnx hfx hlcx hlx hxm hpre hkk hss hC hnb2 hrb2 hno hnx'
    change Code.wpIn (Fence.wide.inRound l) (3 - 1 - 1) Try.prog _ _ _ _
    have HGO := Lib.hid (show naming nm x = false → ∀ ac, rPost
        (fun pre C W => MenI nm w.heap.size false (pre.any (naming nm) = false) C W)
        (fun _ C W => MenI nm w.heap.size true ((po t).any (naming nm) = true) C W)
        (pre ++ [x]) C W2 Exit.normal ac W2 from fun h _ => ⟨C, ⟨HCC.out, HNB2.out, HRB2.out, by rw [List.any_append, HNO.out]; simp [h]⟩, fun b hb => .inl hb, Chg.refl _ _⟩)
    cases hq : (ss.toList == nm.toList)
    · have hnn : naming nm x = false := by rw [HKS.out, hq]; simp
      by_cases k2 : kk = 2
      · subst k2; gi_wp2; exact HGO.out hnn _
      by_cases k3 : kk = 3
      · subst k3; gi_wp2; exact HGO.out hnn _
      by_cases k4 : kk = 4
      · subst k4; gi_wp2; exact HGO.out hnn _
      by_cases k5 : kk = 5
      · subst k5; gi_wp2; exact HGO.out hnn _
      have x2 : (kk == 2) = false := by simpa using k2
      have x3 : (kk == 3) = false := by simpa using k3
      have x4 : (kk == 4) = false := by simpa using k4
      have x5 : (kk == 5) = false := by simpa using k5
      gi_wp2
      exact HGO.out hnn _
    · have HST := Lib.hid (show (kk == 2 || kk == 3 || kk == 4 || kk == 5) = true → ∃ C', MenI nm w.heap.size true ((po t).any (naming nm) = true) C' (W2.setCell ⟨w.heap.size + 1 + 1, 0, none⟩ (.bool true)) ∧ (∀ b, C' b → C b ∨ W2.heap.size ≤ b) ∧ Chg C W2 (W2.setCell ⟨w.heap.size + 1 + 1, 0, none⟩ (.bool true)) from fun h => by
        refine ⟨C, ⟨HCC.out, ?_, ?_, ?_⟩, fun b hb => .inl hb, (Chg.refl _ _).setCell (.inl ((HCC.out _).2 (.inr rfl))) _⟩
        · rw [Below.heap_setCell _ _ _ _ (by simp)]; exact HNB2.out
        · have := heap_setCell_same W2 (w.heap.size + 1 + 1) 0 _ _ (.bool true) HRB2.out
          simpa using this
        · rw [List.any_eq_true]; exact ⟨x, HXM.out, by rw [HKS.out, h, hq]; rfl⟩)
      by_cases k2 : kk = 2
      · subst k2; gi_wp2; exact HST.out rfl
      by_cases k3 : kk = 3
      · subst k3; gi_wp2; exact HST.out rfl
      by_cases k4 : kk = 4
      · subst k4; gi_wp2; exact HST.out rfl
      by_cases k5 : kk = 5
      · subst k5; gi_wp2; exact HST.out rfl
      have x2 : (kk == 2) = false := by simpa using k2
      have x3 : (kk == 3) = false := by simpa using k3
      have x4 : (kk == 4) = false := by simpa using k4
      have x5 : (kk == 5) = false := by simpa using k5
      have hnn : naming nm x = false := by rw [HKS.out, x2, x3, x4, x5]; rfl
      gi_wp2
      exact HGO.out hnn _
  · intro D C W' hD hC hch hK
    obtain ⟨hC1, hnb7, hr7, hno⟩ := hC
    have hbf : b = false := by rw [← HB.out]; exact hno
    subst hbf
    have r0 : W'.cell? ⟨w.heap.size + 1 + 1, 0, none⟩ = some (.bool false) := cell_of_blk hr7 rfl
    have rf : W'.frozen? ⟨w.heap.size + 1 + 1, 0, none⟩ = false := frozen_of_blk hr7
    have hq6 := HQ6.out.size
    have hlR := blk_lt HRB.out
    have HB7 := Lib.hid (show Below w.heap.size w W' from HQ6.out.trans (hch.below hq6 (fun b h => by omega)))
    have HK := Lib.hid hK
    have HR7 := Lib.hid hr7
    clear hch hK hr7 hC1 hnb7 hno
    go_wp2_with fail
    have hK' : (W'.setCell ⟨w.heap.size + 1 + 1, 0, none⟩ (.bool false)).heap[D]? = some (.deferred (some [])) := (Below.heap_setCell _ _ _ _ (show D ≠ w.heap.size + 1 + 1 by omega)).trans HK.out
    refine ⟨by simp, .inl ⟨_, _, rfl, run_takeDeferred hK', ?_⟩⟩
    have hr8 := heap_setCell_same W' (w.heap.size + 1 + 1) 0 _ _ (.bool false) HR7.out
    have hr9 : ((W'.setCell ⟨w.heap.size + 1 + 1, 0, none⟩ (.bool false)).putObj D (.deferred none)).heap[w.heap.size + 1 + 1]? = some (.cells #[.bool false] 4 (0, 0)) := (World.putObj_heap_other (show w.heap.size + 1 + 1 ≠ D by omega)).trans (by simpa using hr8)
    have r1 : ((W'.setCell ⟨w.heap.size + 1 + 1, 0, none⟩ (.bool false)).putObj D (.deferred none)).cell? ⟨w.heap.size + 1 + 1, 0, none⟩ = some (.bool false) := cell_of_blk hr9 rfl
    have hb8 := HB7.out.setCell (p := ⟨w.heap.size + 1 + 1, 0, none⟩) (by simp; omega) (.bool false)
    have hb9 := hb8.trans ((Chg.putObj (W'.setCell ⟨w.heap.size + 1 + 1, 0, none⟩ (.bool false)) D (.deferred none)).below (B := w.heap.size) hb8.size (fun b hb => by have : b = D := hb; omega))
    exact ⟨.bool false, by simp [results, Try.results88, go_sem, r1], rfl, hb9⟩
  · intro D pre C W' hD hC hch hK
    obtain ⟨hC1, hnb7, hr7, hno⟩ := hC
    have hbf : b = true := by rw [← HB.out]; exact hno
    subst hbf
    have r0 : W'.cell? ⟨w.heap.size + 1 + 1, 0, none⟩ = some (.bool true) := cell_of_blk hr7 rfl
    have hq6 := HQ6.out.size
    have hlR := blk_lt HRB.out
    have HB7 := Lib.hid (show Below w.heap.size w W' from HQ6.out.trans (hch.below hq6 (fun b h => by omega)))
    have HK := Lib.hid hK
    have HR7 := Lib.hid hr7
    clear hch hK hr7 hC1 hnb7 hno
    refine (wpIn_wide (n := 3)).2 ?_
    go_wp2_with fail
    refine ⟨by simp, .inl ⟨_, _, rfl, run_takeDeferred HK.out, ?_⟩⟩
    have hr9 : (W'.putObj D (.deferred none)).heap[w.heap.size + 1 + 1]? = some (.cells #[.bool true] 4 (0, 0)) := (World.putObj_heap_other (show w.heap.size + 1 + 1 ≠ D by omega)).trans HR7.out
    have r1 : (W'.putObj D (.deferred none)).cell? ⟨w.heap.size + 1 + 1, 0, none⟩ = some (.bool true) := cell_of_blk hr9 rfl
    have hb9 := HB7.out.trans ((Chg.putObj W' D (.deferred none)).below (B := w.heap.size) HB7.out.size (fun b hb => by have : b = D := hb; omega))
    exact ⟨.bool true, by simp [results, Try.results88, go_sem, r1], rfl, hb9⟩

end Go.Proofs.Ytldcjboignbfpaa

/-
  checker: the contracts of indexed, alias, and of slices.ContainsFunc with the closure of reject.
-/
namespace Go.Proofs.Ytldcjboignbfpaa
open Go Go.RowKit

/-- The i-th child (some node if there is none). -/
def kid (t : T) (i : Nat) : T := t.ks.getD i (.nd 0 0 ⟨#[]⟩ [])
theorem kid_eq {t : T} {i : Nat} (h : i < t.ks.length) : kid t i = t.ks[i] := by simp [kid, h]
theorem kid_dep {t : T} {i : Nat} (h : i < t.ks.length) : dep (kid t i) ≤ dep t := by
  rw [kid_eq h]
  have := dep_le (List.getElem_mem h)
  cases t with
  | nd k n s ks => simp only [dep, T.ks_nd] at *; omega
/-- checker.indexed. -/
def idxB (t : T) (s : ByteArray) : Bool := t.k == 3 && menB (kid t 0) s

set_option maxHeartbeats 4000000 in
set_option maxRecDepth 100000 in
theorem indexed_any (t : T) (nm : ByteArray) (v : Value) (w : World) (hv : NV w Any t v) (hd : dep t ≤ 1000) (hk : t.k = 3 → 1 ≤ t.ks.length) : Calls Try.prog 87 #[v, .string nm] w fun e w' => e = .returned (.bool (idxB t nm)) ∧ Below w.heap.size w w' := by
  have HV := Lib.hid hv
  obtain ⟨A, c, rfl, hf, hlk, hlc, hrow⟩ := hv.open_
  by_cases h3 : t.k = 3
  · have hl := hk h3
    have hm := mentions_any (kid t 0) nm
    have hdd := kid_dep (t := t) (i := 0) (by omega)
    have HM := Lib.hid (fun v w h => hm v w h (by omega))
    obtain ⟨b, hb⟩ : ∃ b, menB (kid t 0) nm = b := ⟨_, rfl⟩
    have hi : idxB t nm = b := by simp [idxB, h3, hb]
    rw [hb] at HM
    obtain ⟨a, t1, A1, c1, rfl, _, Ht, ⟨q0, q1, q2, q3⟩, hn⟩ := (hrow.later (bl_al (Below.refl _ _) (.cells #[.int .u8 t.k, .int .i64 t.n, .string t.s, .slice A t.ks.length c] 24))).nd (i := 0) (by omega)
    have ht1 : kid t 0 = t1 := by rw [kid_eq (by omega), Ht.out]
    rw [ht1] at HM
    rw [hi, h3]
    rw [h3] at q0 q1 q2 q3
    have HN := Lib.hid hn
    rw [h3] at HN
    obtain ⟨m, hm'⟩ : ∃ m, t.ks.length = m := ⟨_, rfl⟩
    rw [hm'] at HN hl q0 q1 q2 q3 ⊢
    generalize t.n = n, t.s = s at *
    have hfl : (0 : Int) < (m : Int) := by omega
    have hfl0 : 0 < m := by omega
    simp only [Nat.zero_mul, Addr.add_zero'] at q0 q1 q2 q3
    clear hv hrow hf hlk hlc hm hdd hb hi ht1 hn Ht HV hk hm' hd hl
    go_enter Try.func87, Try.ntmps87
    go_wp2_with fail
    refine (HM.out _ _ HN.out).mono ?_
    rintro e w1 ⟨rfl, bw1⟩
    have q1 := bl_tt (bl_al (Below.refl _ _) _) bw1
    go_wp2_with fail
    go_ret
    exact ⟨rfl, q1⟩
  · have hi : idxB t nm = false := by simp [idxB, h3]
    have x3 : (t.k == 3) = false := by simpa using h3
    rw [hi]
    generalize t.k = k, t.n = n, t.s = s, t.ks.length = m at *
    clear hv HV hrow hf hlk hlc hk hd h3 hi
    go_enter Try.func87, Try.ntmps87
    go_wp2_with fail
    go_ret
    exact ⟨rfl, bl_al (Below.refl _ _) _⟩

/-- The slice address A leads to the strings ss. -/
def RowS (w : World) (A : Option Addr) (ss : List ByteArray) : Prop := ∀ i (hi : i < ss.length), ∃ a : Addr, A = some a ∧ w.cell? (a.add i) = some (.string ss[i])
theorem RowS.later {w w' : World} {A : Option Addr} {ss : List ByteArray} (h : RowS w A ss) (hb : Below w.heap.size w w') : RowS w' A ss := fun i hi =>
  let ⟨a, h1, h2⟩ := h i hi; ⟨a, h1, cell_bl hb h2⟩
theorem RowS.nd {w : World} {A : Option Addr} {ss : List ByteArray} (h : RowS w A ss) {i : Nat} (hi : i < ss.length) : ∃ (a : Addr) (s : ByteArray), A = some a ∧ Hid (ss[i] = s) ∧ w.cell? (a.add i) = some (.string s) :=
  let ⟨a, h1, h2⟩ := h i hi; ⟨a, ss[i], h1, rfl, h2⟩
/-- checker.alias finds a name. -/
def aliB (ts : List T) (ss : List ByteArray) : Bool := ts.any fun t => ss.any (idxB t)
/-- A name and an error. -/
def NmE (w : World) (x : Int) (e : Ending) (w' : World) : Prop := ∃ s, e = .returned (.tuple #[.string s, .int .i64 x]) ∧ Below w.heap.size w w'

set_option maxHeartbeats 4000000 in
set_option maxRecDepth 100000 in
theorem alias_any (ts : List T) (ss : List ByteArray) (A : Option Addr) (c : Nat) (B : Option Addr) (d : Nat) (w : World) (hrow : RowAt w Any A ts) (hss : RowS w B ss) (hl : ts.length ≤ LK) (hl2 : ss.length ≤ 100) (ht : ∀ t ∈ ts, dep t ≤ 1000 ∧ (t.k = 3 → 1 ≤ t.ks.length)) :
    Calls Try.prog 89 #[.slice A ts.length c, .slice B ss.length d] w (NmE w (if aliB ts ss = true then 8 else 0)) := by
  have hl' := LK_int hl
  obtain ⟨R, hR⟩ : ∃ R : Int, (if aliB ts ss = true then 8 else 0) = R := ⟨_, rfl⟩
  rw [hR]
  have HR := Lib.hid hR
  have HROW := Lib.hid hrow
  have HSS := Lib.hid hss
  have HT := Lib.hid ht
  clear hrow hss hl ht hR
  go_enter Try.func89, Try.ntmps89
  go_wp2_with fail
  go_loopw [12] (fun i wr => ∃ j : Nat, j ≤ ts.length ∧ i = .int .i64 j ∧ Below w.heap.size w wr ∧ Hid (aliB (ts.take j) ss = false)) (fun i _ => ts.length - (intOf i).toNat)
  case atStart => exact ⟨0, Nat.zero_le _, rfl, Below.refl _ _, Lib.hid rfl⟩
  case round =>
    obtain ⟨j, hj, rfl, hbl, HJ⟩ := hrel
    by_cases hlt : j < ts.length
    · obtain ⟨a, t, A1, c1, rfl, _, Ht, ⟨q0, q1, q2, q3⟩, hn⟩ := (HROW.out.later hbl).nd hlt
      have htt := HT.out ts[j] (List.getElem_mem hlt)
      rw [Ht.out] at htt
      have HTT := Lib.hid htt
      have HN := Lib.hid hn
      have HBL := Lib.hid hbl
      clear htt hn
      go_wp2_with fail
      go_loopw [9, 18] (fun _ i wi => ∃ q : Nat, q ≤ ss.length ∧ i = .int .i64 q ∧ Below wr.heap.size wr wi ∧ wi.heap[wr.heap.size]? = some (.cells #[.int .u8 t.k, .int .i64 t.n, .string t.s, .slice A1 t.ks.length c1] 24 (0, 0)) ∧ Hid ((ss.take q).any (idxB t) = false)) (fun _ i _ => ss.length - (intOf i).toNat)
      case atStart => exact ⟨0, Nat.zero_le _, rfl, bl_al (Below.refl _ _) _, heap_alloc_new wr _, Lib.hid rfl⟩
      case round =>
        obtain ⟨q, hq, rfl, hbi, hbx, HQ⟩ := hrel
        have HBI := Lib.hid hbi
        have HBX := Lib.hid hbx
        obtain ⟨m0, m1, m2, m3⟩ := box4 hbx
        by_cases hlq : q < ss.length
        · obtain ⟨a2, s2, rfl, Hs2, y0⟩ := (HSS.out.later (bl_tt hbl hbi)).nd hlq
          obtain ⟨b, hb⟩ : ∃ b, idxB t s2 = b := ⟨_, rfl⟩
          have HB := Lib.hid hb
          clear hb q0 q1 q2 q3 hbx hbi hbl
          go_wp2_with fail
          refine (indexed_any t s2 _ _ (HN.out.later HBI.out) HTT.out.1 HTT.out.2).mono ?_
          rintro e w3 ⟨rfl, bw3⟩
          rw [HB.out]
          have HB3 := Lib.hid (bl_tt HBI.out bw3)
          have HX3 := Lib.hid (blk_bl HBX.out bw3)
          clear bw3 m0 m1 m2 m3 y0
          cases b
          · have HQ2 : Hid ((ss.take (q + 1)).any (idxB t) = false) := Lib.hid (by rw [List.take_succ_eq_append_getElem hlq, List.any_append, HQ.out, Hs2.out]; simp [HB.out])
            go_wp2_with fail
            go_roundw
            case rel => exact ⟨q + 1, by omega, by go_num, HB3.out, HX3.out, HQ2⟩
            case measure => simp [intOf]; omega
          · have hRR : R = 8 := by
              rw [← HR.out, if_pos]
              unfold aliB
              rw [List.any_eq_true]
              refine ⟨ts[j], List.getElem_mem hlt, ?_⟩
              rw [Ht.out, List.any_eq_true]
              exact ⟨ss[q], List.getElem_mem hlq, by rw [Hs2.out]; exact HB.out⟩
            have HRR := Lib.hid hRR
            clear hRR
            go_wp2_with fail
            go_ret2
            exact ⟨s2, by rw [HRR.out]; rfl, bl_tt HBL.out HB3.out⟩
        · obtain rfl : q = ss.length := by omega
          have HJ2 : Hid (aliB (ts.take (j + 1)) ss = false) := Lib.hid (by
            have h1 := HQ.out
            rw [List.take_of_length_le (Nat.le_refl _)] at h1
            have h2 := HJ.out
            unfold aliB at *
            rw [List.take_succ_eq_append_getElem hlt, List.any_append, h2, Ht.out]
            simp [h1])
          clear q0 q1 q2 q3 hbx hbi hbl m0 m1 m2 m3
          go_wp2_with fail
          go_roundw
          case rel => exact ⟨j + 1, by omega, by go_num, bl_tt HBL.out HBI.out, HJ2⟩
          case measure => simp [intOf]; omega
    · obtain rfl : j = ts.length := by omega
      have hRR : R = 0 := by
        rw [← HR.out, if_neg]
        have := HJ.out
        rw [List.take_of_length_le (Nat.le_refl _)] at this
        simp [this]
      have HRR := Lib.hid hRR
      have HBL := Lib.hid hbl
      clear hRR hbl
      go_wp2_with fail
      go_ret2
      exact ⟨_, by rw [HRR.out]; rfl, HBL.out⟩

set_option maxHeartbeats 1000000 in
theorem reject1_any (k n : Int) (rs : ByteArray) (u3 : Value) (s : ByteArray) (nb : Nat) (w : World) (hc : w.cell? ⟨nb, 2, none⟩ = some (.string s)) :
    Calls Try.prog 91 #[.agg #[.int .u8 k, .int .i64 n, .string rs, u3], .pointer (some ⟨nb, 0, none⟩)] w fun e w' => e = .returned (.bool (rs.toList == s.toList)) ∧ Below w.heap.size w w' := by
  have hc' := cell_al hc
  go_enter Try.func91, Try.ntmps91
  go_wp2_with fail
  go_ret
  exact ⟨rfl, (Below.refl _ _).alloc (Nat.le_refl _) _⟩

/-- A child of that name. -/
def hasN (ks : List T) (s : ByteArray) : Bool := ks.any fun t => t.s.toList == s.toList

set_option maxHeartbeats 2000000 in
theorem IndexFuncN_any (ks : List T) (A : Option Addr) (c : Nat) (s : ByteArray) (nb : Nat) (w : World) (hrow : RowAt w Any A ks) (hl : ks.length ≤ LK) (hc : w.cell? ⟨nb, 2, none⟩ = some (.string s)) :
    Calls Try.prog 95 #[.slice A ks.length c, .func (.func 91) #[] #[.pointer (some ⟨nb, 0, none⟩)]] w fun e w' => ∃ x : Int, e = .returned (.int .i64 x) ∧ decide (0 ≤ x) = hasN ks s ∧ Below w.heap.size w w' := by
  have hl' := LK_int hl
  have HROW := Lib.hid hrow
  have HC := Lib.hid hc
  obtain ⟨R, hR⟩ : ∃ R, hasN ks s = R := ⟨_, rfl⟩
  rw [hR]
  have HR := Lib.hid hR
  clear hrow hl hc hR
  go_enter Try.func95, Try.ntmps95
  go_wp2_with fail
  go_loopw [8] (fun i wr => ∃ j : Nat, j ≤ ks.length ∧ i = .int .i64 j ∧ Below w.heap.size w wr ∧ Hid (hasN (ks.take j) s = false)) (fun i _ => ks.length - (intOf i).toNat)
  case atStart => exact ⟨0, Nat.zero_le _, rfl, Below.refl _ _, Lib.hid rfl⟩
  case round =>
    obtain ⟨j, hj, rfl, hbl, HJ⟩ := hrel
    by_cases hlt : j < ks.length
    · obtain ⟨a, t, A1, c1, rfl, _, Ht, ⟨q0, q1, q2, q3⟩, -⟩ := (HROW.out.later hbl).nd hlt
      obtain ⟨b, hb⟩ : ∃ b, (t.s.toList == s.toList) = b := ⟨_, rfl⟩
      have HB := Lib.hid hb
      clear hb
      go_wp2_with fail
      refine (reject1_any t.k t.n t.s _ s nb _ (cell_bl hbl HC.out)).mono ?_
      rintro e w1 ⟨rfl, bw1⟩
      rw [HB.out]
      have HBL := Lib.hid (bl_tt hbl bw1)
      clear bw1 q0 q1 q2 q3
      cases b
      · have HJ2 : Hid (hasN (ks.take (j + 1)) s = false) := Lib.hid (by
          have := HJ.out
          unfold hasN at *
          rw [List.take_succ_eq_append_getElem hlt, List.any_append, this, Ht.out]
          simp [HB.out])
        go_wp2_with fail
        go_roundw
        case rel => exact ⟨j + 1, by omega, by go_num, HBL.out, HJ2⟩
        case measure => simp [intOf]; omega
      · have HN := Lib.hid (show R = true by
          rw [← HR.out]
          unfold hasN
          rw [List.any_eq_true]
          exact ⟨ks[j], List.getElem_mem hlt, by rw [Ht.out]; exact HB.out⟩)
        go_wp2_with fail
        go_ret
        exact ⟨j, rfl, by rw [HN.out]; simp, HBL.out⟩
    · have HN := Lib.hid (show R = false by
        rw [← HR.out]
        have := HJ.out
        rwa [List.take_of_length_le (by omega)] at this)
      have HBL := Lib.hid hbl
      clear hbl
      go_wp2_with fail
      go_ret
      exact ⟨-1, rfl, by rw [HN.out]; rfl, HBL.out⟩

set_option maxHeartbeats 2000000 in
theorem ContainsN_any (ks : List T) (A : Option Addr) (c : Nat) (s : ByteArray) (nb : Nat) (w : World) (hrow : RowAt w Any A ks) (hl : ks.length ≤ LK) (hc : w.cell? ⟨nb, 2, none⟩ = some (.string s)) :
    Calls Try.prog 90 #[.slice A ks.length c, .func (.func 91) #[] #[.pointer (some ⟨nb, 0, none⟩)]] w fun e w' => e = .returned (.bool (hasN ks s)) ∧ Below w.heap.size w w' := by
  have HROW := Lib.hid hrow
  have HC := Lib.hid hc
  have HL := Lib.hid hl
  obtain ⟨R, hR⟩ : ∃ R, hasN ks s = R := ⟨_, rfl⟩
  rw [hR]
  have HR := Lib.hid hR
  obtain ⟨L, hL⟩ : ∃ L, ks.length = L := ⟨_, rfl⟩
  rw [hL]
  have HLL := Lib.hid hL
  clear hrow hl hc hR hL
  go_enter Try.func90, Try.ntmps90
  go_wp2_with fail
  refine (HLL.out ▸ IndexFuncN_any ks A c s nb _ HROW.out HL.out HC.out).mono ?_
  rintro e w1 ⟨x, rfl, hx, bw1⟩
  rw [HR.out] at hx
  go_wp2_with fail
  go_ret
  exact ⟨by rw [← hx]; rfl, bw1⟩

end Go.Proofs.Ytldcjboignbfpaa
