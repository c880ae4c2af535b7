/-
  eval: the contracts of value, variable, Expr, Index, for any function that finds the cells of a name.
-/
import Derived.Test.YtekjfbnggfbfhaaAr
import Derived.Test.YtekjfbnggfbfhaaRowI
import Derived.Test.YtekjfbnggfbfhaaAst2
namespace Go.Proofs.Ytekjfbnggfbfhaa
open Go Go.RowKit

/-- eval.variable; i: value and error of the index. -/
def varE (look : ByteArray → Option (List Int)) (k : Int) (s : ByteArray) (i : Int × Int) : Int × Int :=
  match look s with
  | none => (0, 6)
  | some l =>
    if k = 2 then (if l.length = 1 then (l.getD 0 0, 0) else (0, 7))
    else if k = 3 then (if i.2 ≠ 0 then (0, i.2) else if 0 ≤ i.1 ∧ i.1 < l.length then (l.getD i.1.toNat 0, 0) else (0, 12))
    else if k = 4 then (if l.length = 0 then (0, 13) else (l.getD (l.length - 1) 0, 0))
    else (l.length, 0)
/-- eval.value; rs: values and errors of the children. -/
def evK (look : ByteArray → Option (List Int)) (k n : Int) (s : ByteArray) (rs : List (Int × Int)) : Int × Int :=
  if k = 1 then (n, 0)
  else if 2 ≤ k ∧ k ≤ 5 then varE look k s (rs.getD 0 (0, 0))
  else if (rs.getD 0 (0, 0)).2 ≠ 0 then (0, (rs.getD 0 (0, 0)).2)
  else if rs.length = 1 then unE k (rs.getD 0 (0, 0)).1
  else if (rs.getD 1 (0, 0)).2 ≠ 0 then (0, (rs.getD 1 (0, 0)).2)
  else apE k (rs.getD 0 (0, 0)).1 (rs.getD 1 (0, 0)).1
mutual
def evE (look : ByteArray → Option (List Int)) : T → Int × Int
  | .nd k n s ks => evK look k n s (evEs look ks)
def evEs (look : ByteArray → Option (List Int)) : List T → List (Int × Int)
  | [] => []
  | t :: ts => evE look t :: evEs look ts
end
theorem evEs_map (look : ByteArray → Option (List Int)) : ∀ ks : List T, evEs look ks = ks.map (evE look)
  | [] => by simp [evEs]
  | t :: ts => by simp [evEs, evEs_map look ts]

/-- A function that finds the cells of a name (first: what it is bound to): it reads what Rd says, and changes nothing. -/
structure LookC (f : FuncId) (fn : Func) (rv : Value) (Rd : World → Prop) (look : ByteArray → Option (List Int)) : Prop where
  isFn : IsFn Try.prog f fn
  later : ∀ W W', Rd W → Below W.heap.size W W' → Rd W'
  fits : ∀ s l, look s = some l → l.length ≤ 100000
  call : ∀ (s : ByteArray) (W : World), Rd W → Calls Try.prog f #[rv, .string s] W fun e W' => Below W.heap.size W W' ∧
    ((look s = none ∧ ∃ A c, e = .returned (.tuple #[.slice A 0 c, .bool false])) ∨ ∃ l A c, look s = some l ∧ e = .returned (.tuple #[.slice A l.length c, .bool true]) ∧ RowI W' Any A l)
/-- A number and an error. -/
def NumE (r : Int × Int) (w : World) (e : Ending) (w' : World) : Prop := e = .returned (.tuple #[.int .i64 r.1, .int .i64 r.2]) ∧ Below w.heap.size w w'
/-- What value does at one tree. -/
def ValC (f : FuncId) (rv : Value) (Rd : World → Prop) (look : ByteArray → Option (List Int)) (t : T) : Prop :=
  ∀ (v : Value) (W : World), NV W Any t v → Rd W → Calls Try.prog 65 #[v, .func (.func f) #[rv] #[]] W (NumE (evE look t) W)

theorem RowI.nd {w : World} {S : Nat → Prop} {A : Option Addr} {xs : List Int} (h : RowI w S A xs) {i : Nat} (hi : i < xs.length) : ∃ a : Addr, A = some a ∧ w.cell? (a.add i) = some (.int .i64 (xs.getD i 0)) :=
  let ⟨a, h1, _, h3, _⟩ := h i hi; ⟨a, h1, by simpa [hi] using h3⟩

set_option maxHeartbeats 4000000 in
set_option maxRecDepth 100000 in
theorem variable_any {f : FuncId} {fn : Func} {rv : Value} {Rd : World → Prop} {look : ByteArray → Option (List Int)} (hL : LookC f fn rv Rd look) (k n : Int) (s : ByteArray) (ks : List T) (v : Value) (w : World) (hv : NV w Any (.nd k n s ks) v) (hR : Rd w)
    (hk : 2 ≤ k ∧ k ≤ 5) (h3 : k = 3 → ∃ t, ks = [t] ∧ ValC f rv Rd look t) :
    Calls Try.prog 72 #[v, .func (.func f) #[rv] #[]] w (NumE (varE look k s ((ks.map (evE look)).getD 0 (0, 0))) w) := by
  obtain ⟨A, c, rfl, hf, hlk, hlc, hrow⟩ := hv.open_
  simp only [T.k_nd, T.n_nd, T.s_nd, T.ks_nd] at *
  have hcall := run_callFunc hL.isFn
  have HL := Lib.hid hL
  have HRd := Lib.hid hR
  have HROW := Lib.hid hrow
  have H3 := Lib.hid h3
  obtain ⟨L, hLL⟩ : ∃ L, ks.length = L := ⟨_, rfl⟩
  rw [hLL]
  obtain ⟨R, hRR⟩ : ∃ R, varE look k s ((ks.map (evE look)).getD 0 (0, 0)) = R := ⟨_, rfl⟩
  rw [hRR]
  have HRR := Lib.hid hRR
  have HLL := Lib.hid hLL
  clear hv hrow h3 hL hR hRR hLL hf hlk hlc
  go_enter Try.func72, Try.ntmps72
  go_wp2_with fail
  refine (HL.out.call s _ (HL.out.later _ _ HRd.out (bl_al (Below.refl _ _) _))).mono ?_
  rintro e w1 ⟨bw1, h1⟩
  have q1 := bl_tt (bl_al (Below.refl _ _) _) bw1
  have hN := blk_bl (heap_alloc_new w (.cells #[.int .u8 k, .int .i64 n, .string s, .slice A L c] 36)) bw1
  obtain ⟨a0, a1, a2, a3⟩ := box4 hN
  have HN := Lib.hid hN
  clear bw1 hN
  rcases h1 with ⟨hno, A1, c1, rfl⟩ | ⟨l, A1, c1, hso, rfl, hri⟩
  · have hRR : R = (0, 6) := by rw [← HRR.out, varE, hno]
    subst hRR
    clear a0 a1 a2 a3
    go_wp2_with fail
    go_ret2
    exact ⟨rfl, q1⟩
  · have hlen := HL.out.fits s l hso
    have HRI := Lib.hid hri
    have HSO := Lib.hid hso
    clear hri hso
    by_cases k2 : k = 2
    · subst k2
      have hRR : R = if l.length = 1 then (l.getD 0 0, 0) else (0, 7) := by rw [← HRR.out, varE, HSO.out]; rfl
      by_cases hl1 : l.length = 1
      · rw [if_pos hl1] at hRR
        obtain ⟨a, rfl, hc⟩ := HRI.out.nd (i := 0) (by omega)
        simp only [Addr.add_zero'] at hc
        obtain ⟨x0, hx0⟩ : ∃ x0, l.getD 0 0 = x0 := ⟨_, rfl⟩
        rw [hx0] at hc hRR
        have HX := Lib.hid hRR
        rw [hl1]
        clear hx0 hl1 HRI HRR HSO hRR
        go_wp2_with fail
        go_ret2
        exact ⟨by rw [HX.out]; rfl, q1⟩
      · rw [if_neg hl1] at hRR
        have HX := Lib.hid hRR
        have e1 : ((l.length : Int) == 1) = false := by simp; omega
        have e2 : ((l.length : Int) != 1) = true := by simp; omega
        clear hl1 hRR
        go_wp2_with fail
        go_ret2
        exact ⟨by rw [HX.out]; rfl, q1⟩
    by_cases k4 : k = 4
    · subst k4
      have hRR : R = if l.length = 0 then (0, 13) else (l.getD (l.length - 1) 0, 0) := by rw [← HRR.out, varE, HSO.out]; rfl
      by_cases hl1 : l.length = 0
      · rw [if_pos hl1] at hRR
        have HX := Lib.hid hRR
        rw [hl1]
        clear hl1 HRI HRR HSO hRR
        go_wp2_with fail
        go_ret2
        exact ⟨by rw [HX.out]; rfl, q1⟩
      · rw [if_neg hl1] at hRR
        obtain ⟨a, rfl, hc⟩ := HRI.out.nd (i := l.length - 1) (by omega)
        obtain ⟨x0, hx0⟩ : ∃ x0, l.getD (l.length - 1) 0 = x0 := ⟨_, rfl⟩
        rw [hx0] at hc hRR
        have HX := Lib.hid hRR
        obtain ⟨m, hm⟩ : ∃ m, l.length = m + 1 := ⟨l.length - 1, by omega⟩
        rw [hm] at hc hlen ⊢
        simp only [Nat.add_sub_cancel] at hc
        clear hx0 hl1 HRI HRR HSO hm hRR
        go_wp2_with fail
        go_ret2
        exact ⟨by rw [HX.out]; rfl, q1⟩
    by_cases k5 : k = 5
    · subst k5
      have hRR : R = ((l.length : Int), 0) := by rw [← HRR.out, varE, HSO.out]; rfl
      have HX := Lib.hid hRR
      clear HRI HRR HSO hRR
      go_wp2_with fail
      go_ret2
      exact ⟨by rw [HX.out]; rfl, q1⟩
    · obtain rfl : k = 3 := by omega
      obtain ⟨t, rfl, hval⟩ := H3.out rfl
      obtain ⟨a, t0, A2, c2, rfl, _, Ht, ⟨y0, y1, y2, y3⟩, hn0⟩ := (HROW.out.later q1).nd (i := 0) (by simp)
      simp only [Nat.zero_mul, Addr.add_zero'] at y0 y1 y2 y3
      have ht0 : t0 = t := Ht.out.symm
      subst ht0
      have hL1 : L = 1 := HLL.out.symm
      subst hL1
      obtain ⟨⟨iv, ie⟩, hiv⟩ : ∃ r, evE look t0 = r := ⟨_, rfl⟩
      have hRR : R = if ie ≠ 0 then (0, ie) else if 0 ≤ iv ∧ iv < l.length then (l.getD iv.toNat 0, 0) else (0, 12) := by rw [← HRR.out, varE, HSO.out]; simp [hiv]
      have HVC := Lib.hid (show ∀ (v : Value) (W : World), NV W Any t0 v → Rd W → Calls Try.prog 65 #[v, .func (.func f) #[rv] #[]] W (NumE (iv, ie) W) from hiv ▸ hval)
      have HN0 := Lib.hid hn0
      have HR2 := Lib.hid hRR
      clear hval hn0 Ht hiv hRR
      go_wp2_with fail
      refine (HVC.out _ _ HN0.out (HL.out.later _ _ HRd.out q1)).mono ?_
      rintro e w2 ⟨rfl, bw2⟩
      have q2 := bl_tt q1 bw2
      have HRI2 := Lib.hid (HRI.out.later bw2)
      have hRR := HR2.out
      clear bw2 a0 a1 a2 a3 y0 y1 y2 y3 HRR HSO HRI HR2
      by_cases he : ie = 0
      · subst he
        rw [if_neg (by simp)] at hRR
        by_cases hb : 0 ≤ iv ∧ iv < l.length
        · rw [if_pos hb] at hRR
          obtain ⟨j, hj⟩ : ∃ j : Nat, iv = j := ⟨iv.toNat, by omega⟩
          subst hj
          have hjl : j < l.length := by omega
          obtain ⟨a', rfl, hc⟩ := HRI2.out.nd hjl
          simp only [Int.toNat_natCast] at hRR
          obtain ⟨x0, hx0⟩ : ∃ x0, l.getD j 0 = x0 := ⟨_, rfl⟩
          rw [hx0] at hc hRR
          have HX := Lib.hid hRR
          clear hx0 HRI2 hRR hb
          go_wp2_with fail
          go_ret2
          exact ⟨by rw [HX.out]; rfl, q2⟩
        · rw [if_neg hb] at hRR
          have HX := Lib.hid hRR
          clear hRR HRI2
          by_cases h0 : 0 ≤ iv
          · have h1 : (l.length : Int) ≤ iv := by omega
            have h2 : ¬ iv < 0 := by omega
            clear hb
            go_wp2_with fail
            go_ret2
            exact ⟨by rw [HX.out]; rfl, q2⟩
          · have h1 : iv < 0 := by omega
            clear hb
            go_wp2_with fail
            go_ret2
            exact ⟨by rw [HX.out]; rfl, q2⟩
      · rw [if_pos he] at hRR
        have HX := Lib.hid hRR
        have e1 : (ie == 0) = false := by simpa using he
        have e2 : (ie != 0) = true := by simpa using he
        clear hRR HRI2 he
        go_wp2_with fail
        go_ret2
        exact ⟨by rw [HX.out]; rfl, q2⟩

/-- An expression's shape. -/
theorem isE_shape2 {k n : Int} {s : ByteArray} {ks : List T} (h : isE (.nd k n s ks) = true) :
    (k = 1 ∧ ks = []) ∨ ((k = 2 ∨ k = 4 ∨ k = 5) ∧ ks = []) ∨ (k = 3 ∧ ∃ t, ks = [t] ∧ isE t = true) ∨ ((k = 6 ∨ k = 7) ∧ ∃ t, ks = [t] ∧ isE t = true) ∨ ((8 ≤ k ∧ k ≤ 23) ∧ ∃ t u, ks = [t, u] ∧ isE t = true ∧ isE u = true) := by
  have l0 : decide (ks.length = 0) = true → ks = [] := fun h => by simpa using h
  have l1 : (decide (ks.length = 1) && isEs ks) = true → ∃ t, ks = [t] ∧ isE t = true := fun h => by
    match ks with
    | [t] => simp [isEs] at h; exact ⟨t, rfl, h⟩
    | [] => simp at h
    | a :: b :: l => simp at h
  have l2 : (decide (ks.length = 2) && isEs ks) = true → ∃ t u, ks = [t, u] ∧ isE t = true ∧ isE u = true := fun h => by
    match ks with
    | [t, u] => simp [isEs] at h; exact ⟨t, u, rfl, h⟩
    | [] => simp at h
    | [a] => simp at h
    | a :: b :: c :: l => simp at h
  rw [isE] at h
  split at h
  · rename_i h1; simp only [Bool.and_eq_true] at h; exact .inl ⟨h1, l0 h.2⟩
  · split at h
    · rename_i h1; simp only [Bool.and_eq_true] at h; exact .inr (.inl ⟨h1, l0 h.2⟩)
    · split at h
      · rename_i h1; rw [Bool.and_eq_true] at h; exact .inr (.inr (.inl ⟨h1, l1 h.2⟩))
      · split at h
        · rename_i h1; rw [Bool.and_eq_true] at h; exact .inr (.inr (.inr (.inl ⟨h1, l1 h.2⟩)))
        · split at h
          · rename_i h1; rw [Bool.and_eq_true] at h; exact .inr (.inr (.inr (.inr ⟨h1, l2 h.2⟩)))
          · cases h

set_option maxHeartbeats 4000000 in
set_option maxRecDepth 100000 in
theorem evalue_any {f : FuncId} {fn : Func} {rv : Value} {Rd : World → Prop} {look : ByteArray → Option (List Int)} (hL : LookC f fn rv Rd look) (t : T) : isE t = true → ValC f rv Rd look t := by
  refine T.ind (p := fun t => isE t = true → ValC f rv Rd look t) ?_ t
  intro k n s ks ih hE v w hv hR
  have HV := Lib.hid hv
  have HL := Lib.hid hL
  have HRd := Lib.hid hR
  obtain ⟨A, c, rfl, hf, hlk, hlc, hrow⟩ := hv.open_
  simp only [T.k_nd, T.n_nd, T.s_nd, T.ks_nd] at *
  have HROW := Lib.hid hrow
  obtain ⟨R, hRR⟩ : ∃ R, evE look (.nd k n s ks) = R := ⟨_, rfl⟩
  rw [hRR]
  rw [evE, evEs_map] at hRR
  rcases isE_shape2 hE with ⟨rfl, rfl⟩ | ⟨hk, rfl⟩ | ⟨rfl, t, rfl, ht⟩ | ⟨hk, t, rfl, ht⟩ | ⟨hk, t, u, rfl, ht, hu⟩
  · have HX := Lib.hid (show R = (n, 0) by rw [← hRR, evK]; rfl)
    clear hv hrow ih hE hR hL hRR hf hlk hlc
    go_enter Try.func65, Try.ntmps65
    go_wp2_with fail
    go_ret2
    exact ⟨by rw [HX.out]; rfl, bl_al (Below.refl _ _) _⟩
  · have HX := Lib.hid (show varE look k s (([].map (evE look)).getD 0 (0, 0)) = R by rw [← hRR, evK, if_neg (by omega), if_pos (by omega)])
    have HC := Lib.hid (fun w' (h : Below w.heap.size w w') => variable_any hL k n s [] _ w' (hv.later h) (hL.later _ _ hR h) (by omega) (fun h => by omega))
    clear hv hrow ih hE hR hL hRR hf hlk hlc
    rcases hk with rfl | rfl | rfl
    all_goals
      go_enter Try.func65, Try.ntmps65
      go_wp2_with fail
      refine (HC.out _ (bl_al (Below.refl _ _) _)).mono ?_
      rintro e w1 ⟨rfl, bw1⟩
      rw [HX.out]
      have q1 := bl_tt (bl_al (Below.refl _ _) _) bw1
      clear bw1
      go_wp2_with fail
      go_ret2
      exact ⟨rfl, q1⟩
  · have HX := Lib.hid (show varE look 3 s (([t].map (evE look)).getD 0 (0, 0)) = R by rw [← hRR, evK, if_neg (by omega), if_pos (by omega)])
    have HC := Lib.hid (fun w' (h : Below w.heap.size w w') => variable_any hL 3 n s [t] _ w' (hv.later h) (hL.later _ _ hR h) (by omega) (fun _ => ⟨t, rfl, ih t List.mem_cons_self ht⟩))
    clear hv hrow ih hE hR hL hRR hf hlk hlc
    simp only [List.length_cons, List.length_nil, Nat.zero_add] at *
    go_enter Try.func65, Try.ntmps65
    go_wp2_with fail
    refine (HC.out _ (bl_al (Below.refl _ _) _)).mono ?_
    rintro e w1 ⟨rfl, bw1⟩
    rw [HX.out]
    have q1 := bl_tt (bl_al (Below.refl _ _) _) bw1
    clear bw1
    go_wp2_with fail
    go_ret2
    exact ⟨rfl, q1⟩
  · obtain ⟨⟨iv, ie⟩, hiv⟩ : ∃ r, evE look t = r := ⟨_, rfl⟩
    obtain ⟨⟨uv, ue⟩, hu⟩ : ∃ r, unE k iv = r := ⟨_, rfl⟩
    have HX := Lib.hid (show R = if ie ≠ 0 then (0, ie) else (uv, ue) by rw [← hRR, ← hu, evK, if_neg (by omega), if_neg (by omega)]; simp [hiv])
    have HVC := Lib.hid (show ∀ (v : Value) (W : World), NV W Any t v → Rd W → Calls Try.prog 65 #[v, .func (.func f) #[rv] #[]] W (NumE (iv, ie) W) from hiv ▸ ih t List.mem_cons_self ht)
    obtain ⟨a, t0, A2, c2, rfl, _, Ht, ⟨y0, y1, y2, y3⟩, hn0⟩ := (hrow.later (bl_al (Below.refl _ _) (.cells #[.int .u8 k, .int .i64 n, .string s, .slice A [t].length c] 36))).nd (i := 0) (by simp)
    simp only [Nat.zero_mul, Addr.add_zero', List.length_cons, List.length_nil, Nat.zero_add] at *
    have ht0 : t0 = t := Ht.out.symm
    subst ht0
    have HN0 := Lib.hid hn0
    have hbx := box4 (heap_alloc_new w (.cells #[.int .u8 k, .int .i64 n, .string s, .slice (some a) 1 c] 36))
    obtain ⟨W0, hW0⟩ : ∃ W0, w.alloc (.cells #[.int .u8 k, .int .i64 n, .string s, .slice (some a) 1 c] 36) = W0 := ⟨_, rfl⟩
    have q0 : Below w.heap.size w W0 := hW0 ▸ bl_al (Below.refl _ _) _
    rw [hW0] at y0 y1 y2 y3 HN0 hbx
    have HRd0 := Lib.hid (hL.later _ _ hR q0)
    have HUN := Lib.hid (show ∀ w, Calls Try.prog 73 #[.int .u8 k, .int .i64 iv] w fun e w' => e = .returned (.tuple #[.int .i64 uv, .int .i64 ue]) ∧ w' = w from fun w => by have := Unary_any k iv hk w; rwa [hu] at this)
    have HBX := Lib.hid hbx
    obtain ⟨x0, x1, x2, x3⟩ := hbx
    clear hv hrow ih hE hR hL hRR hf hlk hlc hn0 Ht hiv hu
    rcases hk with rfl | rfl
    all_goals
      go_enter Try.func65, Try.ntmps65
      go_wp2_with fail
      refine (HVC.out _ _ HN0.out HRd0.out).mono ?_
      rintro e w1 ⟨rfl, bw1⟩
      have q1 := bl_tt q0 bw1
      have hx0 := cell_bl bw1 x0
      have hx3 := cell_bl bw1 x3
      clear bw1 y0 y1 y2 y3 x0 x1 x2 x3
      have hX := HX.out
      by_cases he : ie = 0
      · subst he
        rw [if_neg (by simp)] at hX
        have HX2 := Lib.hid hX
        clear hX HX
        go_wp2_with fail
        refine (HUN.out _).mono ?_
        rintro e w2 ⟨rfl, rfl⟩
        go_wp2_with fail
        go_ret2
        exact ⟨by rw [HX2.out]; rfl, q1⟩
      · rw [if_pos he] at hX
        have HX2 := Lib.hid hX
        have e1 : (ie == 0) = false := by simpa using he
        have e2 : (ie != 0) = true := by simpa using he
        clear hX HX he
        go_wp2_with fail
        go_ret2
        exact ⟨by rw [HX2.out]; rfl, q1⟩
  · obtain ⟨⟨iv, ie⟩, hiv⟩ : ∃ r, evE look t = r := ⟨_, rfl⟩
    obtain ⟨⟨jv, je⟩, hjv⟩ : ∃ r, evE look u = r := ⟨_, rfl⟩
    obtain ⟨⟨uv, ue⟩, hu'⟩ : ∃ r, apE k iv jv = r := ⟨_, rfl⟩
    have HX := Lib.hid (show R = if ie ≠ 0 then (0, ie) else if je ≠ 0 then (0, je) else (uv, ue) by rw [← hRR, ← hu', evK, if_neg (by omega), if_neg (by omega)]; simp [hiv, hjv])
    have HVC := Lib.hid (show ∀ (v : Value) (W : World), NV W Any t v → Rd W → Calls Try.prog 65 #[v, .func (.func f) #[rv] #[]] W (NumE (iv, ie) W) from hiv ▸ ih t (by simp) ht)
    have HVD := Lib.hid (show ∀ (v : Value) (W : World), NV W Any u v → Rd W → Calls Try.prog 65 #[v, .func (.func f) #[rv] #[]] W (NumE (jv, je) W) from hjv ▸ ih u (by simp) hu)
    have HUN := Lib.hid (show ∀ w, Calls Try.prog 74 #[.int .u8 k, .int .i64 iv, .int .i64 jv] w fun e w' => e = .returned (.tuple #[.int .i64 uv, .int .i64 ue]) ∧ w' = w from fun w => by have := Apply_any k iv jv hk w; rwa [hu'] at this)
    have hrow' := hrow.later (bl_al (Below.refl _ _) (.cells #[.int .u8 k, .int .i64 n, .string s, .slice A [t, u].length c] 36))
    obtain ⟨a, t0, A2, c2, rfl, _, Ht, h4, hn0⟩ := hrow'.nd (i := 0) (by simp)
    obtain ⟨a', t1, A3, c3, ea, _, Hu, h5, hn1⟩ := hrow'.nd (i := 1) (by simp)
    injection ea with ea
    subst ea
    have ha : a.add (1 * 4) = ⟨a.block, a.off + 4, none⟩ := by unfold Addr.add; split <;> simp_all
    rw [ha] at h5
    simp only [Nat.zero_mul, Addr.add_zero', List.length_cons, List.length_nil, Nat.zero_add] at *
    have ht0 : t0 = t := Ht.out.symm
    have hu0 : t1 = u := Hu.out.symm
    subst ht0 hu0
    have hbx := box4 (heap_alloc_new w (.cells #[.int .u8 k, .int .i64 n, .string s, .slice (some a) 2 c] 36))
    obtain ⟨W0, hW0⟩ : ∃ W0, w.alloc (.cells #[.int .u8 k, .int .i64 n, .string s, .slice (some a) 2 c] 36) = W0 := ⟨_, rfl⟩
    have q0 : Below w.heap.size w W0 := hW0 ▸ bl_al (Below.refl _ _) _
    rw [hW0] at h4 h5 hn0 hn1 hbx
    have HN0 := Lib.hid hn0
    have HN1 := Lib.hid hn1
    have HRd0 := Lib.hid (hL.later _ _ hR q0)
    have HALL := Lib.hid (show ∀ w', Below W0.heap.size W0 w' → (Nd4 w' a t0 A2 c2 ∧ Nd4 w' ⟨a.block, a.off + 4, none⟩ t1 A3 c3) ∧ w'.cell? ⟨w.heap.size, 0, none⟩ = some (.int .u8 k) ∧ w'.cell? ⟨w.heap.size, 3, none⟩ = some (.slice (some a) 2 c) from fun w' h => ⟨⟨Nd4_bl h h4, Nd4_bl h h5⟩, cell_bl h hbx.1, cell_bl h hbx.2.2.2⟩)
    have z1 : (k == 1) = false := by simp; omega
    have z2 : (k == 2) = false := by simp; omega
    have z3 : (k == 3) = false := by simp; omega
    have z4 : (k == 4) = false := by simp; omega
    have z5 : (k == 5) = false := by simp; omega
    obtain ⟨⟨⟨y0, y1, y2, y3⟩, ⟨v0, v1, v2, v3⟩⟩, x0, x3⟩ := HALL.out _ (Below.refl _ _)
    clear hv hrow hrow' ih hE hR hL hRR hf hlk hlc hn0 hn1 Ht Hu hiv hjv hu' h4 h5 hbx ha hk
    go_enter Try.func65, Try.ntmps65
    go_wp2_with fail
    refine (HVC.out _ _ HN0.out HRd0.out).mono ?_
    rintro e w1 ⟨rfl, bw1⟩
    have r1 := bw1
    obtain ⟨⟨⟨y0, y1, y2, y3⟩, ⟨v0, v1, v2, v3⟩⟩, x0, x3⟩ := HALL.out _ r1
    have HN2 := Lib.hid (HN1.out.later r1)
    have HRd2 := Lib.hid (HL.out.later _ _ HRd0.out r1)
    clear bw1
    have hX := HX.out
    by_cases he : ie = 0
    · subst he
      rw [if_neg (by simp)] at hX
      have HX2 := Lib.hid hX
      clear hX HX
      go_wp2_with fail
      refine (HVD.out _ _ HN2.out HRd2.out).mono ?_
      rintro e w2 ⟨rfl, bw2⟩
      have r2 := bl_tt r1 bw2
      obtain ⟨⟨⟨y0, y1, y2, y3⟩, ⟨v0, v1, v2, v3⟩⟩, x0, x3⟩ := HALL.out _ r2
      clear bw2
      have hX := HX2.out
      by_cases hj : je = 0
      · subst hj
        rw [if_neg (by simp)] at hX
        have HX3 := Lib.hid hX
        clear hX HX2
        go_wp2_with fail
        refine (HUN.out _).mono ?_
        rintro e w3 ⟨rfl, rfl⟩
        go_wp2_with fail
        go_ret2
        exact ⟨by rw [HX3.out]; rfl, bl_tt q0 r2⟩
      · rw [if_pos hj] at hX
        have HX3 := Lib.hid hX
        have e1 : (je == 0) = false := by simpa using hj
        have e2 : (je != 0) = true := by simpa using hj
        clear hX HX2 hj
        go_wp2_with fail
        go_ret2
        exact ⟨by rw [HX3.out]; rfl, bl_tt q0 r2⟩
    · rw [if_pos he] at hX
      have HX2 := Lib.hid hX
      have e1 : (ie == 0) = false := by simpa using he
      have e2 : (ie != 0) = true := by simpa using he
      clear hX HX he
      go_wp2_with fail
      go_ret2
      exact ⟨by rw [HX2.out]; rfl, bl_tt q0 r1⟩

theorem eqNilF (f : FuncId) (rv : Value) (w : World) : (binOp BinOp.eql 105 (.func (.func f) #[rv] #[]) .nilFunc).run Try.prog w = .ok (.bool false) w := by kernel_rfl
/-- eval.Expr. -/
def exprE (look : ByteArray → Option (List Int)) (t : T) : Int × Int := if isE t = true then evE look t else (0, 3)
/-- eval.Index. -/
def indE (look : ByteArray → Option (List Int)) (t : T) : Int × Int := if isP t = true then (if t.k = 2 then (0, 0) else evE look (t.ks.getD 0 (.nd 0 0 ⟨#[]⟩ []))) else (0, 3)

set_option maxHeartbeats 4000000 in
set_option maxRecDepth 100000 in
theorem Expr_any {f : FuncId} {fn : Func} {rv : Value} {Rd : World → Prop} {look : ByteArray → Option (List Int)} (hL : LookC f fn rv Rd look) (t : T) (v : Value) (w : World) (hv : NV w Any t v) (hR : Rd w) :
    Calls Try.prog 59 #[v, .func (.func f) #[rv] #[]] w (NumE (exprE look t) w) := by
  have HV := Lib.hid hv
  have HL := Lib.hid hL
  have HRd := Lib.hid hR
  obtain ⟨A, c, rfl, -⟩ := hv.open_
  obtain ⟨⟨R1, R2⟩, hRR⟩ : ∃ R, exprE look t = R := ⟨_, rfl⟩
  rw [hRR]
  obtain ⟨b, hb⟩ : ∃ b, isE t = b := ⟨_, rfl⟩
  have HIE := Lib.hid (show ∀ (v : Value) (w : World), NV w Any t v → Calls Try.prog 51 #[v] w fun e w' => e = .returned (.bool b) ∧ Below w.heap.size w w' from fun v w h => hb ▸ IsExpr_any t v w h)
  have HVA := Lib.hid (show b = true → ∀ (v : Value) (W : World), NV W Any t v → Rd W → Calls Try.prog 65 #[v, .func (.func f) #[rv] #[]] W (NumE (R1, R2) W) from fun h => by
    have h1 : exprE look t = evE look t := by rw [exprE, if_pos (hb.trans h)]
    rw [← hRR, h1]
    exact evalue_any hL t (hb.trans h))
  have HNO := Lib.hid (show b = false → R1 = 0 ∧ R2 = 3 from fun h => by
    rw [exprE, hb, h] at hRR
    simp at hRR
    exact ⟨hRR.1.symm, hRR.2.symm⟩)
  clear hv hR hL hRR hb
  generalize t.k = k, t.n = n, t.s = s, t.ks.length = m at *
  have hen := eqNilF
  go_enter Try.func59, Try.ntmps59
  go_wp2_with fail
  refine (HIE.out _ _ (HV.out.later (bl_al (Below.refl _ _) _))).mono ?_
  rintro e w1 ⟨rfl, bw1⟩
  have q1 := bl_tt (bl_al (Below.refl _ _) _) bw1
  obtain ⟨a0, a1, a2, a3⟩ := box4 (blk_bl (heap_alloc_new w (.cells #[.int .u8 k, .int .i64 n, .string s, .slice A m c] 36)) bw1)
  clear bw1
  cases b
  · obtain ⟨rfl, rfl⟩ := HNO.out rfl
    go_wp2_with fail
    go_ret2
    exact ⟨rfl, q1⟩
  · have HVA2 := Lib.hid (HVA.out rfl)
    clear HVA HNO
    go_wp2_with fail
    refine (HVA2.out _ _ (HV.out.later q1) (HL.out.later _ _ HRd.out q1)).mono ?_
    rintro e w2 ⟨rfl, bw2⟩
    have q2 := bl_tt q1 bw2
    clear bw2
    go_wp2_with fail
    go_ret2
    exact ⟨rfl, q2⟩

set_option maxHeartbeats 4000000 in
set_option maxRecDepth 100000 in
theorem Index_any {f : FuncId} {fn : Func} {rv : Value} {Rd : World → Prop} {look : ByteArray → Option (List Int)} (hL : LookC f fn rv Rd look) (t : T) (v : Value) (w : World) (hv : NV w Any t v) (hR : Rd w) :
    Calls Try.prog 58 #[v, .func (.func f) #[rv] #[]] w (NumE (indE look t) w) := by
  have HV := Lib.hid hv
  have HL := Lib.hid hL
  have HRd := Lib.hid hR
  obtain ⟨A, c, rfl, hf, hlk, hlc, hrow⟩ := hv.open_
  obtain ⟨⟨R1, R2⟩, hRR⟩ : ∃ R, indE look t = R := ⟨_, rfl⟩
  rw [hRR]
  obtain ⟨b, hb⟩ : ∃ b, isP t = b := ⟨_, rfl⟩
  have HIE := Lib.hid (show ∀ (v : Value) (w : World), NV w Any t v → Calls Try.prog 50 #[v] w fun e w' => e = .returned (.bool b) ∧ Below w.heap.size w w' from fun v w h => hb ▸ IsPlace_any t v w h)
  have HROW := Lib.hid hrow
  have HK := Lib.hid (show ∀ k n s m, t.k = k → t.n = n → t.s = s → t.ks.length = m → b = true → (k = 2 ∧ R1 = 0 ∧ R2 = 0) ∨ (k = 3 ∧ m = 1 ∧ ∃ u, t.ks = [u] ∧ ∀ (v : Value) (W : World), NV W Any u v → Rd W → Calls Try.prog 65 #[v, .func (.func f) #[rv] #[]] W (NumE (R1, R2) W)) from by
    rintro k n s m rfl rfl rfl rfl h
    have hp := hb.trans h
    rw [indE, if_pos hp] at hRR
    unfold isP at hp
    simp only [Bool.and_eq_true, Bool.or_eq_true, beq_iff_eq] at hp
    rcases hp.1 with h2 | h3
    · rw [if_pos h2] at hRR
      injection hRR with r1 r2
      exact .inl ⟨h2, r1.symm, r2.symm⟩
    · rw [if_neg (by omega)] at hRR
      obtain ⟨k, n, s, ks⟩ := t
      simp only [T.k_nd, T.ks_nd] at *
      subst h3
      rcases isE_shape2 hp.2 with h | h | ⟨_, u, rfl, hu⟩ | h | h
      · omega
      · omega
      · refine .inr ⟨rfl, rfl, u, rfl, ?_⟩
        simp at hRR
        rw [← hRR]
        exact evalue_any hL u hu
      · omega
      · omega)
  have HNO := Lib.hid (show b = false → R1 = 0 ∧ R2 = 3 from fun h => by
    rw [indE, hb, h] at hRR
    simp at hRR
    exact ⟨hRR.1.symm, hRR.2.symm⟩)
  obtain ⟨k, hk⟩ : ∃ k, t.k = k := ⟨_, rfl⟩
  obtain ⟨n, hn⟩ : ∃ n, t.n = n := ⟨_, rfl⟩
  obtain ⟨s, hs⟩ : ∃ s, t.s = s := ⟨_, rfl⟩
  obtain ⟨m, hm⟩ : ∃ m, t.ks.length = m := ⟨_, rfl⟩
  have HKK := Lib.hid (HK.out k n s m hk hn hs hm)
  rw [hk, hn, hs, hm] at HV ⊢
  clear hv hR hL hRR hb hrow hf hlk hlc HK hk hn hs hm
  have hen := eqNilF
  go_enter Try.func58, Try.ntmps58
  go_wp2_with fail
  refine (HIE.out _ _ (HV.out.later (bl_al (Below.refl _ _) _))).mono ?_
  rintro e w1 ⟨rfl, bw1⟩
  have q1 := bl_tt (bl_al (Below.refl _ _) _) bw1
  obtain ⟨a0, a1, a2, a3⟩ := box4 (blk_bl (heap_alloc_new w (.cells #[.int .u8 k, .int .i64 n, .string s, .slice A m c] 36)) bw1)
  clear bw1
  cases b
  · obtain ⟨rfl, rfl⟩ := HNO.out rfl
    clear HKK
    go_wp2_with fail
    go_ret2
    exact ⟨rfl, q1⟩
  · rcases HKK.out rfl with ⟨rfl, rfl, rfl⟩ | ⟨rfl, rfl, u, hu, hvc⟩
    · clear HKK HNO
      go_wp2_with fail
      go_ret2
      exact ⟨rfl, q1⟩
    · have hrow := HROW.out
      rw [hu] at hrow
      obtain ⟨a, t0, A2, c2, rfl, _, Ht, ⟨y0, y1, y2, y3⟩, hn0⟩ := (hrow.later q1).nd (i := 0) (by simp)
      simp only [Nat.zero_mul, Addr.add_zero'] at y0 y1 y2 y3
      have ht0 : t0 = u := Ht.out.symm
      subst ht0
      have HN0 := Lib.hid hn0
      have HVC := Lib.hid hvc
      clear HKK HNO hvc hu hrow hn0 Ht
      go_wp2_with fail
      refine (HVC.out _ _ HN0.out (HL.out.later _ _ HRd.out q1)).mono ?_
      rintro e w2 ⟨rfl, bw2⟩
      have q2 := bl_tt q1 bw2
      clear bw2
      go_wp2_with fail
      go_ret2
      exact ⟨rfl, q2⟩

end Go.Proofs.Ytekjfbnggfbfhaa
