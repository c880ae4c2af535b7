/-
  Texts of the proof, put together without their remarks: Il, Iv, Id, It, Lim, Val, Scp, Ik.
-/
import Derived.Test.YtgnfpcebmefhoaaGreatY7
set_option linter.unusedSimpArgs false
set_option linter.unusedVariables false
namespace Go.Proofs.YtgnfpcebmefhoaaGreat
open Go Go.RowKit
theorem fnValue : IsFn Tryz.prog 135 Tryz.f135 := ⟨Tryz.func135, by kernel_rfl, by kernel_rfl⟩
theorem fnCheckI : IsFn Tryz.prog 105 Tryz.f105 := ⟨Tryz.func105, by kernel_rfl, by kernel_rfl⟩
theorem fnOpenI : IsFn Tryz.prog 106 Tryz.f106 := ⟨Tryz.func106, by kernel_rfl, by kernel_rfl⟩
theorem fnCloseI : IsFn Tryz.prog 107 Tryz.f107 := ⟨Tryz.func107, by kernel_rfl, by kernel_rfl⟩
def loR (prs : List PR) (F : Int) (g : Nat) (back : Bool) (t t2 : T) (r : RS) : Out :=
 (bodyO (execO prs F g back) (blkL back (kid t 1)) r).bind fun r => (stepO F r).bind fun r => valO t2 r fun x r => storeO r (closeE r.S t.s x)
def loO (prs : List PR) (F : Int) (g : Nat) (back : Bool) (t : T) (r : RS) : Out :=
 (stepO F r).bind fun r => valO (fstT back t) r fun x r => (storeO r (openE r.S ⟨t.s, 1, 0⟩ x)).bind (loR prs F g back t (lstT back t))
set_option maxHeartbeats 800000 in
set_option maxRecDepth 100000 in
theorem local_any {G : List PR → T → Prop} {g : Nat} (hS : IStC G g) {C : RC} (hC : C.Ok) {W : World} {r : RS} (h : RI C W r) (t : T) (v : Value) (back : Bool) (hv : NV C.w Any t v) (hk : t.ks.length = 3) (hG1 : ∀ u ∈ (kid t 1).ks, G C.p.prs u)
  (hgas : loO C.p.prs C.F g back t r ≠ .gas) :
  Calls Tryz.prog 103 #[.pointer (some ⟨C.rb, 0, none⟩), v, .bool back] W (RunP C W (loO C.p.prs C.F g back t r)) := by
 obtain ⟨A, c, rfl, -, hlk, hlc, hrow⟩ := hv.open_
 have HROW := Lib.hid hrow
 have HS := Lib.hid hS
 have HV := Lib.hid hv
 have hb0 := bl_al (Below.refl W.heap.size W) (.cells #[.int .u8 t.k, .int .i64 t.n, .string t.s, .slice A t.ks.length c] 26)
 obtain ⟨x0, x1, x2, x3⟩ := box4 (heap_alloc_new W (.cells #[.int .u8 t.k, .int .i64 t.n, .string t.s, .slice A t.ks.length c] 26))
 have HB0 := Lib.hid hb0
 have H := Lib.hid h
 have HC := Lib.hid hC
 have HX := Lib.hid (heap_alloc_new W (.cells #[.int .u8 t.k, .int .i64 t.n, .string t.s, .slice A t.ks.length c] 26))
 have HEN := Lib.hid (fun w' (hb : Below W.heap.size W w') => ends_any t _ back C.w w' (bl_tt h.below hb) hv (by omega))
 have HKL := Lib.hid hk
 clear hrow hS hb0 h hv hk hC hlk
 go_enter Tryz.func103, Tryz.ntmps103
 go_wp2_with fail
 refine (HEN.out _ HB0.out).mono ?_
 rintro e w2 ⟨v1, v2, rfl, n1, n2, b2⟩
 obtain ⟨t1, ht1⟩ : ∃ x, fstT back t = x := ⟨_, rfl⟩
 obtain ⟨t2, ht2⟩ : ∃ x, lstT back t = x := ⟨_, rfl⟩
 have HT1 := Lib.hid ht1
 have HT2 := Lib.hid ht2
 rw [ht1] at n1
 rw [ht2] at n2
 obtain ⟨A1, c1, rfl, -⟩ := n1.open_
 obtain ⟨A2, c2, rfl, -⟩ := n2.open_
 have HN1 := Lib.hid n1
 have HN2 := Lib.hid n2
 have b3 := bl_al (bl_al (bl_tt HB0.out b2) (.cells #[.int .u8 t1.k, .int .i64 t1.n, .string t1.s, .slice A1 t1.ks.length c1] 26)) (.cells #[.int .u8 t2.k, .int .i64 t2.n, .string t2.s, .slice A2 t2.ks.length c2] 26)
 have k0 := blk_al (blk_al (blk_bl HX.out b2) (.cells #[.int .u8 t1.k, .int .i64 t1.n, .string t1.s, .slice A1 t1.ks.length c1] 26)) (.cells #[.int .u8 t2.k, .int .i64 t2.n, .string t2.s, .slice A2 t2.ks.length c2] 26)
 have k1 := blk_al (heap_alloc_new w2 (.cells #[.int .u8 t1.k, .int .i64 t1.n, .string t1.s, .slice A1 t1.ks.length c1] 26)) (.cells #[.int .u8 t2.k, .int .i64 t2.n, .string t2.s, .slice A2 t2.ks.length c2] 26)
 have k2 := heap_alloc_new (w2.alloc (.cells #[.int .u8 t1.k, .int .i64 t1.n, .string t1.s, .slice A1 t1.ks.length c1] 26)) (.cells #[.int .u8 t2.k, .int .i64 t2.n, .string t2.s, .slice A2 t2.ks.length c2] 26)
 simp only [World.size_alloc] at k2
 obtain ⟨w3, hw3⟩ : ∃ x, (w2.alloc (.cells #[.int .u8 t1.k, .int .i64 t1.n, .string t1.s, .slice A1 t1.ks.length c1] 26)).alloc (.cells #[.int .u8 t2.k, .int .i64 t2.n, .string t2.s, .slice A2 t2.ks.length c2] 26) = x := ⟨_, rfl⟩
 rw [hw3] at b3 k0 k1 k2
 have hz2 := bl_tt HB0.out b2
 have hzz := hz2.size
 obtain ⟨hC3, h3⟩ := H.out.plus HC.out b3
 have HP3 := Lib.hid (Kpt.of_below (n0 := C.n0) (kb := C.kb) b3)
 have l0 := blk_lt k0
 have l1 := blk_lt k1
 have l2 := blk_lt k2
 obtain ⟨hi, hhi⟩ : ∃ x, w3.heap.size = x := ⟨_, rfl⟩
 rw [hhi] at hC3 h3 l0 l1 l2
 have HC3 := Lib.hid hC3
 have H3 := Lib.hid h3
 have K0 := Lib.hid k0
 have K1 := Lib.hid k1
 have K2 := Lib.hid k2
 have HHO := Lib.hid (step_any hC3 h3)
 obtain ⟨p1, ⟨y0, y1, y2, y3⟩⟩ : True ∧ (w3.cell? ⟨w2.heap.size, 0, none⟩ = some (.int .u8 t1.k) ∧ w3.cell? ⟨w2.heap.size, 1, none⟩ = some (.int .i64 t1.n) ∧ w3.cell? ⟨w2.heap.size, 2, none⟩ = some (.string t1.s) ∧ w3.cell? ⟨w2.heap.size, 3, none⟩ = some (.slice A1 t1.ks.length c1)) := ⟨trivial, cell_of_blk k1 rfl, cell_of_blk k1 rfl, cell_of_blk k1 rfl, cell_of_blk k1 rfl⟩
 clear n1 n2 b2 b3 k0 k1 k2 hz2 hC3 h3 x0 x1 x2 x3 HX HB0 HEN p1 ht1 ht2
 go_upto_region 2 with fail
 clear hw3
 obtain ⟨o, ho⟩ : ∃ o, loO C.p.prs C.F g back t r = o := ⟨_, rfl⟩
 have HO := Lib.hid (show (stepO C.F r).bind (fun r => valO t1 r fun x r => (storeO r (openE r.S ⟨t.s, 1, 0⟩ x)).bind (loR C.p.prs C.F g back t t2)) = o by rw [← ho]; unfold loO loR; rw [HT1.out, HT2.out])
 rw [ho] at hgas ⊢
 have HGA := Lib.hid hgas
 have HLP := Lib.hid ho
 clear hgas ho
 go_wp2_with fail
 refine HHO.out.mono ?_
 rintro e w4 ⟨hk4, hb4, ho4⟩
 have HK4 := Lib.hid (HP3.out.trans (Kpt.less (C := C) hk4))
 have HB4 := Lib.hid (show Below C.w.heap.size C.w w4 from hb4)
 have ho4' : match stepO C.F r with
  | .gas => True
  | .err x => e = failE x
  | .ok r => (∃ u, e = .returned u) ∧ RI (C.plus W.heap.size hi) w4 r := ho4
 have HK34 := Lib.hid hk4
 clear y0 y1 y2 y3 HHO hk4 hb4 ho4
 cases hy : stepO C.F r with
 | gas => exact absurd (by rw [← HO.out, hy]; rfl) HGA.out
 | err x =>
  rw [hy] at ho4'
  subst ho4'
  refine ⟨rfl, HK4.out, HB4.out, ?_⟩
  rw [← HO.out, hy]
  rfl
 | ok r1 =>
  rw [hy] at ho4'
  obtain ⟨⟨u3, rfl⟩, hr1⟩ := ho4'
  have HR4 := Lib.hid hr1
  have HO4 := Lib.hid (show (valO t1 r1 fun x r => (storeO r (openE r.S ⟨t.s, 1, 0⟩ x)).bind (loR C.p.prs C.F g back t t2)) = o by rw [← HO.out, hy]; rfl)
  have HFB := Lib.hid (show FB r.n r1.S ∧ r1.n = r.n + 1 by obtain ⟨rfl, -⟩ := stepO_ok hy; exact ⟨H.out.fb, rfl⟩)
  have j0 := HK34.out.blk (.inr (.inr ⟨by omega, l0⟩)) K0.out
  have j1 := HK34.out.blk (.inr (.inr ⟨by omega, l1⟩)) K1.out
  have HVA := Lib.hid (fun w' (hb : Below w4.heap.size w4 w') => value_any (hr1.later hb) t1 _ HN1.out)
  have HSS := Lib.hid (show ∀ w', Below w4.heap.size w4 w' → (fun w' : World => w'.cell? ⟨C.rb, 6, none⟩ = some (.pointer (some ⟨C.sb, 0, none⟩)) ∧ w'.cell? ⟨W.heap.size, 2, none⟩ = some (.string t.s) ∧ w'.cell? ⟨w2.heap.size, 0, none⟩ = some (.int .u8 t1.k) ∧ w'.cell? ⟨w2.heap.size, 1, none⟩ = some (.int .i64 t1.n) ∧ w'.cell? ⟨w2.heap.size, 2, none⟩ = some (.string t1.s) ∧ w'.cell? ⟨w2.heap.size, 3, none⟩ = some (.slice A1 t1.ks.length c1)) w' from fun w' hb => ⟨cell_bl hb hr1.cells.1, cell_bl hb (cell_of_blk j0 rfl), cell_bl hb (cell_of_blk j1 rfl), cell_bl hb (cell_of_blk j1 rfl), cell_bl hb (cell_of_blk j1 rfl), cell_bl hb (cell_of_blk j1 rfl)⟩)
  have HQ0 := Lib.hid (HSS.out _ (Below.refl _ _).drew)
  clear hr1 hy j0 j1
  go_upto_region 3 with fail
  have hSS : (fun w' : World => w'.cell? ⟨C.rb, 6, none⟩ = some (.pointer (some ⟨C.sb, 0, none⟩)) ∧ w'.cell? ⟨W.heap.size, 2, none⟩ = some (.string t.s) ∧ w'.cell? ⟨w2.heap.size, 0, none⟩ = some (.int .u8 t1.k) ∧ w'.cell? ⟨w2.heap.size, 1, none⟩ = some (.int .i64 t1.n) ∧ w'.cell? ⟨w2.heap.size, 2, none⟩ = some (.string t1.s) ∧ w'.cell? ⟨w2.heap.size, 3, none⟩ = some (.slice A1 t1.ks.length c1)) w4.drew ∧ (fun _ : World => True) w4.drew := ⟨HQ0.out, trivial⟩
  refine wp_region_G (fun w' : World => w'.cell? ⟨C.rb, 6, none⟩ = some (.pointer (some ⟨C.sb, 0, none⟩)) ∧ w'.cell? ⟨W.heap.size, 2, none⟩ = some (.string t.s) ∧ w'.cell? ⟨w2.heap.size, 0, none⟩ = some (.int .u8 t1.k) ∧ w'.cell? ⟨w2.heap.size, 1, none⟩ = some (.int .i64 t1.n) ∧ w'.cell? ⟨w2.heap.size, 2, none⟩ = some (.string t1.s) ∧ w'.cell? ⟨w2.heap.size, 3, none⟩ = some (.slice A1 t1.ks.length c1)) (fun _ : World => True) 12 (by kernel_rfl) ?_
  refine wpG_take1 (i := 0) (v := ?_) rfl (by kernel_rfl) (by kernel_rfl) (by kernel_rfl) (by decide) (fun _ _ _ h => h) (Or.inl ⟨by rfl, ?_⟩) hSS ?_
  rotate_left 1
  ·(intro w hSw; (try dsimp only at hSw); (try simp only [zA, zC]); go_simp; (try with_reducible rfl))
  (try simp only [Act.put, zA, zC, zD, zE, zF])
  refine wpG_take1 (i := 1) (v := ?_) rfl (by kernel_rfl) (by kernel_rfl) (by kernel_rfl) (by decide) (fun _ _ _ h => h) (Or.inl ⟨by rfl, ?_⟩) hSS ?_
  rotate_left 1
  ·(intro w hSw; (try dsimp only at hSw); (try simp only [zA, zB, zC]); go_simp; (try with_reducible rfl))
  (try simp only [Act.put, zA, zB, zC, zD, zE, zF])
  refine wpG_take1 (i := 2) (v := ?_) rfl (by kernel_rfl) (by kernel_rfl) (by kernel_rfl) (by decide) (fun _ _ _ h => h) (Or.inl ⟨by rfl, ?_⟩) hSS ?_
  rotate_left 1
  ·(intro w hSw; (try dsimp only at hSw); (try simp only [zA, zB, zC]); go_simp; (try with_reducible rfl))
  (try simp only [Act.put, zA, zB, zC, zD, zE, zF])
  refine wpG_take1 (i := 3) (v := ?_) rfl (by kernel_rfl) (by kernel_rfl) (by kernel_rfl) (by decide) (fun _ _ _ h => h) (Or.inl ⟨by rfl, ?_⟩) hSS ?_
  rotate_left 1
  ·(intro w hSw; (try dsimp only at hSw); (try simp only [zA, zB, zC]); go_simp; (try with_reducible rfl))
  (try simp only [Act.put, zA, zB, zC, zD, zE, zF])
  refine wpG_take1 (i := 4) (v := ?_) rfl (by kernel_rfl) (by kernel_rfl) (by kernel_rfl) (by decide) (fun _ _ _ h => h) (Or.inl ⟨by rfl, ?_⟩) hSS ?_
  rotate_left 1
  ·(intro w hSw; (try dsimp only at hSw); (try simp only [zA, zB, zC]); go_simp; (try with_reducible rfl))
  (try simp only [Act.put, zA, zB, zC, zD, zE, zF])
  refine wpG_take1 (i := 5) (v := ?_) rfl (by kernel_rfl) (by kernel_rfl) (by kernel_rfl) (by decide) (fun _ _ _ h => h) (Or.inl ⟨by rfl, ?_⟩) hSS ?_
  rotate_left 1
  ·(intro w hSw; (try dsimp only at hSw); (try simp only [zA, zB, zC]); go_simp; (try with_reducible rfl))
  (try simp only [Act.put, zA, zB, zC, zD, zE, zF])
  refine wpG_take1 (i := 6) (v := ?_) rfl (by kernel_rfl) (by kernel_rfl) (by kernel_rfl) (by decide) (fun _ _ _ h => h) (Or.inl ⟨by rfl, ?_⟩) hSS ?_
  rotate_left 1
  ·(intro w hSw; (try dsimp only at hSw); (try simp only [zA, zB, zC]); go_simp; (try with_reducible rfl))
  (try simp only [Act.put, zA, zB, zC, zD, zE, zF])
  refine wpG_take1 (i := 7) (v := ?_) rfl (by kernel_rfl) (by kernel_rfl) (by kernel_rfl) (by decide) (fun _ _ _ h => h) (Or.inl ⟨by rfl, ?_⟩) hSS ?_
  rotate_left 1
  ·(intro w hSw; (try dsimp only at hSw); (try simp only [zA, zB, zC]); go_simp; (try with_reducible rfl))
  (try simp only [Act.put, zA, zB, zC, zD, zE, zF])
  refine wpG_take1 (i := 8) (v := ?_) rfl (by kernel_rfl) (by kernel_rfl) (by kernel_rfl) (by decide) (fun _ _ _ h => h) (Or.inl ⟨by rfl, ?_⟩) hSS ?_
  rotate_left 1
  ·(intro w hSw; (try dsimp only at hSw); (try simp only [zA, zB, zC]); go_simp; (try with_reducible rfl))
  (try simp only [Act.put, zA, zB, zC, zD, zE, zF])
  refine wpG_take1 (i := 9) (v := ?_) rfl (by kernel_rfl) (by kernel_rfl) (by kernel_rfl) (by decide) (fun _ _ _ h => h) (Or.inl ⟨by rfl, ?_⟩) hSS ?_
  rotate_left 1
  ·(intro w hSw; (try dsimp only at hSw); (try simp only [zA, zB, zC]); go_simp; (try with_reducible rfl))
  (try simp only [Act.put, zA, zB, zC, zD, zE, zF])
  have had : Calls Tryz.prog 135 [.pointer (some ⟨C.rb, 0, none⟩), nv t1.k t1.n t1.s A1 t1.ks.length c1].toArray w4.drew (ValP (C.plus W.heap.size hi) w4.drew t1 r1) := HVA.out _ (Below.refl _ _).drew
  refine wpG_one (i := 10) (by kernel_rfl) rfl (fun K hK => ?_)
  refine step_callP (by rfl) (.func 135) [.tmp 24, .tmp 25] _ (by rfl) 135 _ fnValue (by rfl) _ (by rfl) (fun v w' => Below w4.heap.size w4 w' ∧ ∃ x, v = .int .i64 x ∧ I64 x ∧ ∀ f, valO t1 r1 f = f x r1) (had.mono ?_) ?_
  ·rintro e y1 ⟨by1, hv1⟩
   have b1 := bl_tt (Below.refl w4.heap.size w4).drew by1
   rcases hv1 with ⟨x, rfl, hx⟩ | ⟨x, rfl, hxx, hx⟩
   ·refine .inr ⟨_, rfl, ?_⟩
    refine ⟨rfl, HK4.out.trans (Kpt.of_below b1), bl_tt HB4.out b1, ?_⟩
    try rw [HLP.out]
    rw [← HO4.out, hx]
   ·exact .inl ⟨_, rfl, b1, x, rfl, hxx, hx⟩
  rintro v5 w5 ⟨b5, x, rfl, hx, hvx⟩
  have HB5 := Lib.hid b5
  have HX5 := Lib.hid hx
  have HO5 := Lib.hid (show (storeO r1 (openE r1.S ⟨t.s, 1, 0⟩ x)).bind (loR C.p.prs C.F g back t t2) = o by rw [← HO4.out, hvx])
  refine hK.out _ _ ⟨HSS.out _ b5, trivial⟩ ?_
  clear hK K had b5 hx hvx hSS HVA
  (try simp only [Act.put, zA, zB, zC, zD, zE, zF])
  obtain ⟨R, hR⟩ : ∃ R, openE r1.S ⟨t.s, 1, 0⟩ x = R := ⟨_, rfl⟩
  have HRR := Lib.hid hR
  have hcur := HFB.out.1.cur
  have hn6 := H.out.n
  have had : Calls Tryz.prog 106 [.pointer (some ⟨C.sb, 0, none⟩), .agg #[.string t.s, .int .u8 1, .int .i64 0], .int .i64 x].toArray w5 fun e w' => ∃ v, e = .returned v ∧ (v = .int .i64 R.1 ∧ RI (C.plus W.heap.size hi) w' { r1 with S := R.2 } ∧ Kpt C.n0 (C.plus W.heap.size hi).kb w5 w') :=
   ((HR4.out.later HB5.out).ks.open_ ⟨t.s, 1, 0⟩ (by obtain ⟨_, _, _, hf, -⟩ := HV.out.open_; exact ⟨hf.2.2, ⟨by simp only; omega, by simp only; omega⟩, ⟨by simp only; omega, by simp only; omega⟩⟩) x HX5.out (by omega)).mono fun e w' ⟨h1, h2, h3⟩ => ⟨_, h1, by rw [hR], (RI.store (C := C.plus W.heap.size hi) (HR4.out.later HB5.out) (hR ▸ h2) h3 (by rw [HFB.out.2, ← hR]; exact HFB.out.1.open_ _ _))⟩
  refine wpG_one (i := 11) (by kernel_rfl) rfl (fun K hK => ?_)
  refine step_callG (by rfl) (.func 106) [.tmp 20, .tmp 23, .tmp 26] _ (by rfl) 106 _ fnOpenI (by rfl) _ (by rfl) _ had ?_
  rintro v6 w6 ⟨rfl, hr6, hk6⟩
  have HK36 := Lib.hid (HK34.out.trans ((Kpt.of_below HB5.out).trans hk6))
  have j0 := HK36.out.blk (.inr (.inr ⟨by omega, l0⟩)) K0.out
  have j1 := HK36.out.blk (.inr (.inr ⟨by omega, l1⟩)) K1.out
  have HR6 := Lib.hid hr6
  have hSS6 : (fun w' : World => w'.cell? ⟨C.rb, 6, none⟩ = some (.pointer (some ⟨C.sb, 0, none⟩)) ∧ w'.cell? ⟨W.heap.size, 2, none⟩ = some (.string t.s) ∧ w'.cell? ⟨w2.heap.size, 0, none⟩ = some (.int .u8 t1.k) ∧ w'.cell? ⟨w2.heap.size, 1, none⟩ = some (.int .i64 t1.n) ∧ w'.cell? ⟨w2.heap.size, 2, none⟩ = some (.string t1.s) ∧ w'.cell? ⟨w2.heap.size, 3, none⟩ = some (.slice A1 t1.ks.length c1)) w6 := ⟨hr6.cells.1, cell_of_blk j0 rfl, cell_of_blk j1 rfl, cell_of_blk j1 rfl, cell_of_blk j1 rfl, cell_of_blk j1 rfl⟩
  refine hK.out _ _ ⟨hSS6, trivial⟩ ?_
  have HS6 := Lib.hid hSS6
  have HB6 := Lib.hid hr6.below
  clear hK K had hr6 hk6 j0 j1 hSS6 HQ0 HSS
  (try simp only [Act.put, zA, zB, zC, zD, zE, zF])
  have HK6 := Lib.hid (HP3.out.trans (Kpt.less (C := C) HK36.out))
  rw [hR] at HO5
  have had := check_any ⟨C.rb, 0, none⟩ R.1 w6
  refine wpG_past (i := 12) (by kernel_rfl) rfl (by kernel_rfl) (fun K hK => ?_)
  refine step_callP (by rfl) (.func 105) [.tmp 16, .tmp 27] _ (by rfl) 105 _ fnCheckI (by rfl) _ (by rfl) (fun v w' => w' = w6 ∧ R.1 = 0) (had.mono ?_) ?_
  ·rintro e y1 ⟨rfl, hv1⟩
   rcases hv1 with ⟨h0, u0, rfl⟩ | ⟨h0, rfl⟩
   ·exact .inl ⟨_, rfl, rfl, h0⟩
   ·refine .inr ⟨_, rfl, ?_⟩
    refine ⟨rfl, HK6.out, HB6.out, ?_⟩
    try rw [HLP.out]
    rw [← HO5.out, show storeO r1 R = .err R.1 by unfold storeO; rw [if_pos h0]]
    rfl
  rintro v7 w7 ⟨rfl, h0⟩
  have HO6 := Lib.hid (show loR C.p.prs C.F g back t t2 { r1 with S := R.2 } = o by rw [← HO5.out, show storeO r1 R = .ok { r1 with S := R.2 } by unfold storeO; rw [if_neg (by simpa using h0)]]; rfl)
  refine hK.out _ _ HS6.out ?_
  clear hK K had h0
  (try simp only [Act.put, zA, zB, zC, zD, zE, zF])
  refine wpG_done (by kernel_rfl) ?_
  obtain ⟨r2, hr2⟩ : ∃ x, ({ r1 with S := R.2 } : RS) = x := ⟨_, rfl⟩
  rw [hr2] at HR6 HO6
  have hI : 1 < t.ks.length := by have := HKL.out; omega
  have hI1 : (1 : Int) < (t.ks.length : Int) := by omega
  obtain ⟨a, u, Au, cu, rfl, -, hu, ⟨p0, p1, p2, p3⟩, hnu⟩ := HROW.out.nd hI
  have hku : kid t 1 = u := by unfold kid; rw [List.getD_eq_getElem?_getD, List.getElem?_eq_getElem hI]; exact hu.out
  have HGU := Lib.hid (show ∀ x ∈ u.ks, G C.p.prs x by rw [← hku]; exact hG1)
  have HO7 := Lib.hid (show (runO C.p.prs C.F g back u r2).bind (fun r => (stepO C.F r).bind fun r => valO t2 r fun x r => storeO r (closeE r.S t.s x)) = o by rw [← HO6.out, ← hku]; rfl)
  have hgu : runO C.p.prs C.F g back u r2 ≠ .gas := fun e => HGA.out (by rw [← HO7.out, e]; rfl)
  have HBK := Lib.hid (iblock_any HS.out HC3.out HR6.out u _ back hnu HGU.out hgu)
  have ha : a.add (1 * 4) = ⟨a.block, a.off + 4, none⟩ := by unfold Addr.add; split <;> simp_all
  rw [ha] at p0 p1 p2 p3
  have q0 := cell_bl HB6.out p0
  have q1 := cell_bl HB6.out p1
  have q2 := cell_bl HB6.out p2
  have q3 := cell_bl HB6.out p3
  have j0 := HK36.out.blk (.inr (.inr ⟨by omega, l0⟩)) K0.out
  have q4 := cell_of_blk (i := 3) j0 rfl
  clear hku hnu hu p0 p1 p2 p3 hgu ha j0 hcur hn6
  go_wp2_with fail
  refine HBK.out.mono ?_
  rintro e w8 ⟨hk8, hb8, ho8⟩
  have HK38 := Lib.hid (HK36.out.trans hk8)
  have HK8 := Lib.hid (HP3.out.trans (Kpt.less (C := C) HK38.out))
  have HB8 := Lib.hid (show Below C.w.heap.size C.w w8 from hb8)
  have ho8' : match runO C.p.prs C.F g back u r2 with
   | .gas => True
   | .err x => e = failE x
   | .ok r => (∃ u, e = .returned u) ∧ RI (C.plus W.heap.size hi) w8 r := ho8
  clear q0 q1 q2 q3 q4 hk8 hb8 ho8 HBK
  cases hx : runO C.p.prs C.F g back u r2 with
  | gas => exact absurd (by rw [← HO7.out, hx]; rfl) HGA.out
  | err x =>
   rw [hx] at ho8'
   subst ho8'
   refine ⟨rfl, HK8.out, HB8.out, ?_⟩
   try rw [HLP.out]
   rw [← HO7.out, hx]
   rfl
  | ok r3 =>
   rw [hx] at ho8'
   obtain ⟨⟨u9, rfl⟩, hr3⟩ := ho8'
   have HST := Lib.hid (step_any HC3.out hr3)
   have HO8 := Lib.hid (show ((stepO C.F r3).bind fun r => valO t2 r fun x r => storeO r (closeE r.S t.s x)) = o by rw [← HO7.out, hx]; rfl)
   have HR8 := Lib.hid hr3
   clear hx hr3
   go_wp2_with fail
   refine HST.out.mono ?_
   rintro e w9 ⟨hk9, hb9, ho9⟩
   have HK39 := Lib.hid (HK38.out.trans hk9)
   have HK9 := Lib.hid (HP3.out.trans (Kpt.less (C := C) HK39.out))
   have HB9 := Lib.hid (show Below C.w.heap.size C.w w9 from hb9)
   have ho9' : match stepO C.F r3 with
    | .gas => True
    | .err x => e = failE x
    | .ok r => (∃ u, e = .returned u) ∧ RI (C.plus W.heap.size hi) w9 r := ho9
   clear hk9 hb9 ho9 HST
   cases hy : stepO C.F r3 with
   | gas => exact absurd (by rw [← HO8.out, hy]; rfl) HGA.out
   | err x =>
    rw [hy] at ho9'
    subst ho9'
    refine ⟨rfl, HK9.out, HB9.out, ?_⟩
    try rw [HLP.out]
    rw [← HO8.out, hy]
    rfl
   | ok r4 =>
    rw [hy] at ho9'
    obtain ⟨⟨u9, rfl⟩, hr4⟩ := ho9'
    have HR9 := Lib.hid hr4
    have HO9 := Lib.hid (show (valO t2 r4 fun x r => storeO r (closeE r.S t.s x)) = o by rw [← HO8.out, hy]; rfl)
    have HFB9 := Lib.hid (show FB r3.n r4.S ∧ r4.n = r3.n + 1 by obtain ⟨rfl, -⟩ := stepO_ok hy; exact ⟨HR8.out.fb, rfl⟩)
    have j0 := HK39.out.blk (.inr (.inr ⟨by omega, l0⟩)) K0.out
    have j2 := HK39.out.blk (.inr (.inr ⟨by omega, l2⟩)) K2.out
    have HVA := Lib.hid (fun w' (hb : Below w9.heap.size w9 w') => value_any (hr4.later hb) t2 _ HN2.out)
    have HSS := Lib.hid (show ∀ w', Below w9.heap.size w9 w' → (fun w' : World => w'.cell? ⟨C.rb, 6, none⟩ = some (.pointer (some ⟨C.sb, 0, none⟩)) ∧ w'.cell? ⟨W.heap.size, 2, none⟩ = some (.string t.s) ∧ w'.cell? ⟨w2.heap.size + 1, 0, none⟩ = some (.int .u8 t2.k) ∧ w'.cell? ⟨w2.heap.size + 1, 1, none⟩ = some (.int .i64 t2.n) ∧ w'.cell? ⟨w2.heap.size + 1, 2, none⟩ = some (.string t2.s) ∧ w'.cell? ⟨w2.heap.size + 1, 3, none⟩ = some (.slice A2 t2.ks.length c2)) w' from fun w' hb => ⟨cell_bl hb hr4.cells.1, cell_bl hb (cell_of_blk j0 rfl), cell_bl hb (cell_of_blk j2 rfl), cell_bl hb (cell_of_blk j2 rfl), cell_bl hb (cell_of_blk j2 rfl), cell_bl hb (cell_of_blk j2 rfl)⟩)
    clear hr4 hy j0 j2
    go_upto_region 6 with fail
    have hSS : (fun w' : World => w'.cell? ⟨C.rb, 6, none⟩ = some (.pointer (some ⟨C.sb, 0, none⟩)) ∧ w'.cell? ⟨W.heap.size, 2, none⟩ = some (.string t.s) ∧ w'.cell? ⟨w2.heap.size + 1, 0, none⟩ = some (.int .u8 t2.k) ∧ w'.cell? ⟨w2.heap.size + 1, 1, none⟩ = some (.int .i64 t2.n) ∧ w'.cell? ⟨w2.heap.size + 1, 2, none⟩ = some (.string t2.s) ∧ w'.cell? ⟨w2.heap.size + 1, 3, none⟩ = some (.slice A2 t2.ks.length c2)) w9.drew ∧ (fun _ : World => True) w9.drew := ⟨HSS.out _ (Below.refl _ _).drew, trivial⟩
    refine wp_region_G (fun w' : World => w'.cell? ⟨C.rb, 6, none⟩ = some (.pointer (some ⟨C.sb, 0, none⟩)) ∧ w'.cell? ⟨W.heap.size, 2, none⟩ = some (.string t.s) ∧ w'.cell? ⟨w2.heap.size + 1, 0, none⟩ = some (.int .u8 t2.k) ∧ w'.cell? ⟨w2.heap.size + 1, 1, none⟩ = some (.int .i64 t2.n) ∧ w'.cell? ⟨w2.heap.size + 1, 2, none⟩ = some (.string t2.s) ∧ w'.cell? ⟨w2.heap.size + 1, 3, none⟩ = some (.slice A2 t2.ks.length c2)) (fun _ : World => True) 11 (by kernel_rfl) ?_
    refine wpG_take1 (i := 0) (v := ?_) rfl (by kernel_rfl) (by kernel_rfl) (by kernel_rfl) (by decide) (fun _ _ _ h => h) (Or.inl ⟨by rfl, ?_⟩) hSS ?_
    rotate_left 1
    ·(intro w hSw; (try dsimp only at hSw); (try simp only [zA, zC]); go_simp; (try with_reducible rfl))
    (try simp only [Act.put, zA, zC, zD, zE, zF])
    refine wpG_take1 (i := 1) (v := ?_) rfl (by kernel_rfl) (by kernel_rfl) (by kernel_rfl) (by decide) (fun _ _ _ h => h) (Or.inl ⟨by rfl, ?_⟩) hSS ?_
    rotate_left 1
    ·(intro w hSw; (try dsimp only at hSw); (try simp only [zA, zB, zC]); go_simp; (try with_reducible rfl))
    (try simp only [Act.put, zA, zB, zC, zD, zE, zF])
    refine wpG_take1 (i := 2) (v := ?_) rfl (by kernel_rfl) (by kernel_rfl) (by kernel_rfl) (by decide) (fun _ _ _ h => h) (Or.inl ⟨by rfl, ?_⟩) hSS ?_
    rotate_left 1
    ·(intro w hSw; (try dsimp only at hSw); (try simp only [zA, zB, zC]); go_simp; (try with_reducible rfl))
    (try simp only [Act.put, zA, zB, zC, zD, zE, zF])
    refine wpG_take1 (i := 3) (v := ?_) rfl (by kernel_rfl) (by kernel_rfl) (by kernel_rfl) (by decide) (fun _ _ _ h => h) (Or.inl ⟨by rfl, ?_⟩) hSS ?_
    rotate_left 1
    ·(intro w hSw; (try dsimp only at hSw); (try simp only [zA, zB, zC]); go_simp; (try with_reducible rfl))
    (try simp only [Act.put, zA, zB, zC, zD, zE, zF])
    refine wpG_take1 (i := 4) (v := ?_) rfl (by kernel_rfl) (by kernel_rfl) (by kernel_rfl) (by decide) (fun _ _ _ h => h) (Or.inl ⟨by rfl, ?_⟩) hSS ?_
    rotate_left 1
    ·(intro w hSw; (try dsimp only at hSw); (try simp only [zA, zB, zC]); go_simp; (try with_reducible rfl))
    (try simp only [Act.put, zA, zB, zC, zD, zE, zF])
    refine wpG_take1 (i := 5) (v := ?_) rfl (by kernel_rfl) (by kernel_rfl) (by kernel_rfl) (by decide) (fun _ _ _ h => h) (Or.inl ⟨by rfl, ?_⟩) hSS ?_
    rotate_left 1
    ·(intro w hSw; (try dsimp only at hSw); (try simp only [zA, zB, zC]); go_simp; (try with_reducible rfl))
    (try simp only [Act.put, zA, zB, zC, zD, zE, zF])
    refine wpG_take1 (i := 6) (v := ?_) rfl (by kernel_rfl) (by kernel_rfl) (by kernel_rfl) (by decide) (fun _ _ _ h => h) (Or.inl ⟨by rfl, ?_⟩) hSS ?_
    rotate_left 1
    ·(intro w hSw; (try dsimp only at hSw); (try simp only [zA, zB, zC]); go_simp; (try with_reducible rfl))
    (try simp only [Act.put, zA, zB, zC, zD, zE, zF])
    refine wpG_take1 (i := 7) (v := ?_) rfl (by kernel_rfl) (by kernel_rfl) (by kernel_rfl) (by decide) (fun _ _ _ h => h) (Or.inl ⟨by rfl, ?_⟩) hSS ?_
    rotate_left 1
    ·(intro w hSw; (try dsimp only at hSw); (try simp only [zA, zB, zC]); go_simp; (try with_reducible rfl))
    (try simp only [Act.put, zA, zB, zC, zD, zE, zF])
    refine wpG_take1 (i := 8) (v := ?_) rfl (by kernel_rfl) (by kernel_rfl) (by kernel_rfl) (by decide) (fun _ _ _ h => h) (Or.inl ⟨by rfl, ?_⟩) hSS ?_
    rotate_left 1
    ·(intro w hSw; (try dsimp only at hSw); (try simp only [zA, zB, zC]); go_simp; (try with_reducible rfl))
    (try simp only [Act.put, zA, zB, zC, zD, zE, zF])
    have had : Calls Tryz.prog 135 [.pointer (some ⟨C.rb, 0, none⟩), nv t2.k t2.n t2.s A2 t2.ks.length c2].toArray w9.drew (ValP (C.plus W.heap.size hi) w9.drew t2 r4) := HVA.out _ (Below.refl _ _).drew
    refine wpG_one (i := 9) (by kernel_rfl) rfl (fun K hK => ?_)
    refine step_callP (by rfl) (.func 135) [.tmp 45, .tmp 46] _ (by rfl) 135 _ fnValue (by rfl) _ (by rfl) (fun v w' => Below w9.heap.size w9 w' ∧ ∃ x, v = .int .i64 x ∧ I64 x ∧ ∀ f, valO t2 r4 f = f x r4) (had.mono ?_) ?_
    ·rintro e y1 ⟨by1, hv1⟩
     have b1 := bl_tt (Below.refl w9.heap.size w9).drew by1
     rcases hv1 with ⟨x, rfl, hx⟩ | ⟨x, rfl, hxx, hx⟩
     ·refine .inr ⟨_, rfl, ?_⟩
      refine ⟨rfl, HK9.out.trans (Kpt.of_below b1), bl_tt HB9.out b1, ?_⟩
      try rw [HLP.out]
      rw [← HO9.out, hx]
     ·exact .inl ⟨_, rfl, b1, x, rfl, hxx, hx⟩
    rintro v10 w10 ⟨b10, z, rfl, hx, hvx⟩
    have HB10 := Lib.hid b10
    obtain ⟨Rc, hRc⟩ : ∃ R, closeE r4.S t.s z = R := ⟨_, rfl⟩
    have HO10 := Lib.hid (show storeO r4 Rc = o by rw [← HO9.out, hvx, hRc])
    refine hK.out _ _ ⟨HSS.out _ b10, trivial⟩ ?_
    clear hK K had b10 hx hvx hSS HVA
    (try simp only [Act.put, zA, zB, zC, zD, zE, zF])
    have had : Calls Tryz.prog 107 [.pointer (some ⟨C.sb, 0, none⟩), .string t.s, .int .i64 z].toArray w10 fun e w' => ∃ v, e = .returned v ∧ (v = .int .i64 Rc.1 ∧ RI (C.plus W.heap.size hi) w' { r4 with S := Rc.2 } ∧ Kpt C.n0 (C.plus W.heap.size hi).kb w10 w') :=
     ((HR9.out.later HB10.out).ks.close t.s z).mono fun e w' ⟨h1, h2, h3⟩ => ⟨_, h1, by rw [hRc], (RI.store (C := C.plus W.heap.size hi) (HR9.out.later HB10.out) (hRc ▸ h2) h3 (by rw [HFB9.out.2, ← hRc]; exact HFB9.out.1.close_ _ _))⟩
    refine wpG_one (i := 10) (by kernel_rfl) rfl (fun K hK => ?_)
    refine step_callG (by rfl) (.func 107) [.tmp 42, .tmp 44, .tmp 47] _ (by rfl) 107 _ fnCloseI (by rfl) _ (by rfl) _ had ?_
    rintro v11 w11 ⟨rfl, hr11, hk11⟩
    have HK311 := Lib.hid (HK39.out.trans ((Kpt.of_below HB10.out).trans hk11))
    have j0 := HK311.out.blk (.inr (.inr ⟨by omega, l0⟩)) K0.out
    have j2 := HK311.out.blk (.inr (.inr ⟨by omega, l2⟩)) K2.out
    have HR11 := Lib.hid hr11
    have hSS6 : (fun w' : World => w'.cell? ⟨C.rb, 6, none⟩ = some (.pointer (some ⟨C.sb, 0, none⟩)) ∧ w'.cell? ⟨W.heap.size, 2, none⟩ = some (.string t.s) ∧ w'.cell? ⟨w2.heap.size + 1, 0, none⟩ = some (.int .u8 t2.k) ∧ w'.cell? ⟨w2.heap.size + 1, 1, none⟩ = some (.int .i64 t2.n) ∧ w'.cell? ⟨w2.heap.size + 1, 2, none⟩ = some (.string t2.s) ∧ w'.cell? ⟨w2.heap.size + 1, 3, none⟩ = some (.slice A2 t2.ks.length c2)) w11 := ⟨hr11.cells.1, cell_of_blk j0 rfl, cell_of_blk j2 rfl, cell_of_blk j2 rfl, cell_of_blk j2 rfl, cell_of_blk j2 rfl⟩
    refine hK.out _ _ ⟨hSS6, trivial⟩ ?_
    have HS6 := Lib.hid hSS6
    have HB11 := Lib.hid hr11.below
    clear hK K had hr11 hk11 j0 j2 hSS6 HSS
    (try simp only [Act.put, zA, zB, zC, zD, zE, zF])
    have HK11 := Lib.hid (HP3.out.trans (Kpt.less (C := C) HK311.out))
    have had := check_any ⟨C.rb, 0, none⟩ Rc.1 w11
    refine wpG_past (i := 11) (by kernel_rfl) rfl (by kernel_rfl) (fun K hK => ?_)
    refine step_callP (by rfl) (.func 105) [.tmp 38, .tmp 48] _ (by rfl) 105 _ fnCheckI (by rfl) _ (by rfl) (fun v w' => w' = w11 ∧ Rc.1 = 0) (had.mono ?_) ?_
    ·rintro e y1 ⟨rfl, hv1⟩
     rcases hv1 with ⟨h0, u0, rfl⟩ | ⟨h0, rfl⟩
     ·exact .inl ⟨_, rfl, rfl, h0⟩
     ·refine .inr ⟨_, rfl, ?_⟩
      refine ⟨rfl, HK11.out, HB11.out, ?_⟩
      try rw [HLP.out]
      rw [← HO10.out, show storeO r4 Rc = .err Rc.1 by unfold storeO; rw [if_pos h0]]
    rintro v12 w12 ⟨rfl, h0⟩
    have HO11 := Lib.hid (show o = .ok { r4 with S := Rc.2 } by rw [← HO10.out]; unfold storeO; rw [if_neg (by simpa using h0)])
    refine hK.out _ _ HS6.out ?_
    clear hK K had h0
    (try simp only [Act.put, zA, zB, zC, zD, zE, zF])
    refine wpG_done (by kernel_rfl) ?_
    have HR12 := Lib.hid HR11.out.less
    go_wp2_with fail
    go_end0
    refine ⟨HK11.out, HB11.out, ?_⟩
    try rw [HLP.out]
    rw [HO11.out]
    exact ⟨⟨_, rfl⟩, HR12.out⟩
end Go.Proofs.YtgnfpcebmefhoaaGreat
namespace Go.Proofs.YtgnfpcebmefhoaaGreat
open Go Go.RowKit
set_option maxHeartbeats 1000000 in
set_option maxRecDepth 100000 in
theorem stmt_if {G : List PR → T → Prop} {g : Nat} (hS : IStC G g) {C : RC} (hC : C.Ok) {W : World} {r : RS} (h : RI C W r) (t : T) (v : Value) (back : Bool) (hv : NV C.w Any t v) (hk0 : t.k = 52) (hk : t.ks.length = 4) (hG1 : ∀ u ∈ (kid t 1).ks, G C.p.prs u) (hG2 : ∀ u ∈ (kid t 2).ks, G C.p.prs u)
  (o : Out) (ho : brO C.p.prs C.F g back t r = o) (hog : o ≠ .gas) :
  Calls Tryz.prog 72 #[.pointer (some ⟨C.rb, 0, none⟩), v, .bool back] W (RunP C W o) := by
 have hgas := hog
 obtain ⟨k, n, s, ks⟩ := t
 obtain rfl : k = 52 := hk0
 obtain ⟨A, c, rfl, -, hlk, hlc, -⟩ := hv.open_
 have hb0 := bl_al (Below.refl W.heap.size W) (.cells #[.int .u8 52, .int .i64 n, .string s, .slice A ks.length c] 26)
 obtain ⟨x0, x1, x2, x3⟩ := box4 (heap_alloc_new W (.cells #[.int .u8 52, .int .i64 n, .string s, .slice A ks.length c] 26))
 have HK0 := Lib.hid (Kpt.of_below (n0 := C.n0) (kb := C.kb) hb0)
 have HCC := Lib.hid (show Calls Tryz.prog 101 #[.pointer (some ⟨C.rb, 0, none⟩), .agg #[.int .u8 52, .int .i64 n, .string s, .slice A ks.length c], .bool back] (W.alloc (.cells #[.int .u8 52, .int .i64 n, .string s, .slice A ks.length c] 26)) (RunP C _ o) from (ho▸(branch_any hS hC (h.later hb0) _ _ back hv hk hG1 hG2 (ho▸hog))))
 clear hv hb0 h hgas hG1 ho hk
 go_enter Tryz.func72, Tryz.ntmps72
 go_wp2_with fail
 refine HCC.out.mono ?_
 rintro e w1 ⟨hk1, hb1, ho1⟩
 cases o with
 | gas => exact absurd rfl hog
 | err x =>
  subst ho1
  exact ⟨rfl, HK0.out.trans hk1, hb1, rfl⟩
 | ok r1 =>
  obtain ⟨⟨u, rfl⟩, hr1⟩ := ho1
  have HR := Lib.hid hr1
  have HK1 := Lib.hid (HK0.out.trans hk1)
  have HB1 := Lib.hid hb1
  clear x0 x1 x2 x3 hr1 hk1 hb1
  go_wp2_with fail
  go_end0
  exact ⟨HK1.out, HB1.out, ⟨_, rfl⟩, HR.out⟩
set_option maxHeartbeats 1000000 in
set_option maxRecDepth 100000 in
theorem stmt_from {G : List PR → T → Prop} {g : Nat} (hS : IStC G g) {C : RC} (hC : C.Ok) {W : World} {r : RS} (h : RI C W r) (t : T) (v : Value) (back : Bool) (hv : NV C.w Any t v) (hk0 : t.k = 53) (hk : t.ks.length = 4) (hG1 : ∀ u ∈ (kid t 1).ks, G C.p.prs u) (hG2 : ∀ u ∈ (kid t 2).ks, G C.p.prs u)
  (o : Out) (ho : lpO C.p.prs C.F g back t r = o) (hog : o ≠ .gas) :
  Calls Tryz.prog 72 #[.pointer (some ⟨C.rb, 0, none⟩), v, .bool back] W (RunP C W o) := by
 have hgas := hog
 obtain ⟨k, n, s, ks⟩ := t
 obtain rfl : k = 53 := hk0
 obtain ⟨A, c, rfl, -, hlk, hlc, -⟩ := hv.open_
 have hb0 := bl_al (Below.refl W.heap.size W) (.cells #[.int .u8 53, .int .i64 n, .string s, .slice A ks.length c] 26)
 obtain ⟨x0, x1, x2, x3⟩ := box4 (heap_alloc_new W (.cells #[.int .u8 53, .int .i64 n, .string s, .slice A ks.length c] 26))
 have HK0 := Lib.hid (Kpt.of_below (n0 := C.n0) (kb := C.kb) hb0)
 have HCC := Lib.hid (show Calls Tryz.prog 102 #[.pointer (some ⟨C.rb, 0, none⟩), .agg #[.int .u8 53, .int .i64 n, .string s, .slice A ks.length c], .bool back] (W.alloc (.cells #[.int .u8 53, .int .i64 n, .string s, .slice A ks.length c] 26)) (RunP C _ o) from (ho▸(loop_any hS hC (h.later hb0) _ _ back hv hk hG1 hG2 (ho▸hog))))
 clear hv hb0 h hgas hG1 ho hk
 go_enter Tryz.func72, Tryz.ntmps72
 go_wp2_with fail
 refine HCC.out.mono ?_
 rintro e w1 ⟨hk1, hb1, ho1⟩
 cases o with
 | gas => exact absurd rfl hog
 | err x =>
  subst ho1
  exact ⟨rfl, HK0.out.trans hk1, hb1, rfl⟩
 | ok r1 =>
  obtain ⟨⟨u, rfl⟩, hr1⟩ := ho1
  have HR := Lib.hid hr1
  have HK1 := Lib.hid (HK0.out.trans hk1)
  have HB1 := Lib.hid hb1
  clear x0 x1 x2 x3 hr1 hk1 hb1
  go_wp2_with fail
  go_end0
  exact ⟨HK1.out, HB1.out, ⟨_, rfl⟩, HR.out⟩
set_option maxHeartbeats 1000000 in
set_option maxRecDepth 100000 in
theorem stmt_local {G : List PR → T → Prop} {g : Nat} (hS : IStC G g) {C : RC} (hC : C.Ok) {W : World} {r : RS} (h : RI C W r) (t : T) (v : Value) (back : Bool) (hv : NV C.w Any t v) (hk0 : t.k = 54) (hk : t.ks.length = 3) (hG1 : ∀ u ∈ (kid t 1).ks, G C.p.prs u)
  (o : Out) (ho : loO C.p.prs C.F g back t r = o) (hog : o ≠ .gas) :
  Calls Tryz.prog 72 #[.pointer (some ⟨C.rb, 0, none⟩), v, .bool back] W (RunP C W o) := by
 have hgas := hog
 obtain ⟨k, n, s, ks⟩ := t
 obtain rfl : k = 54 := hk0
 obtain ⟨A, c, rfl, -, hlk, hlc, -⟩ := hv.open_
 have hb0 := bl_al (Below.refl W.heap.size W) (.cells #[.int .u8 54, .int .i64 n, .string s, .slice A ks.length c] 26)
 obtain ⟨x0, x1, x2, x3⟩ := box4 (heap_alloc_new W (.cells #[.int .u8 54, .int .i64 n, .string s, .slice A ks.length c] 26))
 have HK0 := Lib.hid (Kpt.of_below (n0 := C.n0) (kb := C.kb) hb0)
 have HCC := Lib.hid (show Calls Tryz.prog 103 #[.pointer (some ⟨C.rb, 0, none⟩), .agg #[.int .u8 54, .int .i64 n, .string s, .slice A ks.length c], .bool back] (W.alloc (.cells #[.int .u8 54, .int .i64 n, .string s, .slice A ks.length c] 26)) (RunP C _ o) from (ho▸(local_any hS hC (h.later hb0) _ _ back hv hk hG1 (ho▸hog))))
 clear hv hb0 h hgas hG1 ho hk
 go_enter Tryz.func72, Tryz.ntmps72
 go_wp2_with fail
 refine HCC.out.mono ?_
 rintro e w1 ⟨hk1, hb1, ho1⟩
 cases o with
 | gas => exact absurd rfl hog
 | err x =>
  subst ho1
  exact ⟨rfl, HK0.out.trans hk1, hb1, rfl⟩
 | ok r1 =>
  obtain ⟨⟨u, rfl⟩, hr1⟩ := ho1
  have HR := Lib.hid hr1
  have HK1 := Lib.hid (HK0.out.trans hk1)
  have HB1 := Lib.hid hb1
  clear x0 x1 x2 x3 hr1 hk1 hb1
  go_wp2_with fail
  go_end0
  exact ⟨HK1.out, HB1.out, ⟨_, rfl⟩, HR.out⟩
end Go.Proofs.YtgnfpcebmefhoaaGreat
namespace Go.Proofs.YtgnfpcebmefhoaaGreat
open Go Go.RowKit
theorem fnDoI : IsFn Tryz.prog 110 Tryz.f110 := ⟨Tryz.func110, by kernel_rfl, by kernel_rfl⟩
theorem fnUndoI : IsFn Tryz.prog 109 Tryz.f109 := ⟨Tryz.func109, by kernel_rfl, by kernel_rfl⟩
def basO (F : Int) (back : Bool) (t : T) (r : RS) : Out := (stepO F r).bind fun r => storeO r (if back = true then undoE r.S t else doE r.S t)
set_option maxHeartbeats 2000000 in
set_option maxRecDepth 100000 in
theorem stmt_bas {C : RC} (hC : C.Ok) {W : World} {r : RS} (h : RI C W r) (t : T) (v : Value) (back : Bool) (hv : NV C.w Any t v) (hk : t.k ≠ 52 ∧ t.k ≠ 53 ∧ t.k ≠ 54 ∧ t.k ≠ 55 ∧ t.k ≠ 50 ∧ t.k ≠ 51) :
  Calls Tryz.prog 72 #[.pointer (some ⟨C.rb, 0, none⟩), v, .bool back] W (RunP C W (basO C.F back t r)) := by
 have HV := Lib.hid hv
 have H := Lib.hid h
 obtain ⟨A, c, rfl, -, hlk, hlc, -⟩ := hv.open_
 have e0 : (t.k == 52) = false := by simpa using hk.1
 have e1 : (t.k == 53) = false := by simpa using hk.2.1
 have e2 : (t.k == 54) = false := by simpa using hk.2.2.1
 have e3 : (t.k == 55) = false := by simpa using hk.2.2.2.1
 have e4 : (t.k == 50) = false := by simpa using hk.2.2.2.2.1
 have e5 : (t.k == 51) = false := by simpa using hk.2.2.2.2.2
 have hb0 := bl_al (Below.refl W.heap.size W) (.cells #[.int .u8 t.k, .int .i64 t.n, .string t.s, .slice A t.ks.length c] 26)
 obtain ⟨hC1, h1⟩ := h.plus hC hb0
 have k0 := heap_alloc_new W (.cells #[.int .u8 t.k, .int .i64 t.n, .string t.s, .slice A t.ks.length c] 26)
 obtain ⟨x0, x1, x2, x3⟩ := box4 k0
 have HP3 := Lib.hid (Kpt.of_below (n0 := C.n0) (kb := C.kb) hb0)
 obtain ⟨w3, hw3⟩ : ∃ x, W.alloc (.cells #[.int .u8 t.k, .int .i64 t.n, .string t.s, .slice A t.ks.length c] 26) = x := ⟨_, rfl⟩
 rw [hw3] at hC1 h1 k0 x0 x1 x2 x3 HP3
 have l0 := blk_lt k0
 have K0 := Lib.hid k0
 obtain ⟨hi, hhi⟩ : ∃ x, w3.heap.size = x := ⟨_, rfl⟩
 rw [hhi] at hC1 h1 l0
 have HHO := Lib.hid (step_any hC1 h1)
 obtain ⟨o, ho⟩ : ∃ o, basO C.F back t r = o := ⟨_, rfl⟩
 have HLP := Lib.hid ho
 have HO := Lib.hid (show (stepO C.F r).bind (fun r => storeO r (if back = true then undoE r.S t else doE r.S t)) = o from ho)
 rw [ho]
 clear hv hb0 hC1 h1 k0 h hk ho
 go_enter Tryz.func72, Tryz.ntmps72
 go_wp2_with fail
 refine HHO.out.mono ?_
 rintro e w4 ⟨hk4, hb4, ho4⟩
 have HK4 := Lib.hid (HP3.out.trans (Kpt.less (C := C) hk4))
 have HB4 := Lib.hid (show Below C.w.heap.size C.w w4 from hb4)
 have ho4' : match stepO C.F r with
  | .gas => True
  | .err x => e = failE x
  | .ok r => (∃ u, e = .returned u) ∧ RI (C.plus W.heap.size hi) w4 r := ho4
 have HK34 := Lib.hid hk4
 clear x0 x1 x2 x3 HHO hk4 hb4 ho4 hw3
 cases hy : stepO C.F r with
 | gas => exact absurd hy (stepO_good _ _).1
 | err x =>
  rw [hy] at ho4'
  subst ho4'
  refine ⟨rfl, HK4.out, HB4.out, ?_⟩
  try rw [HLP.out]
  rw [← HO.out, hy]
  rfl
 | ok r1 =>
  rw [hy] at ho4'
  obtain ⟨⟨u3, rfl⟩, hr1⟩ := ho4'
  have HR4 := Lib.hid hr1
  have HO4 := Lib.hid (show storeO r1 (if back = true then undoE r1.S t else doE r1.S t) = o by rw [← HO.out, hy]; rfl)
  have HFB := Lib.hid (show FB r.n r1.S ∧ r1.n = r.n + 1 by obtain ⟨rfl, -⟩ := stepO_ok hy; exact ⟨H.out.fb, rfl⟩)
  have j0 := HK34.out.blk (.inr (.inr ⟨Nat.le_refl _, l0⟩)) K0.out
  have hSS : (fun w' : World => w'.cell? ⟨C.rb, 6, none⟩ = some (.pointer (some ⟨C.sb, 0, none⟩)) ∧ w'.cell? ⟨W.heap.size, 0, none⟩ = some (.int .u8 t.k) ∧ w'.cell? ⟨W.heap.size, 1, none⟩ = some (.int .i64 t.n) ∧ w'.cell? ⟨W.heap.size, 2, none⟩ = some (.string t.s) ∧ w'.cell? ⟨W.heap.size, 3, none⟩ = some (.slice A t.ks.length c)) w4.drew ∧ (fun _ : World => True) w4.drew := ⟨⟨hr1.cells.1, cell_of_blk j0 rfl, cell_of_blk j0 rfl, cell_of_blk j0 rfl, cell_of_blk j0 rfl⟩, trivial⟩
  clear hr1 hy j0
  cases back
  ·skip
   go_upto_region 5 with fail
   refine wp_region_G (fun w' : World => w'.cell? ⟨C.rb, 6, none⟩ = some (.pointer (some ⟨C.sb, 0, none⟩)) ∧ w'.cell? ⟨W.heap.size, 0, none⟩ = some (.int .u8 t.k) ∧ w'.cell? ⟨W.heap.size, 1, none⟩ = some (.int .i64 t.n) ∧ w'.cell? ⟨W.heap.size, 2, none⟩ = some (.string t.s) ∧ w'.cell? ⟨W.heap.size, 3, none⟩ = some (.slice A t.ks.length c)) (fun _ : World => True) 7 (by kernel_rfl) ?_
   refine wpG_take1 (i := 0) (v := ?_) rfl (by kernel_rfl) (by kernel_rfl) (by kernel_rfl) (by decide) (fun _ _ _ h => h) (Or.inl ⟨by rfl, ?_⟩) hSS ?_
   rotate_left 1
   ·(intro w hSw; (try dsimp only at hSw); (try simp only [zA, zC]); go_simp; (try with_reducible rfl))
   (try simp only [Act.put, zA, zC, zD, zE, zF])
   refine wpG_take1 (i := 1) (v := ?_) rfl (by kernel_rfl) (by kernel_rfl) (by kernel_rfl) (by decide) (fun _ _ _ h => h) (Or.inl ⟨by rfl, ?_⟩) hSS ?_
   rotate_left 1
   ·(intro w hSw; (try dsimp only at hSw); (try simp only [zA, zB, zC]); go_simp; (try with_reducible rfl))
   (try simp only [Act.put, zA, zB, zC, zD, zE, zF])
   refine wpG_take1 (i := 2) (v := ?_) rfl (by kernel_rfl) (by kernel_rfl) (by kernel_rfl) (by decide) (fun _ _ _ h => h) (Or.inl ⟨by rfl, ?_⟩) hSS ?_
   rotate_left 1
   ·(intro w hSw; (try dsimp only at hSw); (try simp only [zA, zB, zC]); go_simp; (try with_reducible rfl))
   (try simp only [Act.put, zA, zB, zC, zD, zE, zF])
   refine wpG_take1 (i := 3) (v := ?_) rfl (by kernel_rfl) (by kernel_rfl) (by kernel_rfl) (by decide) (fun _ _ _ h => h) (Or.inl ⟨by rfl, ?_⟩) hSS ?_
   rotate_left 1
   ·(intro w hSw; (try dsimp only at hSw); (try simp only [zA, zB, zC]); go_simp; (try with_reducible rfl))
   (try simp only [Act.put, zA, zB, zC, zD, zE, zF])
   refine wpG_take1 (i := 4) (v := ?_) rfl (by kernel_rfl) (by kernel_rfl) (by kernel_rfl) (by decide) (fun _ _ _ h => h) (Or.inl ⟨by rfl, ?_⟩) hSS ?_
   rotate_left 1
   ·(intro w hSw; (try dsimp only at hSw); (try simp only [zA, zB, zC]); go_simp; (try with_reducible rfl))
   (try simp only [Act.put, zA, zB, zC, zD, zE, zF])
   refine wpG_take1 (i := 5) (v := ?_) rfl (by kernel_rfl) (by kernel_rfl) (by kernel_rfl) (by decide) (fun _ _ _ h => h) (Or.inl ⟨by rfl, ?_⟩) hSS ?_
   rotate_left 1
   ·(intro w hSw; (try dsimp only at hSw); (try simp only [zA, zB, zC]); go_simp; (try with_reducible rfl))
   (try simp only [Act.put, zA, zB, zC, zD, zE, zF])
   obtain ⟨R, hR⟩ : ∃ R, doE r1.S t = R := ⟨_, rfl⟩
   have HO5 := Lib.hid (show storeO r1 R = o by rw [← hR]; exact HO4.out)
   have hbd : Below w4.heap.size w4 w4.drew := (Below.refl _ _).drew
   have had : Calls Tryz.prog 110 [.pointer (some ⟨C.sb, 0, none⟩), .agg #[.int .u8 t.k, .int .i64 t.n, .string t.s, .slice A t.ks.length c]].toArray w4.drew fun e w' => ∃ v, e = .returned v ∧ (v = .int .i64 R.1 ∧ RI (C.plus W.heap.size hi) w' { r1 with S := R.2 } ∧ Kpt C.n0 (C.plus W.heap.size hi).kb w4 w') :=
    ((HR4.out.later hbd).ks.do_ t _ (HV.out.later (bl_tt HB4.out hbd))).mono fun e w' ⟨h1, h2, h3⟩ => by
     have hs := RI.store (C := C.plus W.heap.size hi) (HR4.out.later hbd) h2 h3 (by rw [HFB.out.2]; exact HFB.out.1.do_ _)
     rw [hR] at h1 hs
     exact ⟨_, h1, rfl, hs.1, (Kpt.of_below hbd).trans hs.2⟩
   refine wpG_one (i := 6) (by kernel_rfl) rfl (fun K hK => ?_)
   refine step_callG (by rfl) (.func 110) [.tmp 23, .tmp 24] _ (by rfl) 110 _ fnDoI (by rfl) _ (by rfl) _ had ?_
   rintro v6 w6 ⟨rfl, hr6, hk6⟩
   have HK6 := Lib.hid (HK4.out.trans (Kpt.less (C := C) hk6))
   have j0 := (HK34.out.trans hk6).blk (.inr (.inr ⟨Nat.le_refl _, l0⟩)) K0.out
   have hSS6 : (fun w' : World => w'.cell? ⟨C.rb, 6, none⟩ = some (.pointer (some ⟨C.sb, 0, none⟩)) ∧ w'.cell? ⟨W.heap.size, 0, none⟩ = some (.int .u8 t.k) ∧ w'.cell? ⟨W.heap.size, 1, none⟩ = some (.int .i64 t.n) ∧ w'.cell? ⟨W.heap.size, 2, none⟩ = some (.string t.s) ∧ w'.cell? ⟨W.heap.size, 3, none⟩ = some (.slice A t.ks.length c)) w6 := ⟨hr6.cells.1, cell_of_blk j0 rfl, cell_of_blk j0 rfl, cell_of_blk j0 rfl, cell_of_blk j0 rfl⟩
   have HR6 := Lib.hid hr6.less
   have HB6 := Lib.hid hr6.below
   refine hK.out _ _ ⟨hSS6, trivial⟩ ?_
   have HS6 := Lib.hid hSS6
   clear hK K had hr6 hk6 j0 hSS6 hSS
   (try simp only [Act.put, zA, zB, zC, zD, zE, zF])
   have had := check_any ⟨C.rb, 0, none⟩ R.1 w6
   refine wpG_past (i := 7) (by kernel_rfl) rfl (by kernel_rfl) (fun K hK => ?_)
   refine step_callP (by rfl) (.func 105) [.tmp 19, .tmp 25] _ (by rfl) 105 _ fnCheckI (by rfl) _ (by rfl) (fun v w' => w' = w6 ∧ R.1 = 0) (had.mono ?_) ?_
   ·rintro e y1 ⟨rfl, hv1⟩
    rcases hv1 with ⟨h0, u0, rfl⟩ | ⟨h0, rfl⟩
    ·exact .inl ⟨_, rfl, rfl, h0⟩
    ·refine .inr ⟨_, rfl, ?_⟩
     refine ⟨rfl, HK6.out, HB6.out, ?_⟩
     try rw [HLP.out]
     rw [← HO5.out, show storeO r1 R = .err R.1 by unfold storeO; rw [if_pos h0]]
   rintro v12 w12 ⟨rfl, h0⟩
   have HO11 := Lib.hid (show o = .ok { r1 with S := R.2 } by rw [← HO5.out]; unfold storeO; rw [if_neg (by simpa using h0)])
   refine hK.out _ _ HS6.out ?_
   clear hK K had h0
   (try simp only [Act.put, zA, zB, zC, zD, zE, zF])
   refine wpG_done (by kernel_rfl) ?_
   go_wp2_with fail
   go_end0
   refine ⟨HK6.out, HB6.out, ?_⟩
   try rw [HLP.out]
   rw [HO11.out]
   exact ⟨⟨_, rfl⟩, HR6.out⟩
  ·skip
   go_upto_region 4 with fail
   refine wp_region_G (fun w' : World => w'.cell? ⟨C.rb, 6, none⟩ = some (.pointer (some ⟨C.sb, 0, none⟩)) ∧ w'.cell? ⟨W.heap.size, 0, none⟩ = some (.int .u8 t.k) ∧ w'.cell? ⟨W.heap.size, 1, none⟩ = some (.int .i64 t.n) ∧ w'.cell? ⟨W.heap.size, 2, none⟩ = some (.string t.s) ∧ w'.cell? ⟨W.heap.size, 3, none⟩ = some (.slice A t.ks.length c)) (fun _ : World => True) 7 (by kernel_rfl) ?_
   refine wpG_take1 (i := 0) (v := ?_) rfl (by kernel_rfl) (by kernel_rfl) (by kernel_rfl) (by decide) (fun _ _ _ h => h) (Or.inl ⟨by rfl, ?_⟩) hSS ?_
   rotate_left 1
   ·(intro w hSw; (try dsimp only at hSw); (try simp only [zA, zC]); go_simp; (try with_reducible rfl))
   (try simp only [Act.put, zA, zC, zD, zE, zF])
   refine wpG_take1 (i := 1) (v := ?_) rfl (by kernel_rfl) (by kernel_rfl) (by kernel_rfl) (by decide) (fun _ _ _ h => h) (Or.inl ⟨by rfl, ?_⟩) hSS ?_
   rotate_left 1
   ·(intro w hSw; (try dsimp only at hSw); (try simp only [zA, zB, zC]); go_simp; (try with_reducible rfl))
   (try simp only [Act.put, zA, zB, zC, zD, zE, zF])
   refine wpG_take1 (i := 2) (v := ?_) rfl (by kernel_rfl) (by kernel_rfl) (by kernel_rfl) (by decide) (fun _ _ _ h => h) (Or.inl ⟨by rfl, ?_⟩) hSS ?_
   rotate_left 1
   ·(intro w hSw; (try dsimp only at hSw); (try simp only [zA, zB, zC]); go_simp; (try with_reducible rfl))
   (try simp only [Act.put, zA, zB, zC, zD, zE, zF])
   refine wpG_take1 (i := 3) (v := ?_) rfl (by kernel_rfl) (by kernel_rfl) (by kernel_rfl) (by decide) (fun _ _ _ h => h) (Or.inl ⟨by rfl, ?_⟩) hSS ?_
   rotate_left 1
   ·(intro w hSw; (try dsimp only at hSw); (try simp only [zA, zB, zC]); go_simp; (try with_reducible rfl))
   (try simp only [Act.put, zA, zB, zC, zD, zE, zF])
   refine wpG_take1 (i := 4) (v := ?_) rfl (by kernel_rfl) (by kernel_rfl) (by kernel_rfl) (by decide) (fun _ _ _ h => h) (Or.inl ⟨by rfl, ?_⟩) hSS ?_
   rotate_left 1
   ·(intro w hSw; (try dsimp only at hSw); (try simp only [zA, zB, zC]); go_simp; (try with_reducible rfl))
   (try simp only [Act.put, zA, zB, zC, zD, zE, zF])
   refine wpG_take1 (i := 5) (v := ?_) rfl (by kernel_rfl) (by kernel_rfl) (by kernel_rfl) (by decide) (fun _ _ _ h => h) (Or.inl ⟨by rfl, ?_⟩) hSS ?_
   rotate_left 1
   ·(intro w hSw; (try dsimp only at hSw); (try simp only [zA, zB, zC]); go_simp; (try with_reducible rfl))
   (try simp only [Act.put, zA, zB, zC, zD, zE, zF])
   obtain ⟨R, hR⟩ : ∃ R, undoE r1.S t = R := ⟨_, rfl⟩
   have HO5 := Lib.hid (show storeO r1 R = o by rw [← hR]; exact HO4.out)
   have hbd : Below w4.heap.size w4 w4.drew := (Below.refl _ _).drew
   have had : Calls Tryz.prog 109 [.pointer (some ⟨C.sb, 0, none⟩), .agg #[.int .u8 t.k, .int .i64 t.n, .string t.s, .slice A t.ks.length c]].toArray w4.drew fun e w' => ∃ v, e = .returned v ∧ (v = .int .i64 R.1 ∧ RI (C.plus W.heap.size hi) w' { r1 with S := R.2 } ∧ Kpt C.n0 (C.plus W.heap.size hi).kb w4 w') :=
    ((HR4.out.later hbd).ks.undo t _ (HV.out.later (bl_tt HB4.out hbd))).mono fun e w' ⟨h1, h2, h3⟩ => by
     have hs := RI.store (C := C.plus W.heap.size hi) (HR4.out.later hbd) h2 h3 (by rw [HFB.out.2]; exact HFB.out.1.undo _)
     rw [hR] at h1 hs
     exact ⟨_, h1, rfl, hs.1, (Kpt.of_below hbd).trans hs.2⟩
   refine wpG_one (i := 6) (by kernel_rfl) rfl (fun K hK => ?_)
   refine step_callG (by rfl) (.func 109) [.tmp 15, .tmp 16] _ (by rfl) 109 _ fnUndoI (by rfl) _ (by rfl) _ had ?_
   rintro v6 w6 ⟨rfl, hr6, hk6⟩
   have HK6 := Lib.hid (HK4.out.trans (Kpt.less (C := C) hk6))
   have j0 := (HK34.out.trans hk6).blk (.inr (.inr ⟨Nat.le_refl _, l0⟩)) K0.out
   have hSS6 : (fun w' : World => w'.cell? ⟨C.rb, 6, none⟩ = some (.pointer (some ⟨C.sb, 0, none⟩)) ∧ w'.cell? ⟨W.heap.size, 0, none⟩ = some (.int .u8 t.k) ∧ w'.cell? ⟨W.heap.size, 1, none⟩ = some (.int .i64 t.n) ∧ w'.cell? ⟨W.heap.size, 2, none⟩ = some (.string t.s) ∧ w'.cell? ⟨W.heap.size, 3, none⟩ = some (.slice A t.ks.length c)) w6 := ⟨hr6.cells.1, cell_of_blk j0 rfl, cell_of_blk j0 rfl, cell_of_blk j0 rfl, cell_of_blk j0 rfl⟩
   have HR6 := Lib.hid hr6.less
   have HB6 := Lib.hid hr6.below
   refine hK.out _ _ ⟨hSS6, trivial⟩ ?_
   have HS6 := Lib.hid hSS6
   clear hK K had hr6 hk6 j0 hSS6 hSS
   (try simp only [Act.put, zA, zB, zC, zD, zE, zF])
   have had := check_any ⟨C.rb, 0, none⟩ R.1 w6
   refine wpG_past (i := 7) (by kernel_rfl) rfl (by kernel_rfl) (fun K hK => ?_)
   refine step_callP (by rfl) (.func 105) [.tmp 11, .tmp 17] _ (by rfl) 105 _ fnCheckI (by rfl) _ (by rfl) (fun v w' => w' = w6 ∧ R.1 = 0) (had.mono ?_) ?_
   ·rintro e y1 ⟨rfl, hv1⟩
    rcases hv1 with ⟨h0, u0, rfl⟩ | ⟨h0, rfl⟩
    ·exact .inl ⟨_, rfl, rfl, h0⟩
    ·refine .inr ⟨_, rfl, ?_⟩
     refine ⟨rfl, HK6.out, HB6.out, ?_⟩
     try rw [HLP.out]
     rw [← HO5.out, show storeO r1 R = .err R.1 by unfold storeO; rw [if_pos h0]]
   rintro v12 w12 ⟨rfl, h0⟩
   have HO11 := Lib.hid (show o = .ok { r1 with S := R.2 } by rw [← HO5.out]; unfold storeO; rw [if_neg (by simpa using h0)])
   refine hK.out _ _ HS6.out ?_
   clear hK K had h0
   (try simp only [Act.put, zA, zB, zC, zD, zE, zF])
   refine wpG_done (by kernel_rfl) ?_
   go_wp2_with fail
   go_end0
   refine ⟨HK6.out, HB6.out, ?_⟩
   try rw [HLP.out]
   rw [HO11.out]
   exact ⟨⟨_, rfl⟩, HR6.out⟩
end Go.Proofs.YtgnfpcebmefhoaaGreat
namespace Go.Proofs.YtgnfpcebmefhoaaGreat
open Go Go.RowKit
def lsR (prs : List PR) (F : Int) (g : Nat) (back : Bool) (t : T) (r : RS) : Out :=
 (bodyO (execO prs F g back) (blkL back (kid t 0)) r).bind fun r => (stepO F r).bind fun r => storeO r (closeE r.S t.s 0)
def lsO (prs : List PR) (F : Int) (g : Nat) (back : Bool) (t : T) (r : RS) : Out :=
 (stepO F r).bind fun r => (storeO r (openE r.S ⟨t.s, 3, 0⟩ 0)).bind (lsR prs F g back t)
set_option maxHeartbeats 2000000 in
set_option maxRecDepth 100000 in
theorem stmt_ls {G : List PR → T → Prop} {g : Nat} (hS : IStC G g) {C : RC} (hC : C.Ok) {W : World} {r : RS} (h : RI C W r) (t : T) (v : Value) (back : Bool) (hv : NV C.w Any t v) (hk0 : t.k = 55) (hk : t.ks.length = 1) (hG1 : ∀ u ∈ (kid t 0).ks, G C.p.prs u)
  (hgas : lsO C.p.prs C.F g back t r ≠ .gas) :
  Calls Tryz.prog 72 #[.pointer (some ⟨C.rb, 0, none⟩), v, .bool back] W (RunP C W (lsO C.p.prs C.F g back t r)) := by
 have HV := Lib.hid hv
 have H := Lib.hid h
 have HS := Lib.hid hS
 have HKL := Lib.hid hk
 obtain ⟨A, c, rfl, -, hlk, hlc, hrow⟩ := hv.open_
 have HROW := Lib.hid hrow
 have hb0 := bl_al (Below.refl W.heap.size W) (.cells #[.int .u8 t.k, .int .i64 t.n, .string t.s, .slice A t.ks.length c] 26)
 obtain ⟨hC1, h1⟩ := h.plus hC hb0
 have k0 := heap_alloc_new W (.cells #[.int .u8 t.k, .int .i64 t.n, .string t.s, .slice A t.ks.length c] 26)
 obtain ⟨x0, x1, x2, x3⟩ := box4 k0
 have HP3 := Lib.hid (Kpt.of_below (n0 := C.n0) (kb := C.kb) hb0)
 obtain ⟨w3, hw3⟩ : ∃ x, W.alloc (.cells #[.int .u8 t.k, .int .i64 t.n, .string t.s, .slice A t.ks.length c] 26) = x := ⟨_, rfl⟩
 rw [hw3] at hC1 h1 k0 x0 x1 x2 x3 HP3
 have l0 := blk_lt k0
 have K0 := Lib.hid k0
 obtain ⟨hi, hhi⟩ : ∃ x, w3.heap.size = x := ⟨_, rfl⟩
 rw [hhi] at hC1 h1 l0
 have HC1 := Lib.hid hC1
 have HHO := Lib.hid (step_any hC1 h1)
 obtain ⟨o, ho⟩ : ∃ o, lsO C.p.prs C.F g back t r = o := ⟨_, rfl⟩
 have HLP := Lib.hid ho
 have HO := Lib.hid (show (stepO C.F r).bind (fun r => (storeO r (openE r.S ⟨t.s, 3, 0⟩ 0)).bind (lsR C.p.prs C.F g back t)) = o from ho)
 rw [ho] at hgas ⊢
 have HGA := Lib.hid hgas
 rw [hk0] at hw3
 have hw3' := hw3
 clear hv hb0 hC1 h1 k0 h hk ho hgas hrow hS hlk
 have HKK := Lib.hid hk0
 rw [hk0] at x0
 rw [hk0]
 clear hk0
 go_enter Tryz.func72, Tryz.ntmps72
 go_wp2_with fail
 refine HHO.out.mono ?_
 rintro e w4 ⟨hk4, hb4, ho4⟩
 have HK4 := Lib.hid (HP3.out.trans (Kpt.less (C := C) hk4))
 have HB4 := Lib.hid (show Below C.w.heap.size C.w w4 from hb4)
 have ho4' : match stepO C.F r with
  | .gas => True
  | .err x => e = failE x
  | .ok r => (∃ u, e = .returned u) ∧ RI (C.plus W.heap.size hi) w4 r := ho4
 have HK34 := Lib.hid hk4
 clear x0 x1 x2 x3 HHO hk4 hb4 ho4 hw3 hw3'
 cases hy : stepO C.F r with
 | gas => exact absurd hy (stepO_good _ _).1
 | err x =>
  rw [hy] at ho4'
  subst ho4'
  refine ⟨rfl, HK4.out, HB4.out, ?_⟩
  try rw [HLP.out]
  rw [← HO.out, hy]
  rfl
 | ok r1 =>
  rw [hy] at ho4'
  obtain ⟨⟨u3, rfl⟩, hr1⟩ := ho4'
  have HR4 := Lib.hid hr1
  have HO4 := Lib.hid (show (storeO r1 (openE r1.S ⟨t.s, 3, 0⟩ 0)).bind (lsR C.p.prs C.F g back t) = o by rw [← HO.out, hy]; rfl)
  have HFB := Lib.hid (show FB r.n r1.S ∧ r1.n = r.n + 1 by obtain ⟨rfl, -⟩ := stepO_ok hy; exact ⟨H.out.fb, rfl⟩)
  have j0 := HK34.out.blk (.inr (.inr ⟨Nat.le_refl _, l0⟩)) K0.out
  have hSS : (fun w' : World => w'.cell? ⟨C.rb, 6, none⟩ = some (.pointer (some ⟨C.sb, 0, none⟩)) ∧ w'.cell? ⟨W.heap.size, 2, none⟩ = some (.string t.s)) w4.drew ∧ (fun _ : World => True) w4.drew := ⟨⟨hr1.cells.1, cell_of_blk j0 rfl⟩, trivial⟩
  clear hr1 hy j0
  go_upto_region 14 with fail
  refine wp_region_G (fun w' : World => w'.cell? ⟨C.rb, 6, none⟩ = some (.pointer (some ⟨C.sb, 0, none⟩)) ∧ w'.cell? ⟨W.heap.size, 2, none⟩ = some (.string t.s)) (fun _ : World => True) 9 (by kernel_rfl) ?_
  refine wpG_take1 (i := 0) (v := ?_) rfl (by kernel_rfl) (by kernel_rfl) (by kernel_rfl) (by decide) (fun _ _ _ h => h) (Or.inl ⟨by rfl, ?_⟩) hSS ?_
  rotate_left 1
  ·(intro w hSw; (try dsimp only at hSw); (try simp only [zA, zC]); go_simp; (try with_reducible rfl))
  (try simp only [Act.put, zA, zC, zD, zE, zF])
  refine wpG_take1 (i := 1) (v := ?_) rfl (by kernel_rfl) (by kernel_rfl) (by kernel_rfl) (by decide) (fun _ _ _ h => h) (Or.inl ⟨by rfl, ?_⟩) hSS ?_
  rotate_left 1
  ·(intro w hSw; (try dsimp only at hSw); (try simp only [zA, zB, zC]); go_simp; (try with_reducible rfl))
  (try simp only [Act.put, zA, zB, zC, zD, zE, zF])
  refine wpG_take1 (i := 2) (v := ?_) rfl (by kernel_rfl) (by kernel_rfl) (by kernel_rfl) (by decide) (fun _ _ _ h => h) (Or.inl ⟨by rfl, ?_⟩) hSS ?_
  rotate_left 1
  ·(intro w hSw; (try dsimp only at hSw); (try simp only [zA, zB, zC]); go_simp; (try with_reducible rfl))
  (try simp only [Act.put, zA, zB, zC, zD, zE, zF])
  refine wpG_take1 (i := 3) (v := ?_) rfl (by kernel_rfl) (by kernel_rfl) (by kernel_rfl) (by decide) (fun _ _ _ h => h) (Or.inl ⟨by rfl, ?_⟩) hSS ?_
  rotate_left 1
  ·(intro w hSw; (try dsimp only at hSw); (try simp only [zA, zB, zC]); go_simp; (try with_reducible rfl))
  (try simp only [Act.put, zA, zB, zC, zD, zE, zF])
  refine wpG_take1 (i := 4) (v := ?_) rfl (by kernel_rfl) (by kernel_rfl) (by kernel_rfl) (by decide) (fun _ _ _ h => h) (Or.inl ⟨by rfl, ?_⟩) hSS ?_
  rotate_left 1
  ·(intro w hSw; (try dsimp only at hSw); (try simp only [zA, zB, zC]); go_simp; (try with_reducible rfl))
  (try simp only [Act.put, zA, zB, zC, zD, zE, zF])
  refine wpG_take1 (i := 5) (v := ?_) rfl (by kernel_rfl) (by kernel_rfl) (by kernel_rfl) (by decide) (fun _ _ _ h => h) (Or.inl ⟨by rfl, ?_⟩) hSS ?_
  rotate_left 1
  ·(intro w hSw; (try dsimp only at hSw); (try simp only [zA, zB, zC]); go_simp; (try with_reducible rfl))
  (try simp only [Act.put, zA, zB, zC, zD, zE, zF])
  refine wpG_take1 (i := 6) (v := ?_) rfl (by kernel_rfl) (by kernel_rfl) (by kernel_rfl) (by decide) (fun _ _ _ h => h) (Or.inl ⟨by rfl, ?_⟩) hSS ?_
  rotate_left 1
  ·(intro w hSw; (try dsimp only at hSw); (try simp only [zA, zB, zC]); go_simp; (try with_reducible rfl))
  (try simp only [Act.put, zA, zB, zC, zD, zE, zF])
  refine wpG_take1 (i := 7) (v := ?_) rfl (by kernel_rfl) (by kernel_rfl) (by kernel_rfl) (by decide) (fun _ _ _ h => h) (Or.inl ⟨by rfl, ?_⟩) hSS ?_
  rotate_left 1
  ·(intro w hSw; (try dsimp only at hSw); (try simp only [zA, zB, zC]); go_simp; (try with_reducible rfl))
  (try simp only [Act.put, zA, zB, zC, zD, zE, zF])
  obtain ⟨R, hR⟩ : ∃ R, openE r1.S ⟨t.s, 3, 0⟩ 0 = R := ⟨_, rfl⟩
  have HRR := Lib.hid hR
  have hcur := HFB.out.1.cur
  have hn6 := H.out.n
  have hbd : Below w4.heap.size w4 w4.drew := (Below.refl _ _).drew
  have had : Calls Tryz.prog 106 [.pointer (some ⟨C.sb, 0, none⟩), .agg #[.string t.s, .int .u8 3, .int .i64 0], .int .i64 0].toArray w4.drew fun e w' => ∃ v, e = .returned v ∧ (v = .int .i64 R.1 ∧ RI (C.plus W.heap.size hi) w' { r1 with S := R.2 } ∧ Kpt C.n0 (C.plus W.heap.size hi).kb w4 w') :=
   ((HR4.out.later hbd).ks.open_ ⟨t.s, 3, 0⟩ (by obtain ⟨_, _, _, hf, -⟩ := HV.out.open_; exact ⟨hf.2.2, ⟨by simp only; omega, by simp only; omega⟩, ⟨by simp only; omega, by simp only; omega⟩⟩) 0 zero_I64 (by omega)).mono fun e w' ⟨h1, h2, h3⟩ => by
    have hs := RI.store (C := C.plus W.heap.size hi) (HR4.out.later hbd) (hR ▸ h2) h3 (by rw [HFB.out.2, ← hR]; exact HFB.out.1.open_ _ _)
    exact ⟨_, h1, by rw [hR], hs.1, (Kpt.of_below hbd).trans hs.2⟩
  refine wpG_one (i := 8) (by kernel_rfl) rfl (fun K hK => ?_)
  refine step_callG (by rfl) (.func 106) [.tmp 53, .tmp 56, .const (.int .i64 0)] _ (by rfl) 106 _ fnOpenI (by rfl) _ (by rfl) _ had ?_
  rintro v6 w6 ⟨rfl, hr6, hk6⟩
  have HK36 := Lib.hid (HK34.out.trans hk6)
  have j0 := HK36.out.blk (.inr (.inr ⟨Nat.le_refl _, l0⟩)) K0.out
  have HR6 := Lib.hid hr6
  have hSS6 : (fun w' : World => w'.cell? ⟨C.rb, 6, none⟩ = some (.pointer (some ⟨C.sb, 0, none⟩)) ∧ w'.cell? ⟨W.heap.size, 2, none⟩ = some (.string t.s)) w6 := ⟨hr6.cells.1, cell_of_blk j0 rfl⟩
  refine hK.out _ _ ⟨hSS6, trivial⟩ ?_
  have HS6 := Lib.hid hSS6
  have HB6 := Lib.hid hr6.below
  clear hK K had hr6 hk6 j0 hSS6 hSS
  (try simp only [Act.put, zA, zB, zC, zD, zE, zF])
  have HK6 := Lib.hid (HP3.out.trans (Kpt.less (C := C) HK36.out))
  rw [hR] at HO4
  have had := check_any ⟨C.rb, 0, none⟩ R.1 w6
  refine wpG_past (i := 9) (by kernel_rfl) rfl (by kernel_rfl) (fun K hK => ?_)
  refine step_callP (by rfl) (.func 105) [.tmp 49, .tmp 57] _ (by rfl) 105 _ fnCheckI (by rfl) _ (by rfl) (fun v w' => w' = w6 ∧ R.1 = 0) (had.mono ?_) ?_
  ·rintro e y1 ⟨rfl, hv1⟩
   rcases hv1 with ⟨h0, u0, rfl⟩ | ⟨h0, rfl⟩
   ·exact .inl ⟨_, rfl, rfl, h0⟩
   ·refine .inr ⟨_, rfl, ?_⟩
    refine ⟨rfl, HK6.out, HB6.out, ?_⟩
    try rw [HLP.out]
    rw [← HO4.out, show storeO r1 R = .err R.1 by unfold storeO; rw [if_pos h0]]
    rfl
  rintro v7 w7 ⟨rfl, h0⟩
  have HO6 := Lib.hid (show lsR C.p.prs C.F g back t { r1 with S := R.2 } = o by rw [← HO4.out, show storeO r1 R = .ok { r1 with S := R.2 } by unfold storeO; rw [if_neg (by simpa using h0)]]; rfl)
  refine hK.out _ _ HS6.out ?_
  clear hK K had h0
  (try simp only [Act.put, zA, zB, zC, zD, zE, zF])
  refine wpG_done (by kernel_rfl) ?_
  obtain ⟨r2, hr2⟩ : ∃ x, ({ r1 with S := R.2 } : RS) = x := ⟨_, rfl⟩
  rw [hr2] at HR6 HO6
  have hI : 0 < t.ks.length := by have := HKL.out; omega
  have hI1 : (0 : Int) < (t.ks.length : Int) := by omega
  obtain ⟨a, u, Au, cu, rfl, -, hu, ⟨p0, p1, p2, p3⟩, hnu⟩ := HROW.out.nd hI
  have hku : kid t 0 = u := by unfold kid; rw [List.getD_eq_getElem?_getD, List.getElem?_eq_getElem hI]; exact hu.out
  have HGU := Lib.hid (show ∀ x ∈ u.ks, G C.p.prs x by rw [← hku]; exact hG1)
  have HO7 := Lib.hid (show (runO C.p.prs C.F g back u r2).bind (fun r => (stepO C.F r).bind fun r => storeO r (closeE r.S t.s 0)) = o by rw [← HO6.out, ← hku]; rfl)
  have hgu : runO C.p.prs C.F g back u r2 ≠ .gas := fun e => HGA.out (by rw [← HO7.out, e]; rfl)
  have HBK := Lib.hid (iblock_any HS.out HC1.out HR6.out u _ back hnu HGU.out hgu)
  have ha : a.add (0 * 4) = a := by unfold Addr.add; simp
  rw [ha] at p0 p1 p2 p3
  have q0 := cell_bl HB6.out p0
  have q1 := cell_bl HB6.out p1
  have q2 := cell_bl HB6.out p2
  have q3 := cell_bl HB6.out p3
  have j0 := HK36.out.blk (.inr (.inr ⟨Nat.le_refl _, l0⟩)) K0.out
  have q4 := cell_of_blk (i := 3) j0 rfl
  clear hku hnu hu p0 p1 p2 p3 hgu ha j0 hcur hn6 hG1
  go_wp2_with fail
  refine HBK.out.mono ?_
  rintro e w8 ⟨hk8, hb8, ho8⟩
  have HK38 := Lib.hid (HK36.out.trans hk8)
  have HK8 := Lib.hid (HP3.out.trans (Kpt.less (C := C) HK38.out))
  have HB8 := Lib.hid (show Below C.w.heap.size C.w w8 from hb8)
  have ho8' : match runO C.p.prs C.F g back u r2 with
   | .gas => True
   | .err x => e = failE x
   | .ok r => (∃ u, e = .returned u) ∧ RI (C.plus W.heap.size hi) w8 r := ho8
  clear q0 q1 q2 q3 q4 hk8 hb8 ho8 HBK
  cases hx : runO C.p.prs C.F g back u r2 with
  | gas => exact absurd (by rw [← HO7.out, hx]; rfl) HGA.out
  | err x =>
   rw [hx] at ho8'
   subst ho8'
   refine ⟨rfl, HK8.out, HB8.out, ?_⟩
   try rw [HLP.out]
   rw [← HO7.out, hx]
   rfl
  | ok r3 =>
   rw [hx] at ho8'
   obtain ⟨⟨u9, rfl⟩, hr3⟩ := ho8'
   have HST := Lib.hid (step_any HC1.out hr3)
   have HO8 := Lib.hid (show ((stepO C.F r3).bind fun r => storeO r (closeE r.S t.s 0)) = o by rw [← HO7.out, hx]; rfl)
   have HR8 := Lib.hid hr3
   clear hx hr3
   go_wp2_with fail
   refine HST.out.mono ?_
   rintro e w9 ⟨hk9, hb9, ho9⟩
   have HK39 := Lib.hid (HK38.out.trans hk9)
   have HK9 := Lib.hid (HP3.out.trans (Kpt.less (C := C) HK39.out))
   have HB9 := Lib.hid (show Below C.w.heap.size C.w w9 from hb9)
   have ho9' : match stepO C.F r3 with
    | .gas => True
    | .err x => e = failE x
    | .ok r => (∃ u, e = .returned u) ∧ RI (C.plus W.heap.size hi) w9 r := ho9
   clear hk9 hb9 ho9 HST
   cases hy : stepO C.F r3 with
   | gas => exact absurd (by rw [← HO8.out, hy]; rfl) HGA.out
   | err x =>
    rw [hy] at ho9'
    subst ho9'
    refine ⟨rfl, HK9.out, HB9.out, ?_⟩
    try rw [HLP.out]
    rw [← HO8.out, hy]
    rfl
   | ok r4 =>
    rw [hy] at ho9'
    obtain ⟨⟨u9, rfl⟩, hr4⟩ := ho9'
    have HR9 := Lib.hid hr4
    have HFB9 := Lib.hid (show FB r3.n r4.S ∧ r4.n = r3.n + 1 by obtain ⟨rfl, -⟩ := stepO_ok hy; exact ⟨HR8.out.fb, rfl⟩)
    obtain ⟨Rc, hRc⟩ : ∃ R, closeE r4.S t.s 0 = R := ⟨_, rfl⟩
    have HO10 := Lib.hid (show storeO r4 Rc = o by rw [← HO8.out, hy, ← hRc]; rfl)
    have j0 := HK39.out.blk (.inr (.inr ⟨Nat.le_refl _, l0⟩)) K0.out
    have hSS : (fun w' : World => w'.cell? ⟨C.rb, 6, none⟩ = some (.pointer (some ⟨C.sb, 0, none⟩)) ∧ w'.cell? ⟨W.heap.size, 2, none⟩ = some (.string t.s)) w9.drew ∧ (fun _ : World => True) w9.drew := ⟨⟨hr4.cells.1, cell_of_blk j0 rfl⟩, trivial⟩
    clear hr4 hy j0
    go_upto_region 17 with fail
    refine wp_region_G (fun w' : World => w'.cell? ⟨C.rb, 6, none⟩ = some (.pointer (some ⟨C.sb, 0, none⟩)) ∧ w'.cell? ⟨W.heap.size, 2, none⟩ = some (.string t.s)) (fun _ : World => True) 8 (by kernel_rfl) ?_
    refine wpG_take1 (i := 0) (v := ?_) rfl (by kernel_rfl) (by kernel_rfl) (by kernel_rfl) (by decide) (fun _ _ _ h => h) (Or.inl ⟨by rfl, ?_⟩) hSS ?_
    rotate_left 1
    ·(intro w hSw; (try dsimp only at hSw); (try simp only [zA, zC]); go_simp; (try with_reducible rfl))
    (try simp only [Act.put, zA, zC, zD, zE, zF])
    refine wpG_take1 (i := 1) (v := ?_) rfl (by kernel_rfl) (by kernel_rfl) (by kernel_rfl) (by decide) (fun _ _ _ h => h) (Or.inl ⟨by rfl, ?_⟩) hSS ?_
    rotate_left 1
    ·(intro w hSw; (try dsimp only at hSw); (try simp only [zA, zB, zC]); go_simp; (try with_reducible rfl))
    (try simp only [Act.put, zA, zB, zC, zD, zE, zF])
    refine wpG_take1 (i := 2) (v := ?_) rfl (by kernel_rfl) (by kernel_rfl) (by kernel_rfl) (by decide) (fun _ _ _ h => h) (Or.inl ⟨by rfl, ?_⟩) hSS ?_
    rotate_left 1
    ·(intro w hSw; (try dsimp only at hSw); (try simp only [zA, zB, zC]); go_simp; (try with_reducible rfl))
    (try simp only [Act.put, zA, zB, zC, zD, zE, zF])
    refine wpG_take1 (i := 3) (v := ?_) rfl (by kernel_rfl) (by kernel_rfl) (by kernel_rfl) (by decide) (fun _ _ _ h => h) (Or.inl ⟨by rfl, ?_⟩) hSS ?_
    rotate_left 1
    ·(intro w hSw; (try dsimp only at hSw); (try simp only [zA, zB, zC]); go_simp; (try with_reducible rfl))
    (try simp only [Act.put, zA, zB, zC, zD, zE, zF])
    refine wpG_take1 (i := 4) (v := ?_) rfl (by kernel_rfl) (by kernel_rfl) (by kernel_rfl) (by decide) (fun _ _ _ h => h) (Or.inl ⟨by rfl, ?_⟩) hSS ?_
    rotate_left 1
    ·(intro w hSw; (try dsimp only at hSw); (try simp only [zA, zB, zC]); go_simp; (try with_reducible rfl))
    (try simp only [Act.put, zA, zB, zC, zD, zE, zF])
    refine wpG_take1 (i := 5) (v := ?_) rfl (by kernel_rfl) (by kernel_rfl) (by kernel_rfl) (by decide) (fun _ _ _ h => h) (Or.inl ⟨by rfl, ?_⟩) hSS ?_
    rotate_left 1
    ·(intro w hSw; (try dsimp only at hSw); (try simp only [zA, zB, zC]); go_simp; (try with_reducible rfl))
    (try simp only [Act.put, zA, zB, zC, zD, zE, zF])
    refine wpG_take1 (i := 6) (v := ?_) rfl (by kernel_rfl) (by kernel_rfl) (by kernel_rfl) (by decide) (fun _ _ _ h => h) (Or.inl ⟨by rfl, ?_⟩) hSS ?_
    rotate_left 1
    ·(intro w hSw; (try dsimp only at hSw); (try simp only [zA, zB, zC]); go_simp; (try with_reducible rfl))
    (try simp only [Act.put, zA, zB, zC, zD, zE, zF])
    have hbd9 : Below w9.heap.size w9 w9.drew := (Below.refl _ _).drew
    have had : Calls Tryz.prog 107 [.pointer (some ⟨C.sb, 0, none⟩), .string t.s, .int .i64 0].toArray w9.drew fun e w' => ∃ v, e = .returned v ∧ (v = .int .i64 Rc.1 ∧ RI (C.plus W.heap.size hi) w' { r4 with S := Rc.2 } ∧ Kpt C.n0 (C.plus W.heap.size hi).kb w9 w') :=
     ((HR9.out.later hbd9).ks.close t.s 0).mono fun e w' ⟨h1, h2, h3⟩ => by
      have hs := RI.store (C := C.plus W.heap.size hi) (HR9.out.later hbd9) (hRc ▸ h2) h3 (by rw [HFB9.out.2, ← hRc]; exact HFB9.out.1.close_ _ _)
      exact ⟨_, h1, by rw [hRc], hs.1, (Kpt.of_below hbd9).trans hs.2⟩
    refine wpG_one (i := 7) (by kernel_rfl) rfl (fun K hK => ?_)
    refine step_callG (by rfl) (.func 107) [.tmp 72, .tmp 74, .const (.int .i64 0)] _ (by rfl) 107 _ fnCloseI (by rfl) _ (by rfl) _ had ?_
    rintro v11 w11 ⟨rfl, hr11, hk11⟩
    have HK311 := Lib.hid (HK39.out.trans hk11)
    have j0 := HK311.out.blk (.inr (.inr ⟨Nat.le_refl _, l0⟩)) K0.out
    have HR11 := Lib.hid hr11
    have hSS6 : (fun w' : World => w'.cell? ⟨C.rb, 6, none⟩ = some (.pointer (some ⟨C.sb, 0, none⟩)) ∧ w'.cell? ⟨W.heap.size, 2, none⟩ = some (.string t.s)) w11 := ⟨hr11.cells.1, cell_of_blk j0 rfl⟩
    refine hK.out _ _ ⟨hSS6, trivial⟩ ?_
    have HS6 := Lib.hid hSS6
    have HB11 := Lib.hid hr11.below
    clear hK K had hr11 hk11 j0 hSS6 hSS
    (try simp only [Act.put, zA, zB, zC, zD, zE, zF])
    have HK11 := Lib.hid (HP3.out.trans (Kpt.less (C := C) HK311.out))
    have had := check_any ⟨C.rb, 0, none⟩ Rc.1 w11
    refine wpG_past (i := 8) (by kernel_rfl) rfl (by kernel_rfl) (fun K hK => ?_)
    refine step_callP (by rfl) (.func 105) [.tmp 68, .tmp 75] _ (by rfl) 105 _ fnCheckI (by rfl) _ (by rfl) (fun v w' => w' = w11 ∧ Rc.1 = 0) (had.mono ?_) ?_
    ·rintro e y1 ⟨rfl, hv1⟩
     rcases hv1 with ⟨h0, u0, rfl⟩ | ⟨h0, rfl⟩
     ·exact .inl ⟨_, rfl, rfl, h0⟩
     ·refine .inr ⟨_, rfl, ?_⟩
      refine ⟨rfl, HK11.out, HB11.out, ?_⟩
      try rw [HLP.out]
      rw [← HO10.out, show storeO r4 Rc = .err Rc.1 by unfold storeO; rw [if_pos h0]]
    rintro v12 w12 ⟨rfl, h0⟩
    have HO11 := Lib.hid (show o = .ok { r4 with S := Rc.2 } by rw [← HO10.out]; unfold storeO; rw [if_neg (by simpa using h0)])
    refine hK.out _ _ HS6.out ?_
    clear hK K had h0
    (try simp only [Act.put, zA, zB, zC, zD, zE, zF])
    refine wpG_done (by kernel_rfl) ?_
    have HR12 := Lib.hid HR11.out.less
    go_wp2_with fail
    go_end0
    refine ⟨HK11.out, HB11.out, ?_⟩
    try rw [HLP.out]
    rw [HO11.out]
    exact ⟨⟨_, rfl⟩, HR12.out⟩
end Go.Proofs.YtgnfpcebmefhoaaGreat
namespace Go.Proofs.YtgnfpcebmefhoaaGreat
open Go.RowKit
mutual
/-- ast.limited: what is left of the count, or none. -/
def lim : T → Nat → Nat → Option Nat
 | .nd _ _ _ ks, d, l => if d = 0 ∨ l = 0 then none else lims ks (d - 1) (l - 1)
def lims : List T → Nat → Nat → Option Nat
 | [], _, l => some l
 | t :: ts, d, l => match lim t d l with
  | none => none
  | some l' => lims ts d l'
end
theorem lims_append (ts us : List T) (d : Nat) : ∀ l, lims (ts ++ us) d l = (lims ts d l).bind fun r => lims us d r := by
 induction ts with
 | nil => intro l; simp [lims]
 | cons t ts ih =>
  intro l
  simp only [List.cons_append, lims]
  cases lim t d l with
  | none => rfl
  | some r => exact ih r
theorem lims_one (t : T) (d l : Nat) : lims [t] d l = lim t d l := by
 simp only [lims]
 cases lim t d l <;> rfl
theorem lims_take {ks : List T} {d l r j : Nat} (hj : j < ks.length) (h : lims (ks.take j) d l = some r) : lims (ks.take (j + 1)) d l = lim ks[j] d r := by
 rw [List.take_succ_eq_append_getElem hj, lims_append, h]
 exact lims_one _ _ _
theorem lims_none {ks : List T} {d l j : Nat} (h : lims (ks.take j) d l = none) : lims ks d l = none := by
 rw [← List.take_append_drop j ks, lims_append, h]
 rfl
theorem lim_le (t : T) : ∀ d l r, lim t d l = some r → r ≤ l := by
 induction t using T.ind with
 | _ k n s ks ih =>
 intro d l r h
 rw [lim] at h
 split at h
 ·cases h
 ·have key : ∀ (us : List T), (∀ t ∈ us, ∀ d l r, lim t d l = some r → r ≤ l) → ∀ l r d, lims us d l = some r → r ≤ l := by
   intro us
   induction us with
   | nil => intro _ l r d h; simp [lims] at h; omega
   | cons t us ih2 =>
    intro hu l r d h
    simp only [lims] at h
    cases h1 : lim t d l with
    | none => rw [h1] at h; cases h
    | some r1 =>
     rw [h1] at h
     have := hu t (by simp) d l r1 h1
     have := ih2 (fun t ht => hu t (by simp [ht])) r1 r d h
     omega
  have := key ks ih _ _ _ h
  omega
def LimE (w : World) (b : Nat) (o : Option Nat) (e : Ending) (w' : World) : Prop :=
 e = .returned (.bool o.isSome) ∧ ∃ l' : Nat, w'.heap[b]? = some (.cells #[.int .i64 (l' : Int)] 3 (0, 0)) ∧ (∀ r, o = some r → l' = r) ∧ w.grownBy w' (some b)
theorem grown_trans {a b c : World} {row : Option Nat} (h1 : a.grownBy b row) (h2 : b.grownBy c row) : a.grownBy c row :=
 ⟨h2.os.trans h1.os, h2.tape.trans h1.tape, h2.output.trans h1.output, Nat.le_trans h1.size h2.size, fun i hi hne => (h2.block i (Nat.lt_of_lt_of_le hi h1.size) hne).trans (h1.block i hi hne)⟩
theorem grown_alloc {w : World} (o : Obj) (row : Option Nat) : w.grownBy (w.alloc o) row :=
 let h := (Below.refl w.heap.size w).alloc (Nat.le_refl _) o
 ⟨h.os, h.tape, h.output, h.size, fun b hb _ => h.block b hb⟩
theorem NV.grown {w w' : World} {S : Nat → Prop} {t : T} {v : Value} {b : Nat} (h : NV w S t v) (hg : w.grownBy w' (some b)) (hb : ¬ S b) : NV w' S t v :=
 h.keep (fun _ h _ => h) fun i hi hlt => hg.block i hlt fun e => by injection e with e; subst e; exact hb hi
theorem RowAt.grown {w w' : World} {S : Nat → Prop} {A : Option Addr} {ts : List T} {b : Nat} (h : RowAt w S A ts) (hg : w.grownBy w' (some b)) (hb : ¬ S b) : RowAt w' S A ts :=
 h.keep (fun _ h _ => h) fun i hi hlt => hg.block i hlt fun e => by injection e with e; subst e; exact hb hi
set_option maxHeartbeats 2000000 in
set_option maxRecDepth 100000 in
theorem limited_any (t : T) : ∀ (d l : Nat) (S : Nat → Prop) (v : Value) (w : World) (b : Nat), NV w S t v → ¬ S b → d ≤ 80 → l ≤ 2000 → w.heap[b]? = some (.cells #[.int .i64 (l : Int)] 3 (0, 0)) →
  Calls Tryz.prog 57 #[v, .int .i64 (d : Int), .pointer (some ⟨b, 0, none⟩)] w (LimE w b (lim t d l)) := by
 induction t using T.ind with
 | _ k n s ks ih =>
 intro d l S v w b hv hSb hd hl hbx
 obtain ⟨A, c, rfl, hf, hlk, hlc, hrow⟩ := hv.open_
 simp only [T.k_nd, T.n_nd, T.s_nd, T.ks_nd] at *
 have hlk' := LK_int hlk
 have IH := Lib.hid ih
 have HROW := Lib.hid hrow
 have HSB := Lib.hid hSb
 have HBX := Lib.hid hbx
 have hbl := blk_lt hbx
 have c0 := cell_al (cell_of_blk (i := 0) (u := .int .i64 (l : Int)) hbx rfl)
 have f0 : ∀ o : Obj, (w.alloc o).frozen? ⟨b, 0, none⟩ = false := fun o => by
  have : (w.alloc o).heap[b]? = some (.cells #[.int .i64 (l : Int)] 3 (0, 0)) := (Below.heap_alloc w o b hbl).trans hbx
  exact frozen_of_blk this
 clear hv ih hrow hSb hf hlk hbx
 have hne : ¬ b = w.heap.size := by omega
 have hne' : ¬ w.heap.size = b := by omega
 by_cases hd0 : d = 0
 ·subst hd0
  have HX := Lib.hid (show lim (.nd k n s ks) 0 l = none by rw [lim]; simp)
  go_enter Tryz.func57, Tryz.ntmps57
  go_wp2_with fail
  go_ret
  rw [HX.out]
  exact ⟨rfl, l, (Below.heap_alloc w _ b hbl).trans HBX.out, (fun r h => by cases h), grown_alloc _ _⟩
 by_cases hl0 : l = 0
 ·subst hl0
  have HX := Lib.hid (show lim (.nd k n s ks) d 0 = none by rw [lim]; simp)
  have fd : ((d : Int) == 0) = false := by simpa using hd0
  go_enter Tryz.func57, Tryz.ntmps57
  go_wp2_with fail
  go_ret
  rw [HX.out]
  exact ⟨rfl, 0, (Below.heap_alloc w _ b hbl).trans HBX.out, (fun r h => by cases h), grown_alloc _ _⟩
 obtain ⟨d', rfl⟩ : ∃ d', d = d' + 1 := ⟨d - 1, by omega⟩
 obtain ⟨l', rfl⟩ : ∃ l', l = l' + 1 := ⟨l - 1, by omega⟩
 have HX := Lib.hid (show lim (.nd k n s ks) (d' + 1) (l' + 1) = lims ks d' l' by rw [lim, if_neg (by omega)]; simp)
 rw [show ((d' + 1 : Nat) : Int) = (d' : Int) + 1 from rfl]
 have fd : ((d' : Int) + 1 == 0) = false := by simp; omega
 have fl : ((l' : Int) + 1 == 0) = false := by simp; omega
 clear hd0 hl0
 have hb1 : (w.setCell ⟨b, 0, none⟩ (.int .i64 (l' : Int))).heap[b]? = some (.cells #[.int .i64 (l' : Int)] 3 (0, 0)) := by
  have h1 := heap_setCell_same w b 0 _ 3 (.int .i64 (l' : Int)) HBX.out
  simpa using h1
 have hz1 : (w.setCell ⟨b, 0, none⟩ (.int .i64 (l' : Int))).heap.size = w.heap.size := by simp [World.setCell]
 obtain ⟨W0, hW0⟩ : ∃ W0, (w.setCell ⟨b, 0, none⟩ (.int .i64 (l' : Int))).alloc (.cells #[.int .u8 k, .int .i64 n, .string s, .slice A ks.length c] 26) = W0 := ⟨_, rfl⟩
 have H0 : W0.heap[b]? = some (.cells #[.int .i64 (l' : Int)] 3 (0, 0)) := by
  rw [← hW0, Below.heap_alloc _ _ b (by rw [hz1]; exact hbl)]; exact hb1
 have A0 : W0.heap[w.heap.size]? = some (.cells #[.int .u8 k, .int .i64 n, .string s, .slice A ks.length c] 26 (0, 0)) := by
  rw [← hW0, ← hz1]; exact heap_alloc_new _ _
 have G0 : w.grownBy W0 (some b) := by
  rw [← hW0]
  refine grown_trans (only_set (only_refl w (some b)) (p := ⟨b, 0, none⟩) rfl _) (grown_alloc _ _)
 have HH := Lib.hid (And.intro H0 (And.intro A0 G0))
 have HW0 := Lib.hid hW0
 clear H0 G0 A0 hb1 hz1 hW0
 go_enter Tryz.func57, Tryz.ntmps57
 go_wp2_with fail
 rw [HW0.out]
 clear c0 f0
 go_loopw [25] (fun i wr => ∃ (j lc : Nat), j ≤ ks.length ∧ i = .int .i64 j ∧ lc ≤ 2000 ∧ Hid (lims (ks.take j) d' l' = some lc) ∧ wr.heap[b]? = some (.cells #[.int .i64 (lc : Int)] 3 (0, 0)) ∧ wr.heap[w.heap.size]? = some (.cells #[.int .u8 k, .int .i64 n, .string s, .slice A ks.length c] 26 (0, 0)) ∧ w.grownBy wr (some b)) (fun i _ => ks.length - (intOf i).toNat)
 case atStart => exact ⟨0, l', Nat.zero_le _, rfl, by omega, Lib.hid (by simp [lims]), HH.out.1, HH.out.2.1, HH.out.2.2⟩
 case round =>
  obtain ⟨j, lc, hj, rfl, hlc2, HLI, hbx, hax, hg⟩ := hrel
  clear HH HW0
  by_cases hlt : j < ks.length
  ·obtain ⟨a, t, A1, c1, rfl, _, Ht, ⟨q0, q1, q2, q3⟩, hn⟩ := (HROW.out.grown hg HSB.out).nd hlt
   have hI := IH.out ks[j] (List.getElem_mem hlt)
   rw [Ht.out] at hI
   have hbl2 := blk_lt hbx
   have hal : ∀ o : Obj, (wr.alloc o).heap[b]? = some (.cells #[.int .i64 (lc : Int)] 3 (0, 0)) := fun o => (Below.heap_alloc wr o b hbl2).trans hbx
   have HI1 := Lib.hid (hI d' lc S _ (wr.alloc (.cells #[.int .u8 t.k, .int .i64 t.n, .string t.s, .slice A1 t.ks.length c1] 26)) b (hn.later ((Below.refl _ _).alloc (Nat.le_refl _) _)) HSB.out (by omega) hlc2 (hal _))
   have HT := Lib.hid (show lims (ks.take (j + 1)) d' l' = lim t d' lc by rw [lims_take hlt HLI.out, Ht.out])
   have HG := Lib.hid (grown_trans hg (grown_alloc (.cells #[.int .u8 t.k, .int .i64 t.n, .string t.s, .slice A1 t.ks.length c1] 26) _))
   have HAX := Lib.hid (show ∀ o : Obj, (wr.alloc o).heap[w.heap.size]? = some (.cells #[.int .u8 k, .int .i64 n, .string s, .slice (some a) ks.length c] 26 (0, 0)) from fun o => (Below.heap_alloc wr o _ (blk_lt hax)).trans hax)
   clear hI hn hbx hax hal
   go_wp2_with fail
   refine HI1.out.mono ?_
   rintro e w1 ⟨rfl, l1, hb1, hl1, hg1⟩
   have HG1 := Lib.hid (grown_trans HG.out hg1)
   have HA1 := Lib.hid ((hg1.block _ (blk_lt (HAX.out _)) (fun e => hne' (by injection e))).trans (HAX.out _))
   have HB1 := Lib.hid hb1
   clear hb1 hg1
   cases ho : lim t d' lc with
   | none =>
    have HX2 := Lib.hid (show lims ks d' l' = none from lims_none (j := j + 1) (by rw [HT.out, ho]))
    go_wp2_with fail
    go_ret
    rw [HX.out, HX2.out]
    exact ⟨rfl, l1, HB1.out, (fun r h => by cases h), HG1.out⟩
   | some r =>
    have hr1 := hl1 r ho
    subst hr1
    have hle : l1 ≤ 2000 := by have := lim_le t d' lc l1 ho; omega
    have HT2 := Lib.hid (show lims (ks.take (j + 1)) d' l' = some l1 by rw [HT.out, ho])
    clear hl1 ho
    go_wp2_with fail
    go_roundw
    case rel => exact ⟨j + 1, l1, by omega, by go_num, hle, HT2, HB1.out, HA1.out, HG1.out⟩
    case measure => simp [intOf]; omega
  ·obtain rfl : j = ks.length := by omega
   have HL2 := Lib.hid (show lims ks d' l' = some lc by have := HLI.out; rw [List.take_of_length_le (by omega)] at this; exact this)
   go_wp2_with fail
   go_ret
   rw [HX.out, HL2.out]
   exact ⟨rfl, lc, hbx, (fun r h => by cases h; rfl), hg⟩
def isBodyB (t : T) : Bool := (lim t 80 2000).isSome && isB t
set_option maxHeartbeats 1000000 in
theorem isBody_any (t : T) (v : Value) (w : World) (hv : NV w Any t v) : Calls Tryz.prog 37 #[v] w fun e w' => e = .returned (.bool (isBodyB t)) ∧ Below w.heap.size w w' := by
 have HV := Lib.hid hv
 have HX := Lib.hid (show isBodyB t = ((lim t 80 2000).isSome && isB t) from rfl)
 obtain ⟨A, c, rfl, hf, hlk, hlc, hrow⟩ := hv.open_
 clear hf hlk hrow hv hlc
 generalize t.k = k, t.n = n, t.s = s, t.ks.length = l at *
 have HV2 := Lib.hid (show NV w (fun b => b < w.heap.size) t (nv k n s A l c) from HV.out.keep (fun _ _ h => h) fun _ _ _ => rfl)
 have hb2 : ∀ o o', Below w.heap.size w ((w.alloc o).alloc o') := fun o o' => ((Below.refl _ _).alloc (Nat.le_refl _) _).alloc (by simp) _
 have HB2 := Lib.hid hb2
 have HBX := Lib.hid (show ∀ o : Obj, ((w.alloc o).alloc (.cells #[.int .i64 2000] 3)).heap[w.heap.size + 1]? = some (.cells #[.int .i64 ((2000 : Nat) : Int)] 3 (0, 0)) from fun o => by
  have := heap_alloc_new (w.alloc o) (.cells #[.int .i64 2000] 3)
  simpa using this)
 clear hb2
 go_enter Tryz.func37, Tryz.ntmps37
 go_wp2_with fail
 refine (limited_any t 80 2000 (fun b => b < w.heap.size) _ _ (w.heap.size + 1) (HV2.out.later (HB2.out _ _)) (fun h => by have h' : w.heap.size + 1 < w.heap.size := h; omega) (by omega) (by omega) (HBX.out _)).mono ?_
 rintro e w1 ⟨rfl, l1, hb1, _, hg1⟩
 have q1 : Below w.heap.size w w1 := by
  refine (HB2.out (.cells #[.int .u8 k, .int .i64 n, .string s, .slice A l c] 26) (.cells #[.int .i64 2000] 3)).grown hg1 (by simp; omega) ?_
  intro g e; injection e with e; omega
 have hc : ∀ i, w1.cell? ⟨w.heap.size, i, none⟩ = ((w.alloc (.cells #[.int .u8 k, .int .i64 n, .string s, .slice A l c] 26)).alloc (.cells #[.int .i64 2000] 3)).cell? ⟨w.heap.size, i, none⟩ := fun i =>
  World.cell?_of_block (a := ⟨w.heap.size, i, none⟩) (hg1.block _ (by simp; omega) (fun e => by simp at e))
 have x0 : w1.cell? ⟨w.heap.size, 0, none⟩ = some (.int .u8 k) := (hc 0).trans (by simp)
 have x1 : w1.cell? ⟨w.heap.size, 1, none⟩ = some (.int .i64 n) := (hc 1).trans (by simp)
 have x2 : w1.cell? ⟨w.heap.size, 2, none⟩ = some (.string s) := (hc 2).trans (by simp)
 have x3 : w1.cell? ⟨w.heap.size, 3, none⟩ = some (.slice A l c) := (hc 3).trans (by simp)
 have HX1 := HX.out
 clear hc hg1 hb1
 cases ho : (lim t 80 2000).isSome
 ·rw [ho] at HX1
  go_wp2_with fail
  go_ret
  exact ⟨by rw [HX1]; rfl, q1⟩
 ·rw [ho] at HX1
  have HX2 := Lib.hid HX1
  clear HX1
  go_wp2_with fail
  refine (IsBlock_any t _ _ (HV.out.later q1)).mono ?_
  rintro e w2 ⟨rfl, bw2⟩
  go_wp2_with fail
  go_ret
  exact ⟨by rw [HX2.out]; simp, q1.trans (bw2.mono q1.size)⟩
end Go.Proofs.YtgnfpcebmefhoaaGreat
namespace Go.Proofs.YtgnfpcebmefhoaaGreat
open Go.RowKit
def declB (v : VD) : Bool := nameB v.s && (if v.k = 1 ∨ v.k = 3 then v.n == 0 else if v.k = 2 then decide (1 ≤ v.n ∧ v.n ≤ 16) else false)
theorem all_take {vs : List VD} {f : VD → Bool} {j : Nat} (hj : j < vs.length) (h : (vs.take j).all f = true) : (vs.take (j + 1)).all f = f vs[j] := by
 rw [List.take_succ_eq_append_getElem hj, List.all_append, h]; simp
theorem all_none {vs : List VD} {f : VD → Bool} {j : Nat} (hj : j < vs.length) (h : f vs[j] = false) : vs.all f = false := by
 simp only [List.all_eq_false]
 exact ⟨vs[j], List.getElem_mem hj, by simp [h]⟩
set_option maxHeartbeats 2000000 in
set_option maxRecDepth 100000 in
theorem declared_any (vs : List VD) (A : Option Addr) (c : Nat) (S : Nat → Prop) (w : World) (hrow : RowV w S A vs) (hl : vs.length ≤ LV) (_hlc : vs.length ≤ c) :
  Calls Tryz.prog 35 #[.slice A vs.length c] w fun e w' => e = .returned (.bool (vs.all declB)) ∧ Below w.heap.size w w' := by
 have hl' := LV_int hl
 have HROW := Lib.hid hrow
 clear hrow hl
 go_enter Tryz.func35, Tryz.ntmps35
 go_wp2_with fail
 go_loopw [7] (fun i wr => ∃ j : Nat, j ≤ vs.length ∧ i = .int .i64 j ∧ Below w.heap.size w wr ∧ Hid ((vs.take j).all declB = true)) (fun i _ => vs.length - (intOf i).toNat)
 case atStart => exact ⟨0, Nat.zero_le _, rfl, Below.refl _ _, Lib.hid (by simp)⟩
 case round =>
  obtain ⟨j, hj, rfl, hb, HA⟩ := hrel
  by_cases hlt : j < vs.length
  ·obtain ⟨a, v, rfl, _, Hv, ⟨q0, q1, q2⟩, hf⟩ := (HROW.out.later hb).nd hlt
   have HT := Lib.hid (show (vs.take (j + 1)).all declB = declB v by rw [all_take hlt HA.out, Hv.out])
   have HN := Lib.hid (show declB v = false → vs.all declB = false from fun h => all_none hlt (by rw [Hv.out]; exact h))
   have HD := Lib.hid (show declB v = (nameB v.s && (if v.k = 1 ∨ v.k = 3 then v.n == 0 else if v.k = 2 then decide (1 ≤ v.n ∧ v.n ≤ 16) else false)) from rfl)
   obtain ⟨s, hs⟩ : ∃ s, v.s = s := ⟨_, rfl⟩
   obtain ⟨k, hk⟩ : ∃ k, v.k = k := ⟨_, rfl⟩
   obtain ⟨n, hn⟩ : ∃ n, v.n = n := ⟨_, rfl⟩
   have HD' := HD.out
   rw [hs, hk, hn] at HD'
   rw [hs] at q0
   rw [hk] at q1
   rw [hn] at q2
   clear HD hf hs hk hn
   have HD := Lib.hid HD'
   clear HD'
   go_wp2_with fail
   refine (Name_any s _).mono ?_
   rintro e w1 ⟨rfl, bw1⟩
   have q1' : Below w.heap.size w w1 := (hb.alloc hb.size _).trans (bw1.mono (by have := hb.size; simp; omega))
   have x1 : w1.cell? ⟨wr.heap.size, 1, none⟩ = some (.int .u8 k) := cell_bl bw1 (by simp)
   have x2 : w1.cell? ⟨wr.heap.size, 2, none⟩ = some (.int .i64 n) := cell_bl bw1 (by simp)
   have HD' := HD.out
   clear bw1
   cases hnm : nameB s
   ·rw [hnm] at HD'
    have HR := Lib.hid (HN.out (by rw [HD']; rfl))
    clear HD'
    go_wp2_with fail
    go_ret
    exact ⟨by rw [HR.out]; rfl, q1'⟩
   rw [hnm, Bool.true_and] at HD'
   by_cases h13 : k = 1 ∨ k = 3
   ·rw [if_pos h13] at HD'
    by_cases hn0 : n = 0
    ·subst hn0
     have HG := Lib.hid (show (vs.take (j + 1)).all declB = true by rw [HT.out, HD']; rfl)
     clear HD'
     rcases h13 with rfl | rfl
     ·go_wp2_with fail
      go_roundw
      case rel => exact ⟨j + 1, by omega, by go_num, q1', HG⟩
      case measure => simp [intOf]; omega
     ·go_wp2_with fail
      go_roundw
      case rel => exact ⟨j + 1, by omega, by go_num, q1', HG⟩
      case measure => simp [intOf]; omega
    ·have fn : (n != 0) = true := by simpa using hn0
     have HR := Lib.hid (HN.out (by rw [HD']; simpa using hn0))
     clear HD'
     rcases h13 with rfl | rfl
     ·go_wp2_with fail
      go_ret
      exact ⟨by rw [HR.out]; rfl, q1'⟩
     ·go_wp2_with fail
      go_ret
      exact ⟨by rw [HR.out]; rfl, q1'⟩
   ·rw [if_neg h13] at HD'
    have f1 : (k == 1) = false := by simp; omega
    have f3 : (k == 3) = false := by simp; omega
    by_cases h2 : k = 2
    ·subst h2
     rw [if_pos rfl] at HD'
     by_cases hl1 : n < 1
     ·have HR := Lib.hid (HN.out (by rw [HD']; simp; omega))
      clear HD'
      go_wp2_with fail
      go_ret
      exact ⟨by rw [HR.out]; rfl, q1'⟩
     ·by_cases hg16 : 16 < n
      ·have HR := Lib.hid (HN.out (by rw [HD']; simp; omega))
       have hl1' : 1 ≤ n := by omega
       clear HD' hl1
       go_wp2_with fail
       go_ret
       exact ⟨by rw [HR.out]; rfl, q1'⟩
      ·have HG := Lib.hid (show (vs.take (j + 1)).all declB = true by rw [HT.out, HD']; simp; omega)
       have hl1' : 1 ≤ n := by omega
       have hg16' : n ≤ 16 := by omega
       clear HD' hl1 hg16
       go_wp2_with fail
       go_roundw
       case rel => exact ⟨j + 1, by omega, by go_num, q1', HG⟩
       case measure => simp [intOf]; omega
    ·rw [if_neg h2] at HD'
     have f2 : (k == 2) = false := by simpa using h2
     have HR := Lib.hid (HN.out HD')
     clear HD'
     go_wp2_with fail
     go_ret
     exact ⟨by rw [HR.out]; rfl, q1'⟩
  ·obtain rfl : j = vs.length := by omega
   have HR := Lib.hid (show vs.all declB = true by have := HA.out; rw [List.take_of_length_le (by omega)] at this; exact this)
   go_wp2_with fail
   go_ret
   exact ⟨by rw [HR.out]; rfl, hb⟩
def procB (r : PR) : Bool := nameB r.s && decide (r.ps.length ≤ 8) && r.ps.all declB && isBodyB r.b
def validB (p : PG) : Bool := decide (p.vs.length ≤ 32) && decide (p.prs.length ≤ 64) && p.vs.all declB && p.prs.all procB && isBodyB p.m
theorem pall_take {vs : List PR} {f : PR → Bool} {j : Nat} (hj : j < vs.length) (h : (vs.take j).all f = true) : (vs.take (j + 1)).all f = f vs[j] := by
 rw [List.take_succ_eq_append_getElem hj, List.all_append, h]; simp
theorem pall_none {vs : List PR} {f : PR → Bool} {j : Nat} (hj : j < vs.length) (h : f vs[j] = false) : vs.all f = false := by
 simp only [List.all_eq_false]
 exact ⟨vs[j], List.getElem_mem hj, by simp [h]⟩
set_option maxHeartbeats 4000000 in
set_option maxRecDepth 100000 in
theorem Valid_any (p : PG) (S : Nat → Prop) (v : Value) (w : World) (hv : PV w S p v) : Calls Tryz.prog 20 #[v] w fun e w' => e = .returned (.bool (validB p)) ∧ Below w.heap.size w w' := by
 obtain ⟨A1, c1, A2, c2, A3, c3, rfl, hr⟩ := hv
 have HR := Lib.hid hr
 have hv1 := LV_int hr.lv
 have hv2 := LV_int hr.lp
 have HX := Lib.hid (show validB p = (decide (p.vs.length ≤ 32) && decide (p.prs.length ≤ 64) && p.vs.all declB && p.prs.all procB && isBodyB p.m) from rfl)
 have hlc2 := hr.lpc
 obtain ⟨L1, hL1⟩ : ∃ L, p.vs.length = L := ⟨_, rfl⟩
 obtain ⟨L2, hL2⟩ : ∃ L, p.prs.length = L := ⟨_, rfl⟩
 obtain ⟨k, hk⟩ : ∃ k, p.m.k = k := ⟨_, rfl⟩
 obtain ⟨n, hn⟩ : ∃ n, p.m.n = n := ⟨_, rfl⟩
 obtain ⟨s, hs⟩ : ∃ s, p.m.s = s := ⟨_, rfl⟩
 obtain ⟨l3, hl3⟩ : ∃ l, p.m.ks.length = l := ⟨_, rfl⟩
 have HL1 := Lib.hid hL1
 have HL2 := Lib.hid hL2
 have hm := hr.main
 rw [hk, hn, hs, hl3] at hm
 have HM := Lib.hid hm
 have hx := HX.out
 rw [hL1, hL2] at hx
 rw [hL1] at hv1
 rw [hL2] at hv2 hlc2
 rw [hL1, hL2, hk, hn, hs, hl3]
 clear hr hm HX hL1 hL2 hk hn hs hl3
 have HX := Lib.hid hx
 clear hx
 have hb0 : ∀ o, Below w.heap.size w (w.alloc o) := fun o => (Below.refl _ _).alloc (Nat.le_refl _) _
 have HB0 := Lib.hid hb0
 clear hb0
 have HDC := Lib.hid (show ∀ w', Below w.heap.size w w' → Calls Tryz.prog 35 #[.slice A1 L1 c1] w' fun e w'' => e = .returned (.bool (p.vs.all declB)) ∧ Below w'.heap.size w' w'' from fun w' h => by
  have := declared_any p.vs A1 c1 S w' (HR.out.vars.later h) HR.out.lv HR.out.lvc
  rw [HL1.out] at this
  exact this)
 by_cases h32 : 32 < L1
 ·have HF := Lib.hid (show validB p = false by rw [HX.out]; simp; intro h; omega)
  have h32' : (32 : Int) < (L1 : Int) := by omega
  go_enter Tryz.func20, Tryz.ntmps20
  go_wp2_with fail
  go_ret
  exact ⟨by rw [HF.out]; rfl, HB0.out _⟩
 by_cases h64 : 64 < L2
 ·have HF := Lib.hid (show validB p = false by rw [HX.out]; simp; intro _ h; omega)
  have h32' : (L1 : Int) ≤ 32 := by omega
  have h64' : (64 : Int) < (L2 : Int) := by omega
  clear h32
  go_enter Tryz.func20, Tryz.ntmps20
  go_wp2_with fail
  go_ret
  exact ⟨by rw [HF.out]; rfl, HB0.out _⟩
 have h32' : (L1 : Int) ≤ 32 := by omega
 have h64' : (L2 : Int) ≤ 64 := by omega
 have hx := HX.out
 have e1 : L1 ≤ 32 := by omega
 have e2 : L2 ≤ 64 := by omega
 rw [decide_eq_true e1, decide_eq_true e2] at hx
 simp only [Bool.true_and] at hx
 clear HX h32 h64 e1 e2
 have HX := Lib.hid hx
 clear hx
 go_enter Tryz.func20, Tryz.ntmps20
 go_wp2_with fail
 refine (HDC.out _ (HB0.out _)).mono ?_
 rintro e w1 ⟨rfl, bw1⟩
 have q1 : Below w.heap.size w w1 := (HB0.out _).trans (bw1.mono (by simp))
 have hbx : w1.heap[w.heap.size]? = some (.cells #[.slice A1 L1 c1, .slice A2 L2 c2, .int .u8 k, .int .i64 n, .string s, .slice A3 l3 c3] 28 (0, 0)) := (bw1.block _ (by simp)).trans (heap_alloc_new w _)
 have x1 : w1.cell? ⟨w.heap.size, 1, none⟩ = some (.slice A2 L2 c2) := cell_of_blk hbx rfl
 have hx := HX.out
 clear bw1 HDC
 cases hd : p.vs.all declB
 ·rw [hd] at hx
  have HF := Lib.hid (show validB p = false by rw [hx]; rfl)
  clear hx
  go_wp2_with fail
  go_ret
  exact ⟨by rw [HF.out]; rfl, q1⟩
 rw [hd, Bool.true_and] at hx
 have HX2 := Lib.hid hx
 have HBX := Lib.hid hbx
 clear hx HX hd hbx
 go_wp2_with fail
 go_loopw [24] (fun i wr => ∃ j : Nat, j ≤ L2 ∧ i = .int .i64 j ∧ Below w1.heap.size w1 wr ∧ Hid ((p.prs.take j).all procB = true)) (fun i _ => L2 - (intOf i).toNat)
 case atStart => exact ⟨0, Nat.zero_le _, rfl, Below.refl _ _, Lib.hid (by simp)⟩
 case round =>
  obtain ⟨j, hj, rfl, hb, HA⟩ := hrel
  have hq : Below w.heap.size w wr := q1.trans (hb.mono q1.size)
  by_cases hlt : j < L2
  ·have hlt' : j < p.prs.length := by rw [HL2.out]; exact hlt
   obtain ⟨a, r, B1, d1, B2, d2, rfl, _, Hr, ⟨z0, z1, z2, z3, z4, z5⟩, hrr⟩ := (HR.out.procs.later hq).nd hlt'
   have HRR := Lib.hid hrr
   have HT := Lib.hid (show (p.prs.take (j + 1)).all procB = procB r by rw [pall_take hlt' HA.out, Hr.out])
   have HN := Lib.hid (show procB r = false → validB p = false from fun h => by rw [HX2.out, pall_none hlt' (by rw [Hr.out]; exact h)]; rfl)
   have HPB := Lib.hid (show procB r = (nameB r.s && decide (r.ps.length ≤ 8) && r.ps.all declB && isBodyB r.b) from rfl)
   have hd1 := LV_int hrr.lp
   clear hrr
   have HDC := Lib.hid (show ∀ w', Below wr.heap.size wr w' → Calls Tryz.prog 35 #[.slice B1 r.ps.length d1] w' fun e w'' => e = .returned (.bool (r.ps.all declB)) ∧ Below w'.heap.size w' w'' from fun w' h => declared_any r.ps B1 d1 S w' (HRR.out.row.later h) HRR.out.lp HRR.out.lc)
   have HBD := Lib.hid (show ∀ w', Below wr.heap.size wr w' → NV w' Any r.b (nv r.b.k r.b.n r.b.s B2 r.b.ks.length d2) from fun w' h => (HRR.out.body.later h).any)
   obtain ⟨rs, hrs⟩ : ∃ s, r.s = s := ⟨_, rfl⟩
   obtain ⟨rl, hrl⟩ : ∃ l, r.ps.length = l := ⟨_, rfl⟩
   obtain ⟨bk, hbk⟩ : ∃ k, r.b.k = k := ⟨_, rfl⟩
   obtain ⟨bn, hbn⟩ : ∃ k, r.b.n = k := ⟨_, rfl⟩
   obtain ⟨bs, hbs⟩ : ∃ k, r.b.s = k := ⟨_, rfl⟩
   obtain ⟨bl, hbl⟩ : ∃ k, r.b.ks.length = k := ⟨_, rfl⟩
   have hpb := HPB.out
   have hdc := HDC.out
   have hbd := HBD.out
   rw [hrs] at z0 hpb
   rw [hrl] at z1 hpb hdc hd1
   rw [hbk] at z2 hbd
   rw [hbn] at z3 hbd
   rw [hbs] at z4 hbd
   rw [hbl] at z5 hbd
   clear HPB HDC HBD HRR hrs hrl hbk hbn hbs hbl
   have HPB := Lib.hid hpb
   have HDC := Lib.hid hdc
   have HBD := Lib.hid hbd
   clear hpb hdc hbd
   go_wp2_with fail
   refine (Name_any rs _).mono ?_
   rintro e w2 ⟨rfl, bw2⟩
   have b2 : Below wr.heap.size wr w2 := ((Below.refl _ _).alloc (Nat.le_refl _) _).trans (bw2.mono (by simp))
   have hbx : w2.heap[wr.heap.size]? = some (.cells #[.string rs, .slice B1 rl d1, .int .u8 bk, .int .i64 bn, .string bs, .slice B2 bl d2] 61 (0, 0)) := (bw2.block _ (by simp)).trans (heap_alloc_new wr _)
   have u1 : w2.cell? ⟨wr.heap.size, 1, none⟩ = some (.slice B1 rl d1) := cell_of_blk hbx rfl
   have hpb := HPB.out
   clear bw2
   cases hnm : nameB rs
   ·rw [hnm] at hpb
    have HF := Lib.hid (HN.out (by rw [hpb]; rfl))
    clear hpb
    go_wp2_with fail
    go_ret
    exact ⟨by rw [HF.out]; rfl, hq.trans (b2.mono hq.size)⟩
   rw [hnm, Bool.true_and] at hpb
   by_cases h8 : 8 < rl
   ·have HF := Lib.hid (HN.out (by rw [hpb]; simp; intro h; omega))
    have h8' : (8 : Int) < (rl : Int) := by omega
    clear hpb
    go_wp2_with fail
    go_ret
    exact ⟨by rw [HF.out]; rfl, hq.trans (b2.mono hq.size)⟩
   rw [decide_eq_true (show rl ≤ 8 by omega), Bool.true_and] at hpb
   have h8' : (rl : Int) ≤ 8 := by omega
   have HPC := Lib.hid hpb
   have HBX2 := Lib.hid hbx
   clear hpb HPB h8 hbx
   go_wp2_with fail
   refine (HDC.out _ b2).mono ?_
   rintro e w3 ⟨rfl, bw3⟩
   have b3 := b2.trans (bw3.mono b2.size)
   have hbx : w3.heap[wr.heap.size]? = some (.cells #[.string rs, .slice B1 rl d1, .int .u8 bk, .int .i64 bn, .string bs, .slice B2 bl d2] 61 (0, 0)) := (bw3.block _ (blk_lt HBX2.out)).trans HBX2.out
   have u2 : w3.cell? ⟨wr.heap.size, 2, none⟩ = some (.int .u8 bk) := cell_of_blk hbx rfl
   have u3 : w3.cell? ⟨wr.heap.size, 3, none⟩ = some (.int .i64 bn) := cell_of_blk hbx rfl
   have u4 : w3.cell? ⟨wr.heap.size, 4, none⟩ = some (.string bs) := cell_of_blk hbx rfl
   have u5 : w3.cell? ⟨wr.heap.size, 5, none⟩ = some (.slice B2 bl d2) := cell_of_blk hbx rfl
   have hpb := HPC.out
   clear bw3 u1 hbx
   cases hdd : r.ps.all declB
   ·rw [hdd] at hpb
    have HF := Lib.hid (HN.out (by rw [hpb]; rfl))
    clear hpb
    go_wp2_with fail
    go_ret
    exact ⟨by rw [HF.out]; rfl, hq.trans (b3.mono hq.size)⟩
   rw [hdd, Bool.true_and] at hpb
   have HPD := Lib.hid hpb
   clear hpb HPC hdd
   go_wp2_with fail
   refine (isBody_any r.b _ _ (HBD.out _ b3)).mono ?_
   rintro e w4 ⟨rfl, bw4⟩
   have b4 := b3.trans (bw4.mono b3.size)
   have hpb := HPD.out
   clear bw4 u2 u3 u4 u5
   cases hbb : isBodyB r.b
   ·rw [hbb] at hpb
    have HF := Lib.hid (HN.out hpb)
    clear hpb
    go_wp2_with fail
    go_ret
    exact ⟨by rw [HF.out]; rfl, hq.trans (b4.mono hq.size)⟩
   ·rw [hbb] at hpb
    have HG := Lib.hid (show (p.prs.take (j + 1)).all procB = true by rw [HT.out]; exact hpb)
    have HQ4 := Lib.hid (hb.trans (b4.mono hb.size))
    clear hpb
    go_wp2_with fail
    go_roundw
    case rel => exact ⟨j + 1, by omega, by go_num, HQ4.out, HG⟩
    case measure => simp [intOf]; omega
  ·obtain rfl : j = L2 := by omega
   have HF := Lib.hid (show validB p = isBodyB p.m by rw [HX2.out]; have := HA.out; rw [List.take_of_length_le (by rw [HL2.out]; omega)] at this; rw [this]; rfl)
   have hbx : wr.heap[w.heap.size]? = some (.cells #[.slice A1 L1 c1, .slice A2 j c2, .int .u8 k, .int .i64 n, .string s, .slice A3 l3 c3] 28 (0, 0)) := (hb.block _ (blk_lt HBX.out)).trans HBX.out
   have y2 : wr.cell? ⟨w.heap.size, 2, none⟩ = some (.int .u8 k) := cell_of_blk hbx rfl
   have y3 : wr.cell? ⟨w.heap.size, 3, none⟩ = some (.int .i64 n) := cell_of_blk hbx rfl
   have y4 : wr.cell? ⟨w.heap.size, 4, none⟩ = some (.string s) := cell_of_blk hbx rfl
   have y5 : wr.cell? ⟨w.heap.size, 5, none⟩ = some (.slice A3 l3 c3) := cell_of_blk hbx rfl
   go_wp2_with fail
   refine (isBody_any p.m _ _ (HM.out.later hq).any).mono ?_
   rintro e w2 ⟨rfl, bw2⟩
   go_wp2_with fail
   go_ret
   exact ⟨by rw [HF.out]; rfl, hq.trans (bw2.mono hq.size)⟩
end Go.Proofs.YtgnfpcebmefhoaaGreat
namespace Go.Proofs.YtgnfpcebmefhoaaGreat
open Go.RowKit
def freshE (vs : List VD) (s : ByteArray) : Int := if (findV vs s).isSome then 22 else 0
def useE (vs : List VD) (s : ByteArray) (k : Int) : Int := match findV vs s with
 | none => 6
 | some v => if v.k = k then 0 else 7
set_option maxHeartbeats 1000000 in
theorem fresh_any (vs : List VD) (A : Option Addr) (c : Nat) (s : ByteArray) (S : Nat → Prop) (w : World) (hrow : RowV w S A vs) (hl : vs.length ≤ LV) :
  Calls Tryz.prog 39 #[.slice A vs.length c, .string s] w fun e w' => e = .returned (.int .i64 (freshE vs s)) ∧ Below w.heap.size w w' := by
 have HROW := Lib.hid hrow
 have HL := Lib.hid hl
 obtain ⟨E, hE⟩ : ∃ E, freshE vs s = E := ⟨_, rfl⟩
 rw [hE]
 have HE := Lib.hid hE
 clear hrow hl hE
 go_enter Tryz.func39, Tryz.ntmps39
 go_wp2_with fail
 refine (Find_any vs A c s S _ HROW.out HL.out).mono ?_
 rintro e w1 ⟨rfl, bw1⟩
 cases hf : findV vs s with
 | none =>
  have HN := Lib.hid (show E = 0 by rw [← HE.out]; simp [freshE, hf])
  have HB := Lib.hid (show Below w.heap.size w (w1.alloc (.cells #[.string ⟨#[]⟩, .int .u8 0, .int .i64 0] 58)) from bw1.alloc bw1.size _)
  clear hf bw1
  go_wp2_with fail
  go_ret
  exact ⟨by rw [HN.out]; rfl, HB.out⟩
 | some v =>
  have HN := Lib.hid (show E = 22 by rw [← HE.out]; simp [freshE, hf])
  have HB := Lib.hid (show Below w.heap.size w (w1.alloc (.cells #[.string v.s, .int .u8 v.k, .int .i64 v.n] 58)) from bw1.alloc bw1.size _)
  clear hf bw1
  go_wp2_with fail
  go_ret
  exact ⟨by rw [HN.out]; rfl, HB.out⟩
set_option maxHeartbeats 1000000 in
theorem use_any (vs : List VD) (A : Option Addr) (c : Nat) (s : ByteArray) (k : Int) (S : Nat → Prop) (w : World) (hrow : RowV w S A vs) (hl : vs.length ≤ LV) :
  Calls Tryz.prog 93 #[.slice A vs.length c, .string s, .int .u8 k] w fun e w' => e = .returned (.int .i64 (useE vs s k)) ∧ Below w.heap.size w w' := by
 have HROW := Lib.hid hrow
 have HL := Lib.hid hl
 obtain ⟨E, hE⟩ : ∃ E, useE vs s k = E := ⟨_, rfl⟩
 rw [hE]
 have HE := Lib.hid hE
 clear hrow hl hE
 go_enter Tryz.func93, Tryz.ntmps93
 go_wp2_with fail
 refine (Find_any vs A c s S _ HROW.out HL.out).mono ?_
 rintro e w1 ⟨rfl, bw1⟩
 cases hf : findV vs s with
 | none =>
  have HN := Lib.hid (show E = 6 by rw [← HE.out]; simp [useE, hf])
  have HB := Lib.hid (show Below w.heap.size w (w1.alloc (.cells #[.string ⟨#[]⟩, .int .u8 0, .int .i64 0] 58)) from bw1.alloc bw1.size _)
  clear hf bw1
  go_wp2_with fail
  go_ret
  exact ⟨by rw [HN.out]; rfl, HB.out⟩
 | some v =>
  obtain ⟨vm, vk, vl⟩ := v
  have HB2 := Lib.hid (show Below w.heap.size w (w1.alloc (.cells #[.string vm, .int .u8 vk, .int .i64 vl] 58)) from bw1.alloc bw1.size _)
  have HN := Lib.hid (show E = if vk = k then 0 else 7 by rw [← HE.out]; simp [useE, hf])
  clear hf bw1
  by_cases hk : vk = k
  ·have e1 : (vk == k) = true := by simpa using hk
   have e2 : (vk != k) = false := by simpa using hk
   have HN2 := Lib.hid (show E = 0 by rw [HN.out, if_pos hk])
   clear hk
   go_wp2_with fail
   go_ret
   exact ⟨by rw [HN2.out]; rfl, HB2.out⟩
  ·have e1 : (vk == k) = false := by simpa using hk
   have e2 : (vk != k) = true := by simpa using hk
   have HN2 := Lib.hid (show E = 7 by rw [HN.out, if_neg hk])
   clear hk
   go_wp2_with fail
   go_ret
   exact ⟨by rw [HN2.out]; rfl, HB2.out⟩
def idxP (ps : List PR) (s : ByteArray) : Option Nat := ps.findIdx? fun r => r.s.toList == s.toList
def procE (ps : List PR) (s : ByteArray) : Int := match idxP ps s with
 | some i => i
 | none => -1
set_option maxHeartbeats 1000000 in
theorem Proc1_any (rs : ByteArray) (u1 u2 u3 u4 u5 : Value) (s : ByteArray) (nb : Nat) (w : World) (hc : w.cell? ⟨nb, 0, none⟩ = some (.string s)) :
  Calls Tryz.prog 61 #[.agg #[.string rs, u1, u2, u3, u4, u5], .pointer (some ⟨nb, 0, none⟩)] w fun e w' => e = .returned (.bool (rs.toList == s.toList)) ∧ Below w.heap.size w w' := by
 have hc' := cell_al hc
 go_enter Tryz.func61, Tryz.ntmps61
 go_wp2_with fail
 go_ret
 exact ⟨rfl, (Below.refl _ _).alloc (Nat.le_refl _) _⟩
set_option maxHeartbeats 2000000 in
theorem IndexFuncP_any (ps : List PR) (A : Option Addr) (c : Nat) (s : ByteArray) (nb : Nat) (S : Nat → Prop) (w : World) (hrow : RowP w S A ps) (hl : ps.length ≤ LV) (hc : w.cell? ⟨nb, 0, none⟩ = some (.string s)) :
  Calls Tryz.prog 60 #[.slice A ps.length c, .func (.func 61) #[] #[.pointer (some ⟨nb, 0, none⟩)]] w fun e w' => e = .returned (.int .i64 (procE ps s)) ∧ Below w.heap.size w w' := by
 have hl' := LV_int hl
 have HROW := Lib.hid hrow
 have HC := Lib.hid hc
 obtain ⟨R, hR⟩ : ∃ R, procE ps s = R := ⟨_, rfl⟩
 rw [hR]
 have HR := Lib.hid hR
 clear hrow hl hc hR
 go_enter Tryz.func60, Tryz.ntmps60
 go_wp2_with fail
 go_loopw [8] (fun i wr => ∃ j : Nat, j ≤ ps.length ∧ i = .int .i64 j ∧ Below w.heap.size w wr ∧ Hid (∀ q (h : q < ps.length), q < j → (ps[q].s.toList == s.toList) = false)) (fun i _ => ps.length - (intOf i).toNat)
 case atStart => exact ⟨0, Nat.zero_le _, rfl, Below.refl _ _, Lib.hid fun q _ h => by omega⟩
 case round =>
  obtain ⟨j, hj, rfl, hbl, HJ⟩ := hrel
  by_cases hlt : j < ps.length
  ·obtain ⟨a, r, B1, f1, B2, f2, rfl, _, Hr, ⟨q0, q1, q2, q3, q4, q5⟩, -⟩ := (HROW.out.later hbl).nd hlt
   obtain ⟨b, hb⟩ : ∃ b, (r.s.toList == s.toList) = b := ⟨_, rfl⟩
   have HB := Lib.hid hb
   clear hb
   go_wp2_with fail
   refine (Proc1_any r.s _ _ _ _ _ s nb _ (cell_bl hbl HC.out)).mono ?_
   rintro e w1 ⟨rfl, bw1⟩
   rw [HB.out]
   have HBL := Lib.hid (bl_tt hbl bw1)
   clear bw1 q0 q1 q2 q3 q4 q5
   cases b
   ·have HJ2 := Lib.hid (show ∀ q (h : q < ps.length), q < j + 1 → (ps[q].s.toList == s.toList) = false from fun q h hq => by
     by_cases e : q < j
     ·exact HJ.out q h e
     ·obtain rfl : q = j := by omega
      rw [Hr.out]; exact HB.out)
    go_wp2_with fail
    go_roundw
    case rel => exact ⟨j + 1, by omega, by go_num, HBL.out, HJ2⟩
    case measure => simp [intOf]; omega
   ·have HN := Lib.hid (show R = j by
     rw [← HR.out]
     have : idxP ps s = some j := List.findIdx?_eq_some_iff_getElem.2 ⟨hlt, by rw [Hr.out]; exact HB.out, fun q hq => by rw [HJ.out q (by omega) hq]; simp⟩
     simp [procE, this])
    go_wp2_with fail
    go_ret
    exact ⟨by rw [HN.out]; rfl, HBL.out⟩
  ·have HN := Lib.hid (show R = -1 by
    rw [← HR.out]
    have : idxP ps s = none := List.findIdx?_eq_none_iff.2 fun r hr => by
     obtain ⟨q, hq, rfl⟩ := List.getElem_of_mem hr
     exact HJ.out q hq (by omega)
    simp [procE, this])
   have HBL := Lib.hid hbl
   clear hbl
   go_wp2_with fail
   go_ret
   exact ⟨by rw [HN.out]; rfl, HBL.out⟩
set_option maxHeartbeats 2000000 in
theorem Proc_any (p : PG) (S : Nat → Prop) (v : Value) (s : ByteArray) (w : World) (hv : PV w S p v) : Calls Tryz.prog 40 #[v, .string s] w fun e w' => e = .returned (.int .i64 (procE p.prs s)) ∧ Below w.heap.size w w' := by
 obtain ⟨A1, c1, A2, c2, A3, c3, rfl, hr⟩ := hv
 have HR := Lib.hid hr
 obtain ⟨L1, hL1⟩ : ∃ L, p.vs.length = L := ⟨_, rfl⟩
 rw [hL1]
 clear hr hL1
 go_enter Tryz.func40, Tryz.ntmps40
 go_wp2_with fail
 refine (IndexFuncP_any p.prs A2 c2 s (w.heap.size + 1) S _ (HR.out.procs.later (bl_al (bl_al (Below.refl _ _) _) _)) HR.out.lp (by simp)).mono ?_
 rintro e w1 ⟨rfl, bw1⟩
 have HB := Lib.hid (bl_tt (bl_al (bl_al (Below.refl w.heap.size w) _) _) bw1)
 clear bw1
 go_wp2_with fail
 go_ret
 exact ⟨rfl, HB.out⟩
end Go.Proofs.YtgnfpcebmefhoaaGreat
namespace Go.Proofs.YtgnfpcebmefhoaaGreat
open Go Go.RowKit
theorem prcI_idx : ∀ (prs : List PR) (s : ByteArray) (i : Nat), prcI prs s = some i → procE prs s = (i : Int) ∧ i < prs.length
 | [], _, _, h => by simp [prcI] at h
 | q :: qs, s, i, h => by
  unfold prcI at h
  unfold procE idxP
  rw [List.findIdx?_cons]
  split at h
  ·rename_i h0
   injection h with h
   subst h
   rw [if_pos h0]
   exact ⟨rfl, by simp⟩
  ·rename_i h0
   rw [if_neg h0]
   obtain ⟨j, hj, rfl⟩ := Option.map_eq_some_iff.1 h
   have h5 := prcI_idx qs s j hj
   unfold procE idxP at h5
   cases hf : List.findIdx? (fun r => r.s.toList == s.toList) qs with
   | none =>
    rw [hf] at h5
    have h6 : (-1 : Int) = (j : Int) := h5.1
    omega
   | some m =>
    rw [hf] at h5
    have h6 : (m : Int) = (j : Int) := h5.1
    exact ⟨by show ((m + 1 : Nat) : Int) = ((j + 1 : Nat) : Int); omega, by have := h5.2; simp; omega⟩
def strA (l : List ByteArray) : Array Value := (l.map Value.string).toArray
theorem strInf : (Tryz.prog.info? 9).map (fun i => (i.zero, i.size, i.bytes)) = some (some (.string ⟨#[]⟩), 1, 16) := by kernel_rfl
theorem made_str (n : Nat) : madeCells (Value.string ⟨#[]⟩).cells (n * 1) = strA (List.replicate n ⟨#[]⟩) := by
 unfold strA
 apply Array.ext'
 apply List.ext_getElem
 ·rw [Array.length_toList, size_madeCells]; simp
 ·intro i h1 h2
  have e : i % 1 = 0 := by omega
  simp [madeCells, Value.cells, e]
set_option maxRecDepth 100000 in
theorem bMakeS (n : Nat) (hn : n ≤ 17592186044416) (w : World) : (Instr.makeSlice 95 (.int .i64 (n : Int)) (.int .i64 (n : Int))).run Tryz.prog w = .ok (.slice (some ⟨w.heap.size, 0, none⟩) n n) (w.alloc (.cells (strA (List.replicate n ⟨#[]⟩)) 9)) := by
 have h := strInf
 obtain ⟨i, hi, hz⟩ := Option.map_eq_some_iff.1 h
 injection hz with h1 h2
 injection h2 with h2 h3
 have := run_make_rowN (P := Tryz.prog) 95 9 i (.string ⟨#[]⟩) Tryz.underlying95 hi h1 .i64 .i64 n n (Nat.le_refl _) (by rw [h3]; omega) (by omega) w
 rw [h2, made_str] at this
 exact this
def argL (ks : List T) (j : Nat) : List ByteArray := (ks.take j).map (·.s) ++ List.replicate (ks.length - j) ⟨#[]⟩
theorem argL_0 (ks : List T) : argL ks 0 = List.replicate ks.length ⟨#[]⟩ := by simp [argL]
theorem argL_all (ks : List T) : argL ks ks.length = ks.map (·.s) := by simp [argL]
theorem argL_len (ks : List T) {j : Nat} (hj : j ≤ ks.length) : (argL ks j).length = ks.length := by simp [argL]; omega
theorem argL_set (ks : List T) {j : Nat} (hj : j < ks.length) : (strA (argL ks j)).setIfInBounds j (.string ks[j].s) = strA (argL ks (j + 1)) := by
 unfold strA
 rw [List.setIfInBounds_toArray, ← List.map_set]
 congr 2
 unfold argL
 refine List.ext_getElem (by simp; omega) fun i h1 h2 => ?_
 rw [List.getElem_set]
 simp only [List.length_append, List.length_map, List.length_take, List.length_replicate, List.length_set] at h1 h2
 by_cases e : j = i
 ·subst e
  rw [if_pos rfl, List.getElem_append_left (by simp; omega)]
  simp
 ·rw [if_neg e]
  by_cases hi : i < j
  ·rw [List.getElem_append_left (by simp; omega), List.getElem_append_left (by simp; omega)]
   simp
  ·rw [List.getElem_append_right (by simp; omega), List.getElem_append_right (by simp; omega)]
   simp
theorem strA_row {W : World} {b : Nat} {E : TypeId} {l : List ByteArray} (h : W.heap[b]? = some (.cells (strA l) E (0, 0))) : RowS W (some ⟨b, 0, none⟩) l := fun i hi => by
 have ha : (⟨b, 0, none⟩ : Addr).add i = ⟨b, i, none⟩ := by rw [Addr.add_lit, Nat.zero_add]
 refine ⟨⟨b, 0, none⟩, rfl, ?_⟩
 rw [ha]
 simp only [World.cell?, h]
 simp [strA, hi]
theorem RI.count {C : RC} (hC : C.Ok) {W : World} {r : RS} (h : RI C W r) {i : Nat} (hi : i < r.ent.length) (hn : r.ent.getD i 0 + 1 ≤ r.n) :
  ∃ g c, C.ev = .slice (some ⟨g, 0, none⟩) r.ent.length c ∧ W.cell? ⟨g, i, none⟩ = some (.int .i64 (r.ent.getD i 0 : Nat)) ∧ W.frozen? ⟨g, i, none⟩ = false ∧
   RI C (W.setCell ⟨g, i, none⟩ (.int .i64 ((r.ent.getD i 0 + 1 : Nat) : Int))) { r with ent := r.ent.set i (r.ent.getD i 0 + 1) } ∧ Kpt C.n0 C.kb W (W.setCell ⟨g, i, none⟩ (.int .i64 ((r.ent.getD i 0 + 1 : Nat) : Int))) := by
 obtain ⟨e1, h2⟩ := h.ent
 rcases h2 with h2 | ⟨g, cap, cur, hev, hb, hg, hcap, hlen, hsz, hcur⟩
 ·have hn0 : r.ent.length = 0 := h2.2
  omega
 ·have hcz : cur[i]? = some (.int .i64 (r.ent.getD i 0 : Nat)) := by
   have h3 : (flatI (r.ent.map Int.ofNat))[i]? = some (.int .i64 (r.ent.getD i 0 : Nat)) := by simp [flatI, hi]
   rw [← hcur, List.getElem?_take] at h3
   split at h3
   ·simpa using h3
   ·cases h3
  have hci : i < cur.size := by
   rcases Nat.lt_or_ge i cur.size with h | h
   ·exact h
   ·rw [Array.getElem?_eq_none h] at hcz; cases hcz
  have hrb : g ≠ C.rb := fun e => hC.ev.1 (by rw [hev, ← e]; rfl)
  have hkb : ¬ C.kb g := hC.ev.2 g (by rw [hev]; rfl)
  have hch : Chg (fun b => b = g) W (W.setCell ⟨g, i, none⟩ (.int .i64 ((r.ent.getD i 0 + 1 : Nat) : Int))) := (Chg.refl (fun b => b = g) W).setCell (p := ⟨g, i, none⟩) (.inl rfl) _
  have hnn := h.ks.hn
  refine ⟨g, cap, hev, cell_of_blk hg hcz, frozen_of_blk hg, ⟨h.ks.chg hch fun b _ e => ⟨by omega, .inr (.inr (.inr (by rw [hev, e]; rfl)))⟩, ?_, ?_, by simp [h.el], ?_, h.n, h.fb⟩, Kpt.chg hch fun b e => ⟨by omega, by rw [e]; exact hkb⟩⟩
  ·rw [Below.heap_setCell _ _ _ _ (fun e => hrb (by simpa using e.symm))]
   exact h.box
  ·have hs := heap_setCell_same W g i _ _ (.int .i64 ((r.ent.getD i 0 + 1 : Nat) : Int)) hg
   refine ⟨by simp [flatI], .inr ⟨g, cap, _, by rw [hev]; simp, hb, hs, by simpa using hcap, by simpa using hlen, by simpa using hsz, ?_⟩⟩
   have e2 : ((cur.setIfInBounds i (.int .i64 ((r.ent.getD i 0 + 1 : Nat) : Int))).toList.take ((r.ent.set i (r.ent.getD i 0 + 1)).length * 1)) = (cur.toList.take (r.ent.length * 1)).set i (.int .i64 ((r.ent.getD i 0 + 1 : Nat) : Int)) := by
    rw [Array.toList_setIfInBounds, List.length_set, List.take_set]
   rw [e2, hcur]
   simp [flatI, List.map_set]
  ·intro c hc
   rcases List.mem_or_eq_of_mem_set hc with hc | rfl
   ·exact h.en c hc
   ·exact hn
end Go.Proofs.YtgnfpcebmefhoaaGreat
