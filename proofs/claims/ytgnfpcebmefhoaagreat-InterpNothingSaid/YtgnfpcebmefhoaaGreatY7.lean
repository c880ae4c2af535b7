/-
  Texts of the proof, put together without their remarks: Ie, Is, Ic, Iu, Iw, Ix, Iy.
-/
import Derived.Test.YtgnfpcebmefhoaaGreatY6
set_option linter.unusedSimpArgs false
set_option linter.unusedVariables false
namespace Go.Proofs.YtgnfpcebmefhoaaGreat
open Go Go.RowKit
section
variable {P : Program} {ops : Array Oper} {Q : Exit → Act → World → Prop} {md : Region.Mode} {S1 S2 : World → Prop} {k : Nat}
theorem wpG_both {i j : Nat} {o o' : Oper} {fuel : Nat} {listed : Array Bool} {a : Act} {w : World} (hr : Region.ready md ops listed = [i, j]) (ho : ops[i]? = some o) (ho' : ops[j]? = some o')
  (h : ∀ K' : Act → World → Prop, Shut (∀ a w, S1 w ∧ S2 w → wpG P md ops Q S1 S2 k fuel (listed.setIfInBounds i true) a w → K' a w) → if Region.wanted o (yielded ops a.tmps) = true then Oper.wp P o a w K' Q else K' (a.put o.dst undef) w)
  (h' : ∀ K' : Act → World → Prop, Shut (∀ a w, S1 w ∧ S2 w → wpG P md ops Q S1 S2 k fuel (listed.setIfInBounds j true) a w → K' a w) → if Region.wanted o' (yielded ops a.tmps) = true then Oper.wp P o' a w K' Q else K' (a.put o'.dst undef) w) :
  wpG P md ops Q S1 S2 k (fuel + 1) listed a w := by
 refine ⟨(fun h0 => by rw [hr] at h0; cases h0), fun x hx => ?_⟩
 rw [hr] at hx
 simp only [List.mem_cons, List.not_mem_nil, or_false] at hx
 rcases hx with rfl | rfl
 ·exact wpOp_step ho fun K' hK => h K' fun a w hS hW => hK a w ⟨⟨hS.1, fun _ => hS.2⟩, hW⟩
 ·exact wpOp_step ho' fun K' hK => h' K' fun a w hS hW => hK a w ⟨⟨hS.1, fun _ => hS.2⟩, hW⟩
end
theorem set4 {W : World} {b : Nat} {x0 x1 x2 x3 u0 u1 u2 u3 : Value} {E : TypeId} (h : W.heap[b]? = some (.cells #[x0, x1, x2, x3] E (0, 0))) :
  ((((W.setCell ⟨b, 0, none⟩ u0).setCell ⟨b, 1, none⟩ u1).setCell ⟨b, 2, none⟩ u2).setCell ⟨b, 3, none⟩ u3).heap[b]? = some (.cells #[u0, u1, u2, u3] E (0, 0)) ∧
   Chg (fun q => q = b) W ((((W.setCell ⟨b, 0, none⟩ u0).setCell ⟨b, 1, none⟩ u1).setCell ⟨b, 2, none⟩ u2).setCell ⟨b, 3, none⟩ u3) := by
 refine ⟨?_, ((((Chg.refl (fun q => q = b) W).setCell (p := ⟨b, 0, none⟩) (.inl rfl) _).setCell (p := ⟨b, 1, none⟩) (.inl rfl) _).setCell (p := ⟨b, 2, none⟩) (.inl rfl) _).setCell (p := ⟨b, 3, none⟩) (.inl rfl) _⟩
 rw [heap_setCell_same _ b 3 _ _ u3 (heap_setCell_same _ b 2 _ _ u2 (heap_setCell_same _ b 1 _ _ u1 (heap_setCell_same W b 0 _ _ u0 h)))]
 simp
set_option maxHeartbeats 4000000 in
set_option maxRecDepth 100000 in
theorem ends_any (t : T) (v : Value) (back : Bool) (w0 w : World) (hB0 : Below w0.heap.size w0 w) (hv : NV w0 Any t v) (hk : 0 < t.ks.length) : Calls Tryz.prog 132 #[v, .bool back] w fun e W' => ∃ v1 v2, e = .returned (.tuple #[v1, v2]) ∧ NV w0 Any (fstT back t) v1 ∧ NV w0 Any (lstT back t) v2 ∧ Below w.heap.size w W' := by
 have HV := Lib.hid hv
 obtain ⟨A, c, rfl, hf, hlk, hlc, hrow⟩ := hv.open_
 obtain ⟨m, hm⟩ : ∃ m, t.ks.length = m + 1 := ⟨t.ks.length - 1, by omega⟩
 obtain ⟨a, a0, a1, a2, a3, rfl, -, ha, hna⟩ := hrow 0 (by omega)
 obtain ⟨a', b0, b1, b2, b3, e', -, hb, hnb⟩ := hrow m (by omega)
 injection e' with e'
 subst e'
 obtain ⟨t6, ht6⟩ : ∃ x, t.ks[0]'(by omega) = x := ⟨_, rfl⟩
 obtain ⟨t7, ht7⟩ : ∃ x, t.ks[m]'(by omega) = x := ⟨_, rfl⟩
 rw [ht6] at hna
 rw [ht7] at hnb
 have HN6 := Lib.hid hna
 have HN7 := Lib.hid hnb
 have HT6 := Lib.hid (show kid t 0 = t6 by simp [kid, show 0 < t.ks.length by omega, ht6])
 have HT7 := Lib.hid (show kid t (t.ks.length - 1) = t7 by simp [kid, hm, show m < t.ks.length by omega, ht7])
 obtain ⟨A6, c6, e6, -⟩ := hna.open_
 obtain ⟨A7, c7, e7, -⟩ := hnb.open_
 simp only [nv, Value.agg.injEq, Array.mk.injEq, List.cons.injEq, and_true] at e6 e7
 obtain ⟨rfl, rfl, rfl, rfl⟩ := e6
 obtain ⟨rfl, rfl, rfl, rfl⟩ := e7
 clear hna hnb ht6 ht7
 obtain ⟨ha0, ha1, ha2, ha3⟩ := ha
 obtain ⟨hb0, hb1, hb2, hb3⟩ := hb
 simp only [Nat.zero_mul, Addr.add_zero'] at ha0 ha1 ha2 ha3
 replace ha0 := cell_bl hB0 ha0
 replace ha1 := cell_bl hB0 ha1
 replace ha2 := cell_bl hB0 ha2
 replace ha3 := cell_bl hB0 ha3
 replace hb0 := cell_bl hB0 hb0
 replace hb1 := cell_bl hB0 hb1
 replace hb2 := cell_bl hB0 hb2
 replace hb3 := cell_bl hB0 hb3
 clear hB0
 have hwm : IntKind.i64.wrap (m : Int) = (m : Int) := IntWalk.i64_in _ (by unfold LK at hlk; omega)
 have hm0 : (0 : Int) ≤ (m : Int) := by omega
 have hm1 : (m : Int) < ((m : Int) + 1) := by omega
 have hbl : Below w.heap.size w (((w.alloc (.cells #[.int .u8 t.k, .int .i64 t.n, .string t.s, .slice (some a) (m + 1) c] 26)).alloc (.cells #[.int .u8 0, .int .i64 0, .string ⟨#[]⟩, .slice none 0 0] 26)).alloc (.cells #[.int .u8 0, .int .i64 0, .string ⟨#[]⟩, .slice none 0 0] 26)) := bl_al (bl_al (bl_al (Below.refl _ _) _) _) _
 have hk0 := blk_al (blk_al (heap_alloc_new w (.cells #[.int .u8 t.k, .int .i64 t.n, .string t.s, .slice (some a) (m + 1) c] 26)) (.cells #[.int .u8 0, .int .i64 0, .string ⟨#[]⟩, .slice none 0 0] 26)) (.cells #[.int .u8 0, .int .i64 0, .string ⟨#[]⟩, .slice none 0 0] 26)
 have hk4 := blk_al (heap_alloc_new (w.alloc (.cells #[.int .u8 t.k, .int .i64 t.n, .string t.s, .slice (some a) (m + 1) c] 26)) (.cells #[.int .u8 0, .int .i64 0, .string ⟨#[]⟩, .slice none 0 0] 26)) (.cells #[.int .u8 0, .int .i64 0, .string ⟨#[]⟩, .slice none 0 0] 26)
 have hk5 := heap_alloc_new ((w.alloc (.cells #[.int .u8 t.k, .int .i64 t.n, .string t.s, .slice (some a) (m + 1) c] 26)).alloc (.cells #[.int .u8 0, .int .i64 0, .string ⟨#[]⟩, .slice none 0 0] 26)) (.cells #[.int .u8 0, .int .i64 0, .string ⟨#[]⟩, .slice none 0 0] 26)
 simp only [World.size_alloc] at hk4 hk5
 go_enter Tryz.func132, Tryz.ntmps132
 go_upto_region 1 with fail
 obtain ⟨w1, hw1⟩ : ∃ x, ((w.alloc (.cells #[.int .u8 t.k, .int .i64 t.n, .string t.s, .slice (some a) (m + 1) c] 26)).alloc (.cells #[.int .u8 0, .int .i64 0, .string ⟨#[]⟩, .slice none 0 0] 26)).alloc (.cells #[.int .u8 0, .int .i64 0, .string ⟨#[]⟩, .slice none 0 0] 26) = x := ⟨_, rfl⟩
 rw [hw1] at hbl hk0 hk4 hk5 ⊢
 have hSS : (fun w' : World => w'.cell? ⟨w.heap.size, 3, none⟩ = some (.slice (some a) (m + 1) c) ∧ (w'.cell? a = some (.int .u8 t6.k) ∧ w'.cell? ⟨a.block, a.off + 1, none⟩ = some (.int .i64 t6.n) ∧ w'.cell? ⟨a.block, a.off + 2, none⟩ = some (.string t6.s) ∧ w'.cell? ⟨a.block, a.off + 3, none⟩ = some (.slice A6 t6.ks.length c6)) ∧ (w'.cell? (a.add (m * 4)) = some (.int .u8 t7.k) ∧ w'.cell? ⟨(a.add (m * 4)).block, (a.add (m * 4)).off + 1, none⟩ = some (.int .i64 t7.n) ∧ w'.cell? ⟨(a.add (m * 4)).block, (a.add (m * 4)).off + 2, none⟩ = some (.string t7.s) ∧ w'.cell? ⟨(a.add (m * 4)).block, (a.add (m * 4)).off + 3, none⟩ = some (.slice A7 t7.ks.length c7))) w1.drew ∧ (fun _ : World => True) w1.drew := ⟨⟨cell_of_blk hk0 rfl, ⟨cell_bl hbl.drew ha0, cell_bl hbl.drew ha1, cell_bl hbl.drew ha2, cell_bl hbl.drew ha3⟩, ⟨cell_bl hbl.drew hb0, cell_bl hbl.drew hb1, cell_bl hbl.drew hb2, cell_bl hbl.drew hb3⟩⟩, trivial⟩
 have HK4 := Lib.hid (show w1.heap[w.heap.size + 1]? = some (.cells #[.int .u8 0, .int .i64 0, .string ⟨#[]⟩, .slice none 0 0] 26 (0, 0)) from hk4)
 have HK5 := Lib.hid (show w1.heap[w.heap.size + 1 + 1]? = some (.cells #[.int .u8 0, .int .i64 0, .string ⟨#[]⟩, .slice none 0 0] 26 (0, 0)) from hk5)
 have HBL := Lib.hid hbl
 clear hw1 hbl hk0 hk4 hk5 ha0 ha1 ha2 ha3 hb0 hb1 hb2 hb3 hrow HV
 refine wp_region_noPanic ?_
 refine wp_region_G (fun w' : World => w'.cell? ⟨w.heap.size, 3, none⟩ = some (.slice (some a) (m + 1) c) ∧ (w'.cell? a = some (.int .u8 t6.k) ∧ w'.cell? ⟨a.block, a.off + 1, none⟩ = some (.int .i64 t6.n) ∧ w'.cell? ⟨a.block, a.off + 2, none⟩ = some (.string t6.s) ∧ w'.cell? ⟨a.block, a.off + 3, none⟩ = some (.slice A6 t6.ks.length c6)) ∧ (w'.cell? (a.add (m * 4)) = some (.int .u8 t7.k) ∧ w'.cell? ⟨(a.add (m * 4)).block, (a.add (m * 4)).off + 1, none⟩ = some (.int .i64 t7.n) ∧ w'.cell? ⟨(a.add (m * 4)).block, (a.add (m * 4)).off + 2, none⟩ = some (.string t7.s) ∧ w'.cell? ⟨(a.add (m * 4)).block, (a.add (m * 4)).off + 3, none⟩ = some (.slice A7 t7.ks.length c7))) (fun _ : World => True) 15 (by kernel_rfl) ?_
 refine wpG_take1 (i := 0) (v := ?_) rfl (by kernel_rfl) (by kernel_rfl) (by kernel_rfl) (by decide) (fun _ _ _ h => h) (Or.inl ⟨by rfl, ?_⟩) hSS ?_
 rotate_left 1
 ·(intro w hSw; (try dsimp only at hSw); (try simp only [zA, zC]); go_simp; (try with_reducible rfl))
 (try simp only [Act.put, zA, zC, zD, zE, zF])
 refine wpG_take1 (i := 1) (v := ?_) rfl (by kernel_rfl) (by kernel_rfl) (by kernel_rfl) (by decide) (fun _ _ _ h => h) (Or.inl ⟨by rfl, ?_⟩) hSS ?_
 rotate_left 1
 ·(intro w hSw; (try dsimp only at hSw); (try simp only [zA, zB, zC]); go_simp; (try with_reducible rfl))
 (try simp only [Act.put, zA, zB, zC, zD, zE, zF])
 refine wpG_take1 (i := 2) (v := ?_) rfl (by kernel_rfl) (by kernel_rfl) (by kernel_rfl) (by decide) (fun _ _ _ h => h) (Or.inl ⟨by rfl, ?_⟩) hSS ?_
 rotate_left 1
 ·(intro w hSw; (try dsimp only at hSw); (try simp only [zA, zB, zC]); go_simp; (try with_reducible rfl))
 (try simp only [Act.put, zA, zB, zC, zD, zE, zF])
 refine wpG_take1 (i := 3) (v := ?_) rfl (by kernel_rfl) (by kernel_rfl) (by kernel_rfl) (by decide) (fun _ _ _ h => h) (Or.inl ⟨by rfl, ?_⟩) hSS ?_
 rotate_left 1
 ·(intro w hSw; (try dsimp only at hSw); (try simp only [zA, zB, zC]); go_simp; (try with_reducible rfl))
 (try simp only [Act.put, zA, zB, zC, zD, zE, zF])
 refine wpG_take1 (i := 4) (v := ?_) rfl (by kernel_rfl) (by kernel_rfl) (by kernel_rfl) (by decide) (fun _ _ _ h => h) (Or.inl ⟨by rfl, ?_⟩) hSS ?_
 rotate_left 1
 ·(intro w hSw; (try dsimp only at hSw); (try simp only [zA, zB, zC]); go_simp; (try with_reducible rfl))
 (try simp only [Act.put, zA, zB, zC, zD, zE, zF])
 refine wpG_take1 (i := 5) (v := ?_) rfl (by kernel_rfl) (by kernel_rfl) (by kernel_rfl) (by decide) (fun _ _ _ h => h) (Or.inl ⟨by rfl, ?_⟩) hSS ?_
 rotate_left 1
 ·(intro w hSw; (try dsimp only at hSw); (try simp only [zA, zB, zC]); go_simp; (try with_reducible rfl))
 (try simp only [Act.put, zA, zB, zC, zD, zE, zF])
 refine wpG_take1 (i := 6) (v := ?_) rfl (by kernel_rfl) (by kernel_rfl) (by kernel_rfl) (by decide) (fun _ _ _ h => h) (Or.inl ⟨by rfl, ?_⟩) hSS ?_
 rotate_left 1
 ·(intro w hSw; (try dsimp only at hSw); (try simp only [zA, zB, zC]); go_simp; (try with_reducible rfl))
 (try simp only [Act.put, zA, zB, zC, zD, zE, zF])
 refine wpG_take1 (i := 7) (v := ?_) rfl (by kernel_rfl) (by kernel_rfl) (by kernel_rfl) (by decide) (fun _ _ _ h => h) (Or.inl ⟨by rfl, ?_⟩) hSS ?_
 rotate_left 1
 ·(intro w hSw; (try dsimp only at hSw); (try simp only [zA, zB, zC]); go_simp; (try with_reducible rfl))
 (try simp only [Act.put, zA, zB, zC, zD, zE, zF])
 refine wpG_take1 (i := 8) (v := ?_) rfl (by kernel_rfl) (by kernel_rfl) (by kernel_rfl) (by decide) (fun _ _ _ h => h) (Or.inl ⟨by rfl, ?_⟩) hSS ?_
 rotate_left 1
 ·(intro w hSw; (try dsimp only at hSw); (try simp only [zA, zB, zC]); go_simp; (try with_reducible rfl))
 (try simp only [Act.put, zA, zB, zC, zD, zE, zF])
 refine wpG_take1 (i := 9) (v := ?_) rfl (by kernel_rfl) (by kernel_rfl) (by kernel_rfl) (by decide) (fun _ _ _ h => h) (Or.inl ⟨by rfl, ?_⟩) hSS ?_
 rotate_left 1
 ·(intro w hSw; (try dsimp only at hSw); (try simp only [zA, zB, zC]); go_simp; (try with_reducible rfl))
 (try simp only [Act.put, zA, zB, zC, zD, zE, zF])
 refine wpG_take1 (i := 10) (v := ?_) rfl (by kernel_rfl) (by kernel_rfl) (by kernel_rfl) (by decide) (fun _ _ _ h => h) (Or.inl ⟨by rfl, ?_⟩) hSS ?_
 rotate_left 1
 ·(intro w hSw; (try dsimp only at hSw); (try simp only [zA, zB, zC]); go_simp; (try with_reducible rfl))
 (try simp only [Act.put, zA, zB, zC, zD, zE, zF])
 refine wpG_take1 (i := 11) (v := ?_) rfl (by kernel_rfl) (by kernel_rfl) (by kernel_rfl) (by decide) (fun _ _ _ h => h) (Or.inl ⟨by rfl, ?_⟩) hSS ?_
 rotate_left 1
 ·(intro w hSw; (try dsimp only at hSw); (try simp only [zA, zB, zC]); go_simp; (try with_reducible rfl))
 (try simp only [Act.put, zA, zB, zC, zD, zE, zF])
 have HSK := Lib.hid (show ∀ w', Below w1.heap.size w1 w' → (fun w' : World => w'.cell? ⟨w.heap.size, 3, none⟩ = some (.slice (some a) (m + 1) c) ∧ (w'.cell? a = some (.int .u8 t6.k) ∧ w'.cell? ⟨a.block, a.off + 1, none⟩ = some (.int .i64 t6.n) ∧ w'.cell? ⟨a.block, a.off + 2, none⟩ = some (.string t6.s) ∧ w'.cell? ⟨a.block, a.off + 3, none⟩ = some (.slice A6 t6.ks.length c6)) ∧ (w'.cell? (a.add (m * 4)) = some (.int .u8 t7.k) ∧ w'.cell? ⟨(a.add (m * 4)).block, (a.add (m * 4)).off + 1, none⟩ = some (.int .i64 t7.n) ∧ w'.cell? ⟨(a.add (m * 4)).block, (a.add (m * 4)).off + 2, none⟩ = some (.string t7.s) ∧ w'.cell? ⟨(a.add (m * 4)).block, (a.add (m * 4)).off + 3, none⟩ = some (.slice A7 t7.ks.length c7))) w' from fun w' hb => by
  obtain ⟨⟨q0, ⟨q1, q2, q3, q4⟩, q5, q6, q7, q8⟩, -⟩ := hSS
  exact ⟨cell_bl hb q0, ⟨cell_bl hb q1, cell_bl hb q2, cell_bl hb q3, cell_bl hb q4⟩, cell_bl hb q5, cell_bl hb q6, cell_bl hb q7, cell_bl hb q8⟩)
 clear hSS
 refine wpG_both (i := 12) (j := 13) (by kernel_rfl) rfl rfl (fun K hK => ?_) (fun K hK => ?_)
 ·skip
  (try simp only [zA, zB, zC])
  go_simp
  have hb2 := bl_al (Below.refl w1.heap.size w1) (.cells #[.int .u8 0, .int .i64 0, .string ⟨#[]⟩, .slice none 0 0] 26)
  refine hK.out _ _ ⟨HSK.out _ hb2.drew, trivial⟩ ?_
  clear hK K
  (try simp only [Act.put, zA, zB, zC, zD, zE, zF])
  refine wpG_one (i := 13) (by kernel_rfl) rfl (fun K hK => ?_)
  (try simp only [zA, zB, zC])
  go_simp
  have hb3 : Below w1.heap.size w1 ((w1.alloc (.cells #[.int .u8 0, .int .i64 0, .string ⟨#[]⟩, .slice none 0 0] 26)).alloc (.cells #[.int .u8 0, .int .i64 0, .string ⟨#[]⟩, .slice none 0 0] 26)) := bl_al hb2 (.cells #[.int .u8 0, .int .i64 0, .string ⟨#[]⟩, .slice none 0 0] 26)
  have hz6 := blk_al (heap_alloc_new w1 (.cells #[.int .u8 0, .int .i64 0, .string ⟨#[]⟩, .slice none 0 0] 26)) (.cells #[.int .u8 0, .int .i64 0, .string ⟨#[]⟩, .slice none 0 0] 26)
  have hz7 := heap_alloc_new (w1.alloc (.cells #[.int .u8 0, .int .i64 0, .string ⟨#[]⟩, .slice none 0 0] 26)) (.cells #[.int .u8 0, .int .i64 0, .string ⟨#[]⟩, .slice none 0 0] 26)
  rw [World.size_alloc] at hz7
  refine hK.out _ _ ⟨HSK.out _ hb3.drew, trivial⟩ ?_
  clear hK K
  (try simp only [Act.put, zA, zB, zC, zD, zE, zF])
  obtain ⟨w3, hw3⟩ : ∃ x, (w1.alloc (.cells #[.int .u8 0, .int .i64 0, .string ⟨#[]⟩, .slice none 0 0] 26)).alloc (.cells #[.int .u8 0, .int .i64 0, .string ⟨#[]⟩, .slice none 0 0] 26) = x := ⟨_, rfl⟩
  rw [hw3] at hb3 hz6 hz7 ⊢
  clear hw3 hb2
  have HB3 := Lib.hid hb3
  have c0 : w3.cell? ⟨w1.heap.size, 0, none⟩ = some (.int .u8 0) := cell_of_blk hz6 rfl
  have c1 : w3.cell? ⟨w1.heap.size, 1, none⟩ = some (.int .i64 0) := cell_of_blk hz6 rfl
  have c2 : w3.cell? ⟨w1.heap.size, 2, none⟩ = some (.string ⟨#[]⟩) := cell_of_blk hz6 rfl
  have c3 : w3.cell? ⟨w1.heap.size, 3, none⟩ = some (.slice none 0 0) := cell_of_blk hz6 rfl
  have cf : ∀ o, w3.frozen? ⟨w1.heap.size, o, none⟩ = false := fun _ => frozen_of_blk hz6
  refine wpG_one (i := 14) (by kernel_rfl) rfl (fun K hK => ?_)
  (try simp only [zA, zB, zC])
  go_simp
  obtain ⟨hh, hch⟩ := set4 (u0 := (.int .u8 t6.k)) (u1 := (.int .i64 t6.n)) (u2 := (.string t6.s)) (u3 := (.slice A6 t6.ks.length c6)) hz6
  obtain ⟨w4, hwn⟩ : ∃ x, (((w3.setCell ⟨w1.heap.size, 0, none⟩ (.int .u8 t6.k)).setCell ⟨w1.heap.size, 1, none⟩ (.int .i64 t6.n)).setCell ⟨w1.heap.size, 2, none⟩ (.string t6.s)).setCell ⟨w1.heap.size, 3, none⟩ (.slice A6 t6.ks.length c6) = x := ⟨_, rfl⟩
  rw [hwn] at hh hch ⊢
  have hb4 : Below w1.heap.size w1 w4 := HB3.out.trans (hch.below HB3.out.size fun b e => by omega)
  refine hK.out _ _ ⟨HSK.out _ hb4.drew, trivial⟩ ?_
  clear hK K c0 c1 c2 c3 cf hwn
  (try simp only [Act.put, zA, zB, zC, zD, zE, zF])
  have HB4 := Lib.hid hb4
  have hz7' := hch.keep hz7 (by omega)
  have c0 : w4.cell? ⟨(w1.heap.size+1), 0, none⟩ = some (.int .u8 0) := cell_of_blk hz7' rfl
  have c1 : w4.cell? ⟨(w1.heap.size+1), 1, none⟩ = some (.int .i64 0) := cell_of_blk hz7' rfl
  have c2 : w4.cell? ⟨(w1.heap.size+1), 2, none⟩ = some (.string ⟨#[]⟩) := cell_of_blk hz7' rfl
  have c3 : w4.cell? ⟨(w1.heap.size+1), 3, none⟩ = some (.slice none 0 0) := cell_of_blk hz7' rfl
  have cf : ∀ o, w4.frozen? ⟨(w1.heap.size+1), o, none⟩ = false := fun _ => frozen_of_blk hz7'
  refine wpG_past (i := 15) (by kernel_rfl) rfl (by kernel_rfl) (fun K hK => ?_)
  (try simp only [zA, zB, zC])
  go_simp
  obtain ⟨hh2, hch2⟩ := set4 (u0 := (.int .u8 t7.k)) (u1 := (.int .i64 t7.n)) (u2 := (.string t7.s)) (u3 := (.slice A7 t7.ks.length c7)) hz7'
  obtain ⟨w5, hwn⟩ : ∃ x, (((w4.setCell ⟨(w1.heap.size+1), 0, none⟩ (.int .u8 t7.k)).setCell ⟨(w1.heap.size+1), 1, none⟩ (.int .i64 t7.n)).setCell ⟨(w1.heap.size+1), 2, none⟩ (.string t7.s)).setCell ⟨(w1.heap.size+1), 3, none⟩ (.slice A7 t7.ks.length c7) = x := ⟨_, rfl⟩
  rw [hwn] at hh2 hch2 ⊢
  have hb5 : Below w1.heap.size w1 w5 := HB4.out.trans (hch2.below HB4.out.size fun b e => by omega)
  refine hK.out _ _ (HSK.out _ hb5.drew) ?_
  clear hK K c0 c1 c2 c3 cf hwn
  (try simp only [Act.put, zA, zB, zC, zD, zE, zF])
  have HH6 := Lib.hid (hch2.keep hh (by omega))
  have HH7 := Lib.hid hh2
  have HB5 := Lib.hid (show Below w1.heap.size w1 w5 from hb5)
  clear hb3 hz6 hz7 hz7' hh hh2 hch hch2 hb4 hb5 HB4 HB3 HSK
  refine wpG_done (by kernel_rfl) ?_
  refine NoPanic.normal ?_
  have HZ4 := Lib.hid (blk_bl HK4.out HB5.out)
  have HZ5 := Lib.hid (blk_bl HK5.out HB5.out)
  cases back
  ·go_upto_region 4 with fail
   have hS5 : (fun w' : World => (w'.cell? ⟨w1.heap.size, 0, none⟩ = some (.int .u8 t6.k) ∧ w'.cell? ⟨w1.heap.size, 1, none⟩ = some (.int .i64 t6.n) ∧ w'.cell? ⟨w1.heap.size, 2, none⟩ = some (.string t6.s) ∧ w'.cell? ⟨w1.heap.size, 3, none⟩ = some (.slice A6 t6.ks.length c6)) ∧ (w'.cell? ⟨(w1.heap.size+1), 0, none⟩ = some (.int .u8 t7.k) ∧ w'.cell? ⟨(w1.heap.size+1), 1, none⟩ = some (.int .i64 t7.n) ∧ w'.cell? ⟨(w1.heap.size+1), 2, none⟩ = some (.string t7.s) ∧ w'.cell? ⟨(w1.heap.size+1), 3, none⟩ = some (.slice A7 t7.ks.length c7))) w5.drew := ⟨⟨cell_of_blk HH6.out rfl, cell_of_blk HH6.out rfl, cell_of_blk HH6.out rfl, cell_of_blk HH6.out rfl⟩, ⟨cell_of_blk HH7.out rfl, cell_of_blk HH7.out rfl, cell_of_blk HH7.out rfl, cell_of_blk HH7.out rfl⟩⟩
   refine wp_region_noPanic ?_
   refine wp_region_G (fun w' : World => (w'.cell? ⟨w1.heap.size, 0, none⟩ = some (.int .u8 t6.k) ∧ w'.cell? ⟨w1.heap.size, 1, none⟩ = some (.int .i64 t6.n) ∧ w'.cell? ⟨w1.heap.size, 2, none⟩ = some (.string t6.s) ∧ w'.cell? ⟨w1.heap.size, 3, none⟩ = some (.slice A6 t6.ks.length c6)) ∧ (w'.cell? ⟨(w1.heap.size+1), 0, none⟩ = some (.int .u8 t7.k) ∧ w'.cell? ⟨(w1.heap.size+1), 1, none⟩ = some (.int .i64 t7.n) ∧ w'.cell? ⟨(w1.heap.size+1), 2, none⟩ = some (.string t7.s) ∧ w'.cell? ⟨(w1.heap.size+1), 3, none⟩ = some (.slice A7 t7.ks.length c7))) (fun _ : World => True) 3 (by kernel_rfl) ?_
   refine wpG_take1 (i := 0) (v := ?_) rfl (by kernel_rfl) (by kernel_rfl) (by kernel_rfl) (by decide) (fun _ _ _ h => h) (Or.inl ⟨by rfl, ?_⟩) ⟨hS5, trivial⟩ ?_
   rotate_left 1
   ·(intro w hSw; (try dsimp only at hSw); (try simp only [zA, zC]); go_simp; (try with_reducible rfl))
   (try simp only [Act.put, zA, zC, zD, zE, zF])
   refine wpG_take1 (i := 1) (v := ?_) rfl (by kernel_rfl) (by kernel_rfl) (by kernel_rfl) (by decide) (fun _ _ _ h => h) (Or.inl ⟨by rfl, ?_⟩) ⟨hS5, trivial⟩ ?_
   rotate_left 1
   ·(intro w hSw; (try dsimp only at hSw); (try simp only [zA, zB, zC]); go_simp; (try with_reducible rfl))
   (try simp only [Act.put, zA, zB, zC, zD, zE, zF])
   have hsz : w.heap.size + 1 + 1 < w1.heap.size := (Array.getElem?_eq_some_iff.mp HK5.out).1
   have HBW := Lib.hid (HBL.out.trans (HB5.out.mono (by omega)))
   have HC := Lib.hid (show ∀ W' : World, W'.heap[w1.heap.size]? = w5.heap[w1.heap.size]? → W'.heap[(w1.heap.size+1)]? = w5.heap[(w1.heap.size+1)]? → (fun w' : World => ((w'.cell? ⟨w1.heap.size, 0, none⟩ = some (.int .u8 t6.k) ∧ w'.cell? ⟨w1.heap.size, 1, none⟩ = some (.int .i64 t6.n) ∧ w'.cell? ⟨w1.heap.size, 2, none⟩ = some (.string t6.s) ∧ w'.cell? ⟨w1.heap.size, 3, none⟩ = some (.slice A6 t6.ks.length c6)) ∧ (w'.cell? ⟨(w1.heap.size+1), 0, none⟩ = some (.int .u8 t7.k) ∧ w'.cell? ⟨(w1.heap.size+1), 1, none⟩ = some (.int .i64 t7.n) ∧ w'.cell? ⟨(w1.heap.size+1), 2, none⟩ = some (.string t7.s) ∧ w'.cell? ⟨(w1.heap.size+1), 3, none⟩ = some (.slice A7 t7.ks.length c7)))) W'.drew from fun W' h6 h7 => ⟨⟨cell_of_blk (h6.trans HH6.out) rfl, cell_of_blk (h6.trans HH6.out) rfl, cell_of_blk (h6.trans HH6.out) rfl, cell_of_blk (h6.trans HH6.out) rfl⟩, ⟨cell_of_blk (h7.trans HH7.out) rfl, cell_of_blk (h7.trans HH7.out) rfl, cell_of_blk (h7.trans HH7.out) rfl, cell_of_blk (h7.trans HH7.out) rfl⟩⟩)
   have HZQ := Lib.hid HZ4.out
   have HZ4K := HZ4.out
   have HZ5K := HZ5.out
   have c0 : w5.cell? ⟨(w.heap.size+1), 0, none⟩ = some (.int .u8 0) := cell_of_blk HZ4K rfl
   have c1 : w5.cell? ⟨(w.heap.size+1), 1, none⟩ = some (.int .i64 0) := cell_of_blk HZ4K rfl
   have c2 : w5.cell? ⟨(w.heap.size+1), 2, none⟩ = some (.string ⟨#[]⟩) := cell_of_blk HZ4K rfl
   have c3 : w5.cell? ⟨(w.heap.size+1), 3, none⟩ = some (.slice none 0 0) := cell_of_blk HZ4K rfl
   have cf : ∀ o, w5.frozen? ⟨(w.heap.size+1), o, none⟩ = false := fun _ => frozen_of_blk HZ4K
   refine wpG_one (i := 2) (by kernel_rfl) rfl (fun K hK => ?_)
   (try simp only [zA, zB, zC])
   go_simp
   obtain ⟨hh, hch⟩ := set4 (u0 := (.int .u8 t6.k)) (u1 := (.int .i64 t6.n)) (u2 := (.string t6.s)) (u3 := (.slice A6 t6.ks.length c6)) HZ4K
   obtain ⟨w6, hwn⟩ : ∃ x, (((w5.setCell ⟨(w.heap.size+1), 0, none⟩ (.int .u8 t6.k)).setCell ⟨(w.heap.size+1), 1, none⟩ (.int .i64 t6.n)).setCell ⟨(w.heap.size+1), 2, none⟩ (.string t6.s)).setCell ⟨(w.heap.size+1), 3, none⟩ (.slice A6 t6.ks.length c6) = x := ⟨_, rfl⟩
   rw [hwn] at hh hch ⊢
   clear c0 c1 c2 c3 cf hwn
   have HBW6 := Lib.hid (HBW.out.trans (hch.below HBW.out.size fun b e => by omega))
   have k6 := hch.block (w1.heap.size) (Array.getElem?_eq_some_iff.mp HH6.out).1 (by omega)
   have k7 := hch.block ((w1.heap.size+1)) (Array.getElem?_eq_some_iff.mp HH7.out).1 (by omega)
   have HZ5L := hch.keep HZ5K (by omega)
   refine hK.out _ _ ⟨HC.out _ k6 k7, trivial⟩ ?_
   have HF4 := Lib.hid hh
   have K6 := Lib.hid k6
   have K7 := Lib.hid k7
   have HCH := Lib.hid hch
   clear hK K k6 k7 hh hch
   (try simp only [Act.put, zA, zB, zC, zD, zE, zF])
   have c0 : w6.cell? ⟨(w.heap.size+1+1), 0, none⟩ = some (.int .u8 0) := cell_of_blk HZ5L rfl
   have c1 : w6.cell? ⟨(w.heap.size+1+1), 1, none⟩ = some (.int .i64 0) := cell_of_blk HZ5L rfl
   have c2 : w6.cell? ⟨(w.heap.size+1+1), 2, none⟩ = some (.string ⟨#[]⟩) := cell_of_blk HZ5L rfl
   have c3 : w6.cell? ⟨(w.heap.size+1+1), 3, none⟩ = some (.slice none 0 0) := cell_of_blk HZ5L rfl
   have cf : ∀ o, w6.frozen? ⟨(w.heap.size+1+1), o, none⟩ = false := fun _ => frozen_of_blk HZ5L
   refine wpG_past (i := 3) (by kernel_rfl) rfl (by kernel_rfl) (fun K hK => ?_)
   (try simp only [zA, zB, zC])
   go_simp
   obtain ⟨hh, hch⟩ := set4 (u0 := (.int .u8 t7.k)) (u1 := (.int .i64 t7.n)) (u2 := (.string t7.s)) (u3 := (.slice A7 t7.ks.length c7)) HZ5L
   obtain ⟨w7, hwn⟩ : ∃ x, (((w6.setCell ⟨(w.heap.size+1+1), 0, none⟩ (.int .u8 t7.k)).setCell ⟨(w.heap.size+1+1), 1, none⟩ (.int .i64 t7.n)).setCell ⟨(w.heap.size+1+1), 2, none⟩ (.string t7.s)).setCell ⟨(w.heap.size+1+1), 3, none⟩ (.slice A7 t7.ks.length c7) = x := ⟨_, rfl⟩
   rw [hwn] at hh hch ⊢
   clear c0 c1 c2 c3 cf hwn
   have HBW7 := Lib.hid (HBW6.out.trans (hch.below HBW6.out.size fun b e => by omega))
   have k6 := hch.block (w1.heap.size) (by have := (Array.getElem?_eq_some_iff.mp HH6.out).1; have := HCH.out.size; omega) (by omega)
   have k7 := hch.block ((w1.heap.size+1)) (by have := (Array.getElem?_eq_some_iff.mp HH7.out).1; have := HCH.out.size; omega) (by omega)
   have HF4' := Lib.hid (hch.keep HF4.out (by omega))
   refine hK.out _ _ (HC.out _ (k6.trans K6.out) (k7.trans K7.out)) ?_
   have HF5 := Lib.hid hh
   clear hK K k6 k7 hh hch
   (try simp only [Act.put, zA, zB, zC, zD, zE, zF])
   refine wpG_done (by kernel_rfl) ?_
   refine NoPanic.normal ?_
   have d4 := HF4'.out
   have d5 := HF5.out
   have g0 : w7.drew.cell? ⟨w.heap.size + 1, 0, none⟩ = some (.int .u8 t6.k) := cell_of_blk d4 rfl
   have g1 : w7.drew.cell? ⟨w.heap.size + 1, 1, none⟩ = some (.int .i64 t6.n) := cell_of_blk d4 rfl
   have g2 : w7.drew.cell? ⟨w.heap.size + 1, 2, none⟩ = some (.string t6.s) := cell_of_blk d4 rfl
   have g3 : w7.drew.cell? ⟨w.heap.size + 1, 3, none⟩ = some (.slice A6 t6.ks.length c6) := cell_of_blk d4 rfl
   have g4 : w7.drew.cell? ⟨w.heap.size + 1 + 1, 0, none⟩ = some (.int .u8 t7.k) := cell_of_blk d5 rfl
   have g5 : w7.drew.cell? ⟨w.heap.size + 1 + 1, 1, none⟩ = some (.int .i64 t7.n) := cell_of_blk d5 rfl
   have g6 : w7.drew.cell? ⟨w.heap.size + 1 + 1, 2, none⟩ = some (.string t7.s) := cell_of_blk d5 rfl
   have g7 : w7.drew.cell? ⟨w.heap.size + 1 + 1, 3, none⟩ = some (.slice A7 t7.ks.length c7) := cell_of_blk d5 rfl
   go_wp2_with fail
   refine bodyPost_ret (v := .tuple #[.agg #[.int .u8 t6.k, .int .i64 t6.n, .string t6.s, .slice A6 t6.ks.length c6], .agg #[.int .u8 t7.k, .int .i64 t7.n, .string t7.s, .slice A7 t7.ks.length c7]]) (by simp [results, Tryz.results132, go_sem, g0, g1, g2, g3, g4, g5, g6, g7]) rfl ⟨_, _, rfl, ?_, ?_, HBW7.out.drew.drew⟩
   ·simp only [fstT, lstT, if_true, if_false, Bool.false_eq_true, HT6.out, HT7.out]
    exact HN6.out
   ·simp only [fstT, lstT, if_true, if_false, Bool.false_eq_true, HT6.out, HT7.out]
    exact HN7.out
  ·go_upto_region 3 with fail
   have hS5 : (fun w' : World => (w'.cell? ⟨w1.heap.size, 0, none⟩ = some (.int .u8 t6.k) ∧ w'.cell? ⟨w1.heap.size, 1, none⟩ = some (.int .i64 t6.n) ∧ w'.cell? ⟨w1.heap.size, 2, none⟩ = some (.string t6.s) ∧ w'.cell? ⟨w1.heap.size, 3, none⟩ = some (.slice A6 t6.ks.length c6)) ∧ (w'.cell? ⟨(w1.heap.size+1), 0, none⟩ = some (.int .u8 t7.k) ∧ w'.cell? ⟨(w1.heap.size+1), 1, none⟩ = some (.int .i64 t7.n) ∧ w'.cell? ⟨(w1.heap.size+1), 2, none⟩ = some (.string t7.s) ∧ w'.cell? ⟨(w1.heap.size+1), 3, none⟩ = some (.slice A7 t7.ks.length c7))) w5.drew := ⟨⟨cell_of_blk HH6.out rfl, cell_of_blk HH6.out rfl, cell_of_blk HH6.out rfl, cell_of_blk HH6.out rfl⟩, ⟨cell_of_blk HH7.out rfl, cell_of_blk HH7.out rfl, cell_of_blk HH7.out rfl, cell_of_blk HH7.out rfl⟩⟩
   refine wp_region_noPanic ?_
   refine wp_region_G (fun w' : World => (w'.cell? ⟨w1.heap.size, 0, none⟩ = some (.int .u8 t6.k) ∧ w'.cell? ⟨w1.heap.size, 1, none⟩ = some (.int .i64 t6.n) ∧ w'.cell? ⟨w1.heap.size, 2, none⟩ = some (.string t6.s) ∧ w'.cell? ⟨w1.heap.size, 3, none⟩ = some (.slice A6 t6.ks.length c6)) ∧ (w'.cell? ⟨(w1.heap.size+1), 0, none⟩ = some (.int .u8 t7.k) ∧ w'.cell? ⟨(w1.heap.size+1), 1, none⟩ = some (.int .i64 t7.n) ∧ w'.cell? ⟨(w1.heap.size+1), 2, none⟩ = some (.string t7.s) ∧ w'.cell? ⟨(w1.heap.size+1), 3, none⟩ = some (.slice A7 t7.ks.length c7))) (fun _ : World => True) 3 (by kernel_rfl) ?_
   refine wpG_take1 (i := 0) (v := ?_) rfl (by kernel_rfl) (by kernel_rfl) (by kernel_rfl) (by decide) (fun _ _ _ h => h) (Or.inl ⟨by rfl, ?_⟩) ⟨hS5, trivial⟩ ?_
   rotate_left 1
   ·(intro w hSw; (try dsimp only at hSw); (try simp only [zA, zC]); go_simp; (try with_reducible rfl))
   (try simp only [Act.put, zA, zC, zD, zE, zF])
   refine wpG_take1 (i := 1) (v := ?_) rfl (by kernel_rfl) (by kernel_rfl) (by kernel_rfl) (by decide) (fun _ _ _ h => h) (Or.inl ⟨by rfl, ?_⟩) ⟨hS5, trivial⟩ ?_
   rotate_left 1
   ·(intro w hSw; (try dsimp only at hSw); (try simp only [zA, zB, zC]); go_simp; (try with_reducible rfl))
   (try simp only [Act.put, zA, zB, zC, zD, zE, zF])
   have hsz : w.heap.size + 1 + 1 < w1.heap.size := (Array.getElem?_eq_some_iff.mp HK5.out).1
   have HBW := Lib.hid (HBL.out.trans (HB5.out.mono (by omega)))
   have HC := Lib.hid (show ∀ W' : World, W'.heap[w1.heap.size]? = w5.heap[w1.heap.size]? → W'.heap[(w1.heap.size+1)]? = w5.heap[(w1.heap.size+1)]? → (fun w' : World => ((w'.cell? ⟨w1.heap.size, 0, none⟩ = some (.int .u8 t6.k) ∧ w'.cell? ⟨w1.heap.size, 1, none⟩ = some (.int .i64 t6.n) ∧ w'.cell? ⟨w1.heap.size, 2, none⟩ = some (.string t6.s) ∧ w'.cell? ⟨w1.heap.size, 3, none⟩ = some (.slice A6 t6.ks.length c6)) ∧ (w'.cell? ⟨(w1.heap.size+1), 0, none⟩ = some (.int .u8 t7.k) ∧ w'.cell? ⟨(w1.heap.size+1), 1, none⟩ = some (.int .i64 t7.n) ∧ w'.cell? ⟨(w1.heap.size+1), 2, none⟩ = some (.string t7.s) ∧ w'.cell? ⟨(w1.heap.size+1), 3, none⟩ = some (.slice A7 t7.ks.length c7)))) W'.drew from fun W' h6 h7 => ⟨⟨cell_of_blk (h6.trans HH6.out) rfl, cell_of_blk (h6.trans HH6.out) rfl, cell_of_blk (h6.trans HH6.out) rfl, cell_of_blk (h6.trans HH6.out) rfl⟩, ⟨cell_of_blk (h7.trans HH7.out) rfl, cell_of_blk (h7.trans HH7.out) rfl, cell_of_blk (h7.trans HH7.out) rfl, cell_of_blk (h7.trans HH7.out) rfl⟩⟩)
   have HZQ := Lib.hid HZ4.out
   have HZ4K := HZ4.out
   have HZ5K := HZ5.out
   have c0 : w5.cell? ⟨(w.heap.size+1), 0, none⟩ = some (.int .u8 0) := cell_of_blk HZ4K rfl
   have c1 : w5.cell? ⟨(w.heap.size+1), 1, none⟩ = some (.int .i64 0) := cell_of_blk HZ4K rfl
   have c2 : w5.cell? ⟨(w.heap.size+1), 2, none⟩ = some (.string ⟨#[]⟩) := cell_of_blk HZ4K rfl
   have c3 : w5.cell? ⟨(w.heap.size+1), 3, none⟩ = some (.slice none 0 0) := cell_of_blk HZ4K rfl
   have cf : ∀ o, w5.frozen? ⟨(w.heap.size+1), o, none⟩ = false := fun _ => frozen_of_blk HZ4K
   refine wpG_one (i := 2) (by kernel_rfl) rfl (fun K hK => ?_)
   (try simp only [zA, zB, zC])
   go_simp
   obtain ⟨hh, hch⟩ := set4 (u0 := (.int .u8 t7.k)) (u1 := (.int .i64 t7.n)) (u2 := (.string t7.s)) (u3 := (.slice A7 t7.ks.length c7)) HZ4K
   obtain ⟨w6, hwn⟩ : ∃ x, (((w5.setCell ⟨(w.heap.size+1), 0, none⟩ (.int .u8 t7.k)).setCell ⟨(w.heap.size+1), 1, none⟩ (.int .i64 t7.n)).setCell ⟨(w.heap.size+1), 2, none⟩ (.string t7.s)).setCell ⟨(w.heap.size+1), 3, none⟩ (.slice A7 t7.ks.length c7) = x := ⟨_, rfl⟩
   rw [hwn] at hh hch ⊢
   clear c0 c1 c2 c3 cf hwn
   have HBW6 := Lib.hid (HBW.out.trans (hch.below HBW.out.size fun b e => by omega))
   have k6 := hch.block (w1.heap.size) (Array.getElem?_eq_some_iff.mp HH6.out).1 (by omega)
   have k7 := hch.block ((w1.heap.size+1)) (Array.getElem?_eq_some_iff.mp HH7.out).1 (by omega)
   have HZ5L := hch.keep HZ5K (by omega)
   refine hK.out _ _ ⟨HC.out _ k6 k7, trivial⟩ ?_
   have HF4 := Lib.hid hh
   have K6 := Lib.hid k6
   have K7 := Lib.hid k7
   have HCH := Lib.hid hch
   clear hK K k6 k7 hh hch
   (try simp only [Act.put, zA, zB, zC, zD, zE, zF])
   have c0 : w6.cell? ⟨(w.heap.size+1+1), 0, none⟩ = some (.int .u8 0) := cell_of_blk HZ5L rfl
   have c1 : w6.cell? ⟨(w.heap.size+1+1), 1, none⟩ = some (.int .i64 0) := cell_of_blk HZ5L rfl
   have c2 : w6.cell? ⟨(w.heap.size+1+1), 2, none⟩ = some (.string ⟨#[]⟩) := cell_of_blk HZ5L rfl
   have c3 : w6.cell? ⟨(w.heap.size+1+1), 3, none⟩ = some (.slice none 0 0) := cell_of_blk HZ5L rfl
   have cf : ∀ o, w6.frozen? ⟨(w.heap.size+1+1), o, none⟩ = false := fun _ => frozen_of_blk HZ5L
   refine wpG_past (i := 3) (by kernel_rfl) rfl (by kernel_rfl) (fun K hK => ?_)
   (try simp only [zA, zB, zC])
   go_simp
   obtain ⟨hh, hch⟩ := set4 (u0 := (.int .u8 t6.k)) (u1 := (.int .i64 t6.n)) (u2 := (.string t6.s)) (u3 := (.slice A6 t6.ks.length c6)) HZ5L
   obtain ⟨w7, hwn⟩ : ∃ x, (((w6.setCell ⟨(w.heap.size+1+1), 0, none⟩ (.int .u8 t6.k)).setCell ⟨(w.heap.size+1+1), 1, none⟩ (.int .i64 t6.n)).setCell ⟨(w.heap.size+1+1), 2, none⟩ (.string t6.s)).setCell ⟨(w.heap.size+1+1), 3, none⟩ (.slice A6 t6.ks.length c6) = x := ⟨_, rfl⟩
   rw [hwn] at hh hch ⊢
   clear c0 c1 c2 c3 cf hwn
   have HBW7 := Lib.hid (HBW6.out.trans (hch.below HBW6.out.size fun b e => by omega))
   have k6 := hch.block (w1.heap.size) (by have := (Array.getElem?_eq_some_iff.mp HH6.out).1; have := HCH.out.size; omega) (by omega)
   have k7 := hch.block ((w1.heap.size+1)) (by have := (Array.getElem?_eq_some_iff.mp HH7.out).1; have := HCH.out.size; omega) (by omega)
   have HF4' := Lib.hid (hch.keep HF4.out (by omega))
   refine hK.out _ _ (HC.out _ (k6.trans K6.out) (k7.trans K7.out)) ?_
   have HF5 := Lib.hid hh
   clear hK K k6 k7 hh hch
   (try simp only [Act.put, zA, zB, zC, zD, zE, zF])
   refine wpG_done (by kernel_rfl) ?_
   refine NoPanic.normal ?_
   have d4 := HF4'.out
   have d5 := HF5.out
   have g0 : w7.drew.cell? ⟨w.heap.size + 1, 0, none⟩ = some (.int .u8 t7.k) := cell_of_blk d4 rfl
   have g1 : w7.drew.cell? ⟨w.heap.size + 1, 1, none⟩ = some (.int .i64 t7.n) := cell_of_blk d4 rfl
   have g2 : w7.drew.cell? ⟨w.heap.size + 1, 2, none⟩ = some (.string t7.s) := cell_of_blk d4 rfl
   have g3 : w7.drew.cell? ⟨w.heap.size + 1, 3, none⟩ = some (.slice A7 t7.ks.length c7) := cell_of_blk d4 rfl
   have g4 : w7.drew.cell? ⟨w.heap.size + 1 + 1, 0, none⟩ = some (.int .u8 t6.k) := cell_of_blk d5 rfl
   have g5 : w7.drew.cell? ⟨w.heap.size + 1 + 1, 1, none⟩ = some (.int .i64 t6.n) := cell_of_blk d5 rfl
   have g6 : w7.drew.cell? ⟨w.heap.size + 1 + 1, 2, none⟩ = some (.string t6.s) := cell_of_blk d5 rfl
   have g7 : w7.drew.cell? ⟨w.heap.size + 1 + 1, 3, none⟩ = some (.slice A6 t6.ks.length c6) := cell_of_blk d5 rfl
   go_wp2_with fail
   refine bodyPost_ret (v := .tuple #[.agg #[.int .u8 t7.k, .int .i64 t7.n, .string t7.s, .slice A7 t7.ks.length c7], .agg #[.int .u8 t6.k, .int .i64 t6.n, .string t6.s, .slice A6 t6.ks.length c6]]) (by simp [results, Tryz.results132, go_sem, g0, g1, g2, g3, g4, g5, g6, g7]) rfl ⟨_, _, rfl, ?_, ?_, HBW7.out.drew.drew⟩
   ·simp only [fstT, lstT, if_true, if_false, Bool.false_eq_true, HT7.out, HT6.out]
    exact HN7.out
   ·simp only [fstT, lstT, if_true, if_false, Bool.false_eq_true, HT7.out, HT6.out]
    exact HN6.out
 ·skip
  (try simp only [zA, zB, zC])
  go_simp
  have hb2 := bl_al (Below.refl w1.heap.size w1) (.cells #[.int .u8 0, .int .i64 0, .string ⟨#[]⟩, .slice none 0 0] 26)
  refine hK.out _ _ ⟨HSK.out _ hb2.drew, trivial⟩ ?_
  clear hK K
  (try simp only [Act.put, zA, zB, zC, zD, zE, zF])
  refine wpG_one (i := 12) (by kernel_rfl) rfl (fun K hK => ?_)
  (try simp only [zA, zB, zC])
  go_simp
  have hb3 : Below w1.heap.size w1 ((w1.alloc (.cells #[.int .u8 0, .int .i64 0, .string ⟨#[]⟩, .slice none 0 0] 26)).alloc (.cells #[.int .u8 0, .int .i64 0, .string ⟨#[]⟩, .slice none 0 0] 26)) := bl_al hb2 (.cells #[.int .u8 0, .int .i64 0, .string ⟨#[]⟩, .slice none 0 0] 26)
  have hz6 := blk_al (heap_alloc_new w1 (.cells #[.int .u8 0, .int .i64 0, .string ⟨#[]⟩, .slice none 0 0] 26)) (.cells #[.int .u8 0, .int .i64 0, .string ⟨#[]⟩, .slice none 0 0] 26)
  have hz7 := heap_alloc_new (w1.alloc (.cells #[.int .u8 0, .int .i64 0, .string ⟨#[]⟩, .slice none 0 0] 26)) (.cells #[.int .u8 0, .int .i64 0, .string ⟨#[]⟩, .slice none 0 0] 26)
  rw [World.size_alloc] at hz7
  refine hK.out _ _ ⟨HSK.out _ hb3.drew, trivial⟩ ?_
  clear hK K
  (try simp only [Act.put, zA, zB, zC, zD, zE, zF])
  obtain ⟨w3, hw3⟩ : ∃ x, (w1.alloc (.cells #[.int .u8 0, .int .i64 0, .string ⟨#[]⟩, .slice none 0 0] 26)).alloc (.cells #[.int .u8 0, .int .i64 0, .string ⟨#[]⟩, .slice none 0 0] 26) = x := ⟨_, rfl⟩
  rw [hw3] at hb3 hz6 hz7 ⊢
  clear hw3 hb2
  have HB3 := Lib.hid hb3
  have c0 : w3.cell? ⟨(w1.heap.size+1), 0, none⟩ = some (.int .u8 0) := cell_of_blk hz7 rfl
  have c1 : w3.cell? ⟨(w1.heap.size+1), 1, none⟩ = some (.int .i64 0) := cell_of_blk hz7 rfl
  have c2 : w3.cell? ⟨(w1.heap.size+1), 2, none⟩ = some (.string ⟨#[]⟩) := cell_of_blk hz7 rfl
  have c3 : w3.cell? ⟨(w1.heap.size+1), 3, none⟩ = some (.slice none 0 0) := cell_of_blk hz7 rfl
  have cf : ∀ o, w3.frozen? ⟨(w1.heap.size+1), o, none⟩ = false := fun _ => frozen_of_blk hz7
  refine wpG_one (i := 14) (by kernel_rfl) rfl (fun K hK => ?_)
  (try simp only [zA, zB, zC])
  go_simp
  obtain ⟨hh, hch⟩ := set4 (u0 := (.int .u8 t6.k)) (u1 := (.int .i64 t6.n)) (u2 := (.string t6.s)) (u3 := (.slice A6 t6.ks.length c6)) hz7
  obtain ⟨w4, hwn⟩ : ∃ x, (((w3.setCell ⟨(w1.heap.size+1), 0, none⟩ (.int .u8 t6.k)).setCell ⟨(w1.heap.size+1), 1, none⟩ (.int .i64 t6.n)).setCell ⟨(w1.heap.size+1), 2, none⟩ (.string t6.s)).setCell ⟨(w1.heap.size+1), 3, none⟩ (.slice A6 t6.ks.length c6) = x := ⟨_, rfl⟩
  rw [hwn] at hh hch ⊢
  have hb4 : Below w1.heap.size w1 w4 := HB3.out.trans (hch.below HB3.out.size fun b e => by omega)
  refine hK.out _ _ ⟨HSK.out _ hb4.drew, trivial⟩ ?_
  clear hK K c0 c1 c2 c3 cf hwn
  (try simp only [Act.put, zA, zB, zC, zD, zE, zF])
  have HB4 := Lib.hid hb4
  have hz7' := hch.keep hz6 (by omega)
  have c0 : w4.cell? ⟨w1.heap.size, 0, none⟩ = some (.int .u8 0) := cell_of_blk hz7' rfl
  have c1 : w4.cell? ⟨w1.heap.size, 1, none⟩ = some (.int .i64 0) := cell_of_blk hz7' rfl
  have c2 : w4.cell? ⟨w1.heap.size, 2, none⟩ = some (.string ⟨#[]⟩) := cell_of_blk hz7' rfl
  have c3 : w4.cell? ⟨w1.heap.size, 3, none⟩ = some (.slice none 0 0) := cell_of_blk hz7' rfl
  have cf : ∀ o, w4.frozen? ⟨w1.heap.size, o, none⟩ = false := fun _ => frozen_of_blk hz7'
  refine wpG_past (i := 15) (by kernel_rfl) rfl (by kernel_rfl) (fun K hK => ?_)
  (try simp only [zA, zB, zC])
  go_simp
  obtain ⟨hh2, hch2⟩ := set4 (u0 := (.int .u8 t7.k)) (u1 := (.int .i64 t7.n)) (u2 := (.string t7.s)) (u3 := (.slice A7 t7.ks.length c7)) hz7'
  obtain ⟨w5, hwn⟩ : ∃ x, (((w4.setCell ⟨w1.heap.size, 0, none⟩ (.int .u8 t7.k)).setCell ⟨w1.heap.size, 1, none⟩ (.int .i64 t7.n)).setCell ⟨w1.heap.size, 2, none⟩ (.string t7.s)).setCell ⟨w1.heap.size, 3, none⟩ (.slice A7 t7.ks.length c7) = x := ⟨_, rfl⟩
  rw [hwn] at hh2 hch2 ⊢
  have hb5 : Below w1.heap.size w1 w5 := HB4.out.trans (hch2.below HB4.out.size fun b e => by omega)
  refine hK.out _ _ (HSK.out _ hb5.drew) ?_
  clear hK K c0 c1 c2 c3 cf hwn
  (try simp only [Act.put, zA, zB, zC, zD, zE, zF])
  have HH6 := Lib.hid (hch2.keep hh (by omega))
  have HH7 := Lib.hid hh2
  have HB5 := Lib.hid (show Below w1.heap.size w1 w5 from hb5)
  clear hb3 hz6 hz7 hz7' hh hh2 hch hch2 hb4 hb5 HB4 HB3 HSK
  refine wpG_done (by kernel_rfl) ?_
  refine NoPanic.normal ?_
  have HZ4 := Lib.hid (blk_bl HK4.out HB5.out)
  have HZ5 := Lib.hid (blk_bl HK5.out HB5.out)
  cases back
  ·go_upto_region 4 with fail
   have hS5 : (fun w' : World => (w'.cell? ⟨(w1.heap.size+1), 0, none⟩ = some (.int .u8 t6.k) ∧ w'.cell? ⟨(w1.heap.size+1), 1, none⟩ = some (.int .i64 t6.n) ∧ w'.cell? ⟨(w1.heap.size+1), 2, none⟩ = some (.string t6.s) ∧ w'.cell? ⟨(w1.heap.size+1), 3, none⟩ = some (.slice A6 t6.ks.length c6)) ∧ (w'.cell? ⟨w1.heap.size, 0, none⟩ = some (.int .u8 t7.k) ∧ w'.cell? ⟨w1.heap.size, 1, none⟩ = some (.int .i64 t7.n) ∧ w'.cell? ⟨w1.heap.size, 2, none⟩ = some (.string t7.s) ∧ w'.cell? ⟨w1.heap.size, 3, none⟩ = some (.slice A7 t7.ks.length c7))) w5.drew := ⟨⟨cell_of_blk HH6.out rfl, cell_of_blk HH6.out rfl, cell_of_blk HH6.out rfl, cell_of_blk HH6.out rfl⟩, ⟨cell_of_blk HH7.out rfl, cell_of_blk HH7.out rfl, cell_of_blk HH7.out rfl, cell_of_blk HH7.out rfl⟩⟩
   refine wp_region_noPanic ?_
   refine wp_region_G (fun w' : World => (w'.cell? ⟨(w1.heap.size+1), 0, none⟩ = some (.int .u8 t6.k) ∧ w'.cell? ⟨(w1.heap.size+1), 1, none⟩ = some (.int .i64 t6.n) ∧ w'.cell? ⟨(w1.heap.size+1), 2, none⟩ = some (.string t6.s) ∧ w'.cell? ⟨(w1.heap.size+1), 3, none⟩ = some (.slice A6 t6.ks.length c6)) ∧ (w'.cell? ⟨w1.heap.size, 0, none⟩ = some (.int .u8 t7.k) ∧ w'.cell? ⟨w1.heap.size, 1, none⟩ = some (.int .i64 t7.n) ∧ w'.cell? ⟨w1.heap.size, 2, none⟩ = some (.string t7.s) ∧ w'.cell? ⟨w1.heap.size, 3, none⟩ = some (.slice A7 t7.ks.length c7))) (fun _ : World => True) 3 (by kernel_rfl) ?_
   refine wpG_take1 (i := 0) (v := ?_) rfl (by kernel_rfl) (by kernel_rfl) (by kernel_rfl) (by decide) (fun _ _ _ h => h) (Or.inl ⟨by rfl, ?_⟩) ⟨hS5, trivial⟩ ?_
   rotate_left 1
   ·(intro w hSw; (try dsimp only at hSw); (try simp only [zA, zC]); go_simp; (try with_reducible rfl))
   (try simp only [Act.put, zA, zC, zD, zE, zF])
   refine wpG_take1 (i := 1) (v := ?_) rfl (by kernel_rfl) (by kernel_rfl) (by kernel_rfl) (by decide) (fun _ _ _ h => h) (Or.inl ⟨by rfl, ?_⟩) ⟨hS5, trivial⟩ ?_
   rotate_left 1
   ·(intro w hSw; (try dsimp only at hSw); (try simp only [zA, zB, zC]); go_simp; (try with_reducible rfl))
   (try simp only [Act.put, zA, zB, zC, zD, zE, zF])
   have hsz : w.heap.size + 1 + 1 < w1.heap.size := (Array.getElem?_eq_some_iff.mp HK5.out).1
   have HBW := Lib.hid (HBL.out.trans (HB5.out.mono (by omega)))
   have HC := Lib.hid (show ∀ W' : World, W'.heap[(w1.heap.size+1)]? = w5.heap[(w1.heap.size+1)]? → W'.heap[w1.heap.size]? = w5.heap[w1.heap.size]? → (fun w' : World => ((w'.cell? ⟨(w1.heap.size+1), 0, none⟩ = some (.int .u8 t6.k) ∧ w'.cell? ⟨(w1.heap.size+1), 1, none⟩ = some (.int .i64 t6.n) ∧ w'.cell? ⟨(w1.heap.size+1), 2, none⟩ = some (.string t6.s) ∧ w'.cell? ⟨(w1.heap.size+1), 3, none⟩ = some (.slice A6 t6.ks.length c6)) ∧ (w'.cell? ⟨w1.heap.size, 0, none⟩ = some (.int .u8 t7.k) ∧ w'.cell? ⟨w1.heap.size, 1, none⟩ = some (.int .i64 t7.n) ∧ w'.cell? ⟨w1.heap.size, 2, none⟩ = some (.string t7.s) ∧ w'.cell? ⟨w1.heap.size, 3, none⟩ = some (.slice A7 t7.ks.length c7)))) W'.drew from fun W' h6 h7 => ⟨⟨cell_of_blk (h6.trans HH6.out) rfl, cell_of_blk (h6.trans HH6.out) rfl, cell_of_blk (h6.trans HH6.out) rfl, cell_of_blk (h6.trans HH6.out) rfl⟩, ⟨cell_of_blk (h7.trans HH7.out) rfl, cell_of_blk (h7.trans HH7.out) rfl, cell_of_blk (h7.trans HH7.out) rfl, cell_of_blk (h7.trans HH7.out) rfl⟩⟩)
   have HZQ := Lib.hid HZ4.out
   have HZ4K := HZ4.out
   have HZ5K := HZ5.out
   have c0 : w5.cell? ⟨(w.heap.size+1), 0, none⟩ = some (.int .u8 0) := cell_of_blk HZ4K rfl
   have c1 : w5.cell? ⟨(w.heap.size+1), 1, none⟩ = some (.int .i64 0) := cell_of_blk HZ4K rfl
   have c2 : w5.cell? ⟨(w.heap.size+1), 2, none⟩ = some (.string ⟨#[]⟩) := cell_of_blk HZ4K rfl
   have c3 : w5.cell? ⟨(w.heap.size+1), 3, none⟩ = some (.slice none 0 0) := cell_of_blk HZ4K rfl
   have cf : ∀ o, w5.frozen? ⟨(w.heap.size+1), o, none⟩ = false := fun _ => frozen_of_blk HZ4K
   refine wpG_one (i := 2) (by kernel_rfl) rfl (fun K hK => ?_)
   (try simp only [zA, zB, zC])
   go_simp
   obtain ⟨hh, hch⟩ := set4 (u0 := (.int .u8 t6.k)) (u1 := (.int .i64 t6.n)) (u2 := (.string t6.s)) (u3 := (.slice A6 t6.ks.length c6)) HZ4K
   obtain ⟨w6, hwn⟩ : ∃ x, (((w5.setCell ⟨(w.heap.size+1), 0, none⟩ (.int .u8 t6.k)).setCell ⟨(w.heap.size+1), 1, none⟩ (.int .i64 t6.n)).setCell ⟨(w.heap.size+1), 2, none⟩ (.string t6.s)).setCell ⟨(w.heap.size+1), 3, none⟩ (.slice A6 t6.ks.length c6) = x := ⟨_, rfl⟩
   rw [hwn] at hh hch ⊢
   clear c0 c1 c2 c3 cf hwn
   have HBW6 := Lib.hid (HBW.out.trans (hch.below HBW.out.size fun b e => by omega))
   have k6 := hch.block ((w1.heap.size+1)) (Array.getElem?_eq_some_iff.mp HH6.out).1 (by omega)
   have k7 := hch.block (w1.heap.size) (Array.getElem?_eq_some_iff.mp HH7.out).1 (by omega)
   have HZ5L := hch.keep HZ5K (by omega)
   refine hK.out _ _ ⟨HC.out _ k6 k7, trivial⟩ ?_
   have HF4 := Lib.hid hh
   have K6 := Lib.hid k6
   have K7 := Lib.hid k7
   have HCH := Lib.hid hch
   clear hK K k6 k7 hh hch
   (try simp only [Act.put, zA, zB, zC, zD, zE, zF])
   have c0 : w6.cell? ⟨(w.heap.size+1+1), 0, none⟩ = some (.int .u8 0) := cell_of_blk HZ5L rfl
   have c1 : w6.cell? ⟨(w.heap.size+1+1), 1, none⟩ = some (.int .i64 0) := cell_of_blk HZ5L rfl
   have c2 : w6.cell? ⟨(w.heap.size+1+1), 2, none⟩ = some (.string ⟨#[]⟩) := cell_of_blk HZ5L rfl
   have c3 : w6.cell? ⟨(w.heap.size+1+1), 3, none⟩ = some (.slice none 0 0) := cell_of_blk HZ5L rfl
   have cf : ∀ o, w6.frozen? ⟨(w.heap.size+1+1), o, none⟩ = false := fun _ => frozen_of_blk HZ5L
   refine wpG_past (i := 3) (by kernel_rfl) rfl (by kernel_rfl) (fun K hK => ?_)
   (try simp only [zA, zB, zC])
   go_simp
   obtain ⟨hh, hch⟩ := set4 (u0 := (.int .u8 t7.k)) (u1 := (.int .i64 t7.n)) (u2 := (.string t7.s)) (u3 := (.slice A7 t7.ks.length c7)) HZ5L
   obtain ⟨w7, hwn⟩ : ∃ x, (((w6.setCell ⟨(w.heap.size+1+1), 0, none⟩ (.int .u8 t7.k)).setCell ⟨(w.heap.size+1+1), 1, none⟩ (.int .i64 t7.n)).setCell ⟨(w.heap.size+1+1), 2, none⟩ (.string t7.s)).setCell ⟨(w.heap.size+1+1), 3, none⟩ (.slice A7 t7.ks.length c7) = x := ⟨_, rfl⟩
   rw [hwn] at hh hch ⊢
   clear c0 c1 c2 c3 cf hwn
   have HBW7 := Lib.hid (HBW6.out.trans (hch.below HBW6.out.size fun b e => by omega))
   have k6 := hch.block ((w1.heap.size+1)) (by have := (Array.getElem?_eq_some_iff.mp HH6.out).1; have := HCH.out.size; omega) (by omega)
   have k7 := hch.block (w1.heap.size) (by have := (Array.getElem?_eq_some_iff.mp HH7.out).1; have := HCH.out.size; omega) (by omega)
   have HF4' := Lib.hid (hch.keep HF4.out (by omega))
   refine hK.out _ _ (HC.out _ (k6.trans K6.out) (k7.trans K7.out)) ?_
   have HF5 := Lib.hid hh
   clear hK K k6 k7 hh hch
   (try simp only [Act.put, zA, zB, zC, zD, zE, zF])
   refine wpG_done (by kernel_rfl) ?_
   refine NoPanic.normal ?_
   have d4 := HF4'.out
   have d5 := HF5.out
   have g0 : w7.drew.cell? ⟨w.heap.size + 1, 0, none⟩ = some (.int .u8 t6.k) := cell_of_blk d4 rfl
   have g1 : w7.drew.cell? ⟨w.heap.size + 1, 1, none⟩ = some (.int .i64 t6.n) := cell_of_blk d4 rfl
   have g2 : w7.drew.cell? ⟨w.heap.size + 1, 2, none⟩ = some (.string t6.s) := cell_of_blk d4 rfl
   have g3 : w7.drew.cell? ⟨w.heap.size + 1, 3, none⟩ = some (.slice A6 t6.ks.length c6) := cell_of_blk d4 rfl
   have g4 : w7.drew.cell? ⟨w.heap.size + 1 + 1, 0, none⟩ = some (.int .u8 t7.k) := cell_of_blk d5 rfl
   have g5 : w7.drew.cell? ⟨w.heap.size + 1 + 1, 1, none⟩ = some (.int .i64 t7.n) := cell_of_blk d5 rfl
   have g6 : w7.drew.cell? ⟨w.heap.size + 1 + 1, 2, none⟩ = some (.string t7.s) := cell_of_blk d5 rfl
   have g7 : w7.drew.cell? ⟨w.heap.size + 1 + 1, 3, none⟩ = some (.slice A7 t7.ks.length c7) := cell_of_blk d5 rfl
   go_wp2_with fail
   refine bodyPost_ret (v := .tuple #[.agg #[.int .u8 t6.k, .int .i64 t6.n, .string t6.s, .slice A6 t6.ks.length c6], .agg #[.int .u8 t7.k, .int .i64 t7.n, .string t7.s, .slice A7 t7.ks.length c7]]) (by simp [results, Tryz.results132, go_sem, g0, g1, g2, g3, g4, g5, g6, g7]) rfl ⟨_, _, rfl, ?_, ?_, HBW7.out.drew.drew⟩
   ·simp only [fstT, lstT, if_true, if_false, Bool.false_eq_true, HT6.out, HT7.out]
    exact HN6.out
   ·simp only [fstT, lstT, if_true, if_false, Bool.false_eq_true, HT6.out, HT7.out]
    exact HN7.out
  ·go_upto_region 3 with fail
   have hS5 : (fun w' : World => (w'.cell? ⟨(w1.heap.size+1), 0, none⟩ = some (.int .u8 t6.k) ∧ w'.cell? ⟨(w1.heap.size+1), 1, none⟩ = some (.int .i64 t6.n) ∧ w'.cell? ⟨(w1.heap.size+1), 2, none⟩ = some (.string t6.s) ∧ w'.cell? ⟨(w1.heap.size+1), 3, none⟩ = some (.slice A6 t6.ks.length c6)) ∧ (w'.cell? ⟨w1.heap.size, 0, none⟩ = some (.int .u8 t7.k) ∧ w'.cell? ⟨w1.heap.size, 1, none⟩ = some (.int .i64 t7.n) ∧ w'.cell? ⟨w1.heap.size, 2, none⟩ = some (.string t7.s) ∧ w'.cell? ⟨w1.heap.size, 3, none⟩ = some (.slice A7 t7.ks.length c7))) w5.drew := ⟨⟨cell_of_blk HH6.out rfl, cell_of_blk HH6.out rfl, cell_of_blk HH6.out rfl, cell_of_blk HH6.out rfl⟩, ⟨cell_of_blk HH7.out rfl, cell_of_blk HH7.out rfl, cell_of_blk HH7.out rfl, cell_of_blk HH7.out rfl⟩⟩
   refine wp_region_noPanic ?_
   refine wp_region_G (fun w' : World => (w'.cell? ⟨(w1.heap.size+1), 0, none⟩ = some (.int .u8 t6.k) ∧ w'.cell? ⟨(w1.heap.size+1), 1, none⟩ = some (.int .i64 t6.n) ∧ w'.cell? ⟨(w1.heap.size+1), 2, none⟩ = some (.string t6.s) ∧ w'.cell? ⟨(w1.heap.size+1), 3, none⟩ = some (.slice A6 t6.ks.length c6)) ∧ (w'.cell? ⟨w1.heap.size, 0, none⟩ = some (.int .u8 t7.k) ∧ w'.cell? ⟨w1.heap.size, 1, none⟩ = some (.int .i64 t7.n) ∧ w'.cell? ⟨w1.heap.size, 2, none⟩ = some (.string t7.s) ∧ w'.cell? ⟨w1.heap.size, 3, none⟩ = some (.slice A7 t7.ks.length c7))) (fun _ : World => True) 3 (by kernel_rfl) ?_
   refine wpG_take1 (i := 0) (v := ?_) rfl (by kernel_rfl) (by kernel_rfl) (by kernel_rfl) (by decide) (fun _ _ _ h => h) (Or.inl ⟨by rfl, ?_⟩) ⟨hS5, trivial⟩ ?_
   rotate_left 1
   ·(intro w hSw; (try dsimp only at hSw); (try simp only [zA, zC]); go_simp; (try with_reducible rfl))
   (try simp only [Act.put, zA, zC, zD, zE, zF])
   refine wpG_take1 (i := 1) (v := ?_) rfl (by kernel_rfl) (by kernel_rfl) (by kernel_rfl) (by decide) (fun _ _ _ h => h) (Or.inl ⟨by rfl, ?_⟩) ⟨hS5, trivial⟩ ?_
   rotate_left 1
   ·(intro w hSw; (try dsimp only at hSw); (try simp only [zA, zB, zC]); go_simp; (try with_reducible rfl))
   (try simp only [Act.put, zA, zB, zC, zD, zE, zF])
   have hsz : w.heap.size + 1 + 1 < w1.heap.size := (Array.getElem?_eq_some_iff.mp HK5.out).1
   have HBW := Lib.hid (HBL.out.trans (HB5.out.mono (by omega)))
   have HC := Lib.hid (show ∀ W' : World, W'.heap[(w1.heap.size+1)]? = w5.heap[(w1.heap.size+1)]? → W'.heap[w1.heap.size]? = w5.heap[w1.heap.size]? → (fun w' : World => ((w'.cell? ⟨(w1.heap.size+1), 0, none⟩ = some (.int .u8 t6.k) ∧ w'.cell? ⟨(w1.heap.size+1), 1, none⟩ = some (.int .i64 t6.n) ∧ w'.cell? ⟨(w1.heap.size+1), 2, none⟩ = some (.string t6.s) ∧ w'.cell? ⟨(w1.heap.size+1), 3, none⟩ = some (.slice A6 t6.ks.length c6)) ∧ (w'.cell? ⟨w1.heap.size, 0, none⟩ = some (.int .u8 t7.k) ∧ w'.cell? ⟨w1.heap.size, 1, none⟩ = some (.int .i64 t7.n) ∧ w'.cell? ⟨w1.heap.size, 2, none⟩ = some (.string t7.s) ∧ w'.cell? ⟨w1.heap.size, 3, none⟩ = some (.slice A7 t7.ks.length c7)))) W'.drew from fun W' h6 h7 => ⟨⟨cell_of_blk (h6.trans HH6.out) rfl, cell_of_blk (h6.trans HH6.out) rfl, cell_of_blk (h6.trans HH6.out) rfl, cell_of_blk (h6.trans HH6.out) rfl⟩, ⟨cell_of_blk (h7.trans HH7.out) rfl, cell_of_blk (h7.trans HH7.out) rfl, cell_of_blk (h7.trans HH7.out) rfl, cell_of_blk (h7.trans HH7.out) rfl⟩⟩)
   have HZQ := Lib.hid HZ4.out
   have HZ4K := HZ4.out
   have HZ5K := HZ5.out
   have c0 : w5.cell? ⟨(w.heap.size+1), 0, none⟩ = some (.int .u8 0) := cell_of_blk HZ4K rfl
   have c1 : w5.cell? ⟨(w.heap.size+1), 1, none⟩ = some (.int .i64 0) := cell_of_blk HZ4K rfl
   have c2 : w5.cell? ⟨(w.heap.size+1), 2, none⟩ = some (.string ⟨#[]⟩) := cell_of_blk HZ4K rfl
   have c3 : w5.cell? ⟨(w.heap.size+1), 3, none⟩ = some (.slice none 0 0) := cell_of_blk HZ4K rfl
   have cf : ∀ o, w5.frozen? ⟨(w.heap.size+1), o, none⟩ = false := fun _ => frozen_of_blk HZ4K
   refine wpG_one (i := 2) (by kernel_rfl) rfl (fun K hK => ?_)
   (try simp only [zA, zB, zC])
   go_simp
   obtain ⟨hh, hch⟩ := set4 (u0 := (.int .u8 t7.k)) (u1 := (.int .i64 t7.n)) (u2 := (.string t7.s)) (u3 := (.slice A7 t7.ks.length c7)) HZ4K
   obtain ⟨w6, hwn⟩ : ∃ x, (((w5.setCell ⟨(w.heap.size+1), 0, none⟩ (.int .u8 t7.k)).setCell ⟨(w.heap.size+1), 1, none⟩ (.int .i64 t7.n)).setCell ⟨(w.heap.size+1), 2, none⟩ (.string t7.s)).setCell ⟨(w.heap.size+1), 3, none⟩ (.slice A7 t7.ks.length c7) = x := ⟨_, rfl⟩
   rw [hwn] at hh hch ⊢
   clear c0 c1 c2 c3 cf hwn
   have HBW6 := Lib.hid (HBW.out.trans (hch.below HBW.out.size fun b e => by omega))
   have k6 := hch.block ((w1.heap.size+1)) (Array.getElem?_eq_some_iff.mp HH6.out).1 (by omega)
   have k7 := hch.block (w1.heap.size) (Array.getElem?_eq_some_iff.mp HH7.out).1 (by omega)
   have HZ5L := hch.keep HZ5K (by omega)
   refine hK.out _ _ ⟨HC.out _ k6 k7, trivial⟩ ?_
   have HF4 := Lib.hid hh
   have K6 := Lib.hid k6
   have K7 := Lib.hid k7
   have HCH := Lib.hid hch
   clear hK K k6 k7 hh hch
   (try simp only [Act.put, zA, zB, zC, zD, zE, zF])
   have c0 : w6.cell? ⟨(w.heap.size+1+1), 0, none⟩ = some (.int .u8 0) := cell_of_blk HZ5L rfl
   have c1 : w6.cell? ⟨(w.heap.size+1+1), 1, none⟩ = some (.int .i64 0) := cell_of_blk HZ5L rfl
   have c2 : w6.cell? ⟨(w.heap.size+1+1), 2, none⟩ = some (.string ⟨#[]⟩) := cell_of_blk HZ5L rfl
   have c3 : w6.cell? ⟨(w.heap.size+1+1), 3, none⟩ = some (.slice none 0 0) := cell_of_blk HZ5L rfl
   have cf : ∀ o, w6.frozen? ⟨(w.heap.size+1+1), o, none⟩ = false := fun _ => frozen_of_blk HZ5L
   refine wpG_past (i := 3) (by kernel_rfl) rfl (by kernel_rfl) (fun K hK => ?_)
   (try simp only [zA, zB, zC])
   go_simp
   obtain ⟨hh, hch⟩ := set4 (u0 := (.int .u8 t6.k)) (u1 := (.int .i64 t6.n)) (u2 := (.string t6.s)) (u3 := (.slice A6 t6.ks.length c6)) HZ5L
   obtain ⟨w7, hwn⟩ : ∃ x, (((w6.setCell ⟨(w.heap.size+1+1), 0, none⟩ (.int .u8 t6.k)).setCell ⟨(w.heap.size+1+1), 1, none⟩ (.int .i64 t6.n)).setCell ⟨(w.heap.size+1+1), 2, none⟩ (.string t6.s)).setCell ⟨(w.heap.size+1+1), 3, none⟩ (.slice A6 t6.ks.length c6) = x := ⟨_, rfl⟩
   rw [hwn] at hh hch ⊢
   clear c0 c1 c2 c3 cf hwn
   have HBW7 := Lib.hid (HBW6.out.trans (hch.below HBW6.out.size fun b e => by omega))
   have k6 := hch.block ((w1.heap.size+1)) (by have := (Array.getElem?_eq_some_iff.mp HH6.out).1; have := HCH.out.size; omega) (by omega)
   have k7 := hch.block (w1.heap.size) (by have := (Array.getElem?_eq_some_iff.mp HH7.out).1; have := HCH.out.size; omega) (by omega)
   have HF4' := Lib.hid (hch.keep HF4.out (by omega))
   refine hK.out _ _ (HC.out _ (k6.trans K6.out) (k7.trans K7.out)) ?_
   have HF5 := Lib.hid hh
   clear hK K k6 k7 hh hch
   (try simp only [Act.put, zA, zB, zC, zD, zE, zF])
   refine wpG_done (by kernel_rfl) ?_
   refine NoPanic.normal ?_
   have d4 := HF4'.out
   have d5 := HF5.out
   have g0 : w7.drew.cell? ⟨w.heap.size + 1, 0, none⟩ = some (.int .u8 t7.k) := cell_of_blk d4 rfl
   have g1 : w7.drew.cell? ⟨w.heap.size + 1, 1, none⟩ = some (.int .i64 t7.n) := cell_of_blk d4 rfl
   have g2 : w7.drew.cell? ⟨w.heap.size + 1, 2, none⟩ = some (.string t7.s) := cell_of_blk d4 rfl
   have g3 : w7.drew.cell? ⟨w.heap.size + 1, 3, none⟩ = some (.slice A7 t7.ks.length c7) := cell_of_blk d4 rfl
   have g4 : w7.drew.cell? ⟨w.heap.size + 1 + 1, 0, none⟩ = some (.int .u8 t6.k) := cell_of_blk d5 rfl
   have g5 : w7.drew.cell? ⟨w.heap.size + 1 + 1, 1, none⟩ = some (.int .i64 t6.n) := cell_of_blk d5 rfl
   have g6 : w7.drew.cell? ⟨w.heap.size + 1 + 1, 2, none⟩ = some (.string t6.s) := cell_of_blk d5 rfl
   have g7 : w7.drew.cell? ⟨w.heap.size + 1 + 1, 3, none⟩ = some (.slice A6 t6.ks.length c6) := cell_of_blk d5 rfl
   go_wp2_with fail
   refine bodyPost_ret (v := .tuple #[.agg #[.int .u8 t7.k, .int .i64 t7.n, .string t7.s, .slice A7 t7.ks.length c7], .agg #[.int .u8 t6.k, .int .i64 t6.n, .string t6.s, .slice A6 t6.ks.length c6]]) (by simp [results, Tryz.results132, go_sem, g0, g1, g2, g3, g4, g5, g6, g7]) rfl ⟨_, _, rfl, ?_, ?_, HBW7.out.drew.drew⟩
   ·simp only [fstT, lstT, if_true, if_false, Bool.false_eq_true, HT7.out, HT6.out]
    exact HN7.out
   ·simp only [fstT, lstT, if_true, if_false, Bool.false_eq_true, HT7.out, HT6.out]
    exact HN6.out
end Go.Proofs.YtgnfpcebmefhoaaGreat
namespace Go.Proofs.YtgnfpcebmefhoaaGreat
open Go Go.RowKit
def IStC (G : List PR → T → Prop) (g : Nat) : Prop := ∀ C : RC, C.Ok → ∀ (W : World) (r : RS), RI C W r → ∀ (t : T) (v : Value) (back : Bool), NV C.w Any t v → G C.p.prs t → execO C.p.prs C.F g back t r ≠ .gas →
 Calls Tryz.prog 72 #[.pointer (some ⟨C.rb, 0, none⟩), v, .bool back] W (RunP C W (execO C.p.prs C.F g back t r))
set_option maxHeartbeats 4000000 in
set_option maxRecDepth 100000 in
theorem iblock_any {G : List PR → T → Prop} {g : Nat} (hS : IStC G g) {C : RC} (hC : C.Ok) {W : World} {r : RS} (h : RI C W r) (t : T) (v : Value) (back : Bool) (hv : NV C.w Any t v) (hG : ∀ u ∈ t.ks, G C.p.prs u) (hgas : runO C.p.prs C.F g back t r ≠ .gas) :
  Calls Tryz.prog 50 #[.pointer (some ⟨C.rb, 0, none⟩), v, .bool back] W (RunP C W (runO C.p.prs C.F g back t r)) := by
 obtain ⟨A, c, rfl, -, hlk, hlc, hrow⟩ := hv.open_
 have HROW := Lib.hid hrow
 have HS := Lib.hid hS
 have HG := Lib.hid hG
 have hb0 := bl_al (Below.refl W.heap.size W) (.cells #[.int .u8 t.k, .int .i64 t.n, .string t.s, .slice A t.ks.length c] 26)
 obtain ⟨hC1, h1⟩ := h.plus hC hb0
 have hz1 : (W.alloc (.cells #[.int .u8 t.k, .int .i64 t.n, .string t.s, .slice A t.ks.length c] 26)).heap.size = W.heap.size + 1 := by simp
 have hbx := box4 (heap_alloc_new W (.cells #[.int .u8 t.k, .int .i64 t.n, .string t.s, .slice A t.ks.length c] 26))
 have HK0 := Lib.hid (Kpt.of_below (n0 := C.n0) (kb := C.kb) hb0)
 obtain ⟨W1, hW1⟩ : ∃ x, W.alloc (.cells #[.int .u8 t.k, .int .i64 t.n, .string t.s, .slice A t.ks.length c] 26) = x := ⟨_, rfl⟩
 rw [hW1] at hC1 h1 hz1 hbx HK0
 obtain ⟨hi, hhi⟩ : ∃ x, W1.heap.size = x := ⟨_, rfl⟩
 rw [hhi] at hC1 h1 hz1
 have HC1 := Lib.hid hC1
 have H1 := Lib.hid h1
 have HBX := Lib.hid hbx
 have hz2 : W.heap.size < hi := by omega
 have hwn : IntKind.i64.wrap ((t.ks.length : Int) - 1) = (t.ks.length : Int) - 1 := IntWalk.i64_in _ (by unfold LK at hlk; omega)
 have hwq : ∀ j : Nat, j < t.ks.length → IntKind.i64.wrap ((t.ks.length : Int) - 1 - (j : Int)) = ((t.ks.length - 1 - j : Nat) : Int) := fun j hj => by rw [IntWalk.i64_in _ (by unfold LK at hlk; omega)]; omega
 obtain ⟨o, ho⟩ : ∃ o, runO C.p.prs C.F g back t r = o := ⟨_, rfl⟩
 have HO := Lib.hid (show bodyO (execO C.p.prs C.F g back) ((blkL back t).drop 0) r = o by rw [List.drop_zero]; exact ho)
 have HGAS := Lib.hid (show o ≠ .gas from ho ▸ hgas)
 have hLL : (blkL back t).length = t.ks.length := by unfold blkL; split <;> simp
 rw [ho]
 have HLL := Lib.hid hLL
 have hlk2 : t.ks.length ≤ 17592186044416 := by unfold LK at hlk; omega
 clear hLL hlk
 clear hv hC1 h1 hbx hb0 h hz1 hS hG hrow ho hgas
 obtain ⟨x0, x1, x2, x3⟩ := HBX.out
 go_enter Tryz.func50, Tryz.ntmps50
 go_wp2_with fail
 clear x0 x1 x2 x3 hW1
 go_loopw [15] (fun i wr => ∃ (j : Nat) (r1 : RS), j ≤ t.ks.length ∧ i = .int .i64 j ∧ Hid (RI (C.plus W.heap.size hi) wr r1) ∧ Hid (Kpt C.n0 (C.plus W.heap.size hi).kb W1 wr) ∧ Hid (bodyO (execO C.p.prs C.F g back) ((blkL back t).drop j) r1 = o)) (fun i _ => t.ks.length - (intOf i).toNat)
 case atStart => exact ⟨0, r, Nat.zero_le _, rfl, H1, Lib.hid (Kpt.refl _ _ _), HO⟩
 case round =>
  obtain ⟨j, r1, hj, rfl, HR, HK, HB⟩ := hrel
  by_cases hlt : j < t.ks.length
  ·cases back
   ·skip
    have hj1 : (j : Int) < (t.ks.length : Int) := by omega
    have hj0 : (0 : Int) ≤ (j : Int) := by omega
    have hqs : j < t.ks.length := by omega
    have hqs1 : (j : Int) < (t.ks.length : Int) := by omega
    have hqs0 : (0 : Int) ≤ (j : Int) := by omega
    have hblr := HR.out.below
    obtain ⟨a, u, A1, c1, rfl, -, hu, ⟨p0, p1, p2, p3⟩, hnu⟩ := HROW.out.nd hqs
    have hgu := HG.out u (by rw [← hu.out]; exact List.getElem_mem _)
    have hbs : bodyO (execO C.p.prs C.F g false) ((blkL false t).drop j) r1 = (execO C.p.prs C.F g false u r1).bind (bodyO (execO C.p.prs C.F g false) ((blkL false t).drop (j + 1))) := by
     rw [show (blkL false t).drop j = u :: (blkL false t).drop (j + 1) by rw [List.drop_eq_getElem_cons (by rw [HLL.out]; exact hlt), ← hu.out]; congr 1; all_goals simp [blkL, hlt]]
     rfl
    rw [HB.out] at hbs
    have HBS := Lib.hid hbs
    have HSU := Lib.hid (HS.out (C.plus W.heap.size hi) HC1.out wr r1 HR.out u _ false hnu hgu (fun e => HGAS.out (by rw [hbs, show execO C.p.prs C.F g false u r1 = .gas from e]; rfl)))
    have q0 := cell_bl hblr p0
    have q1 := cell_bl hblr p1
    have q2 := cell_bl hblr p2
    have q3 := cell_bl hblr p3
    have x3 : wr.cell? ⟨W.heap.size, 3, none⟩ = some (.slice (some a) t.ks.length c) := HK.out.cell (.inr (.inr ⟨Nat.le_refl _, hz2⟩)) HBX.out.2.2.2
    clear hbs hblr hnu hgu p0 p1 p2 p3 hu
    go_wp2_with fail
    refine HSU.out.mono ?_
    rintro e w2 ⟨hk2, hb2, ho2⟩
    have ho2' : match execO C.p.prs C.F g false u r1 with
     | .gas => True
     | .err x => e = failE x
     | .ok r => (∃ u, e = .returned u) ∧ RI (C.plus W.heap.size hi) w2 r := ho2
    have HK2 := Lib.hid (HK.out.trans hk2)
    clear ho2 hk2 HSU q0 q1 q2 q3 x3
    cases hx : execO C.p.prs C.F g false u r1 with
    | gas => exact absurd (by rw [HBS.out, hx]; rfl) HGAS.out
    | err x =>
     rw [hx] at ho2'
     subst ho2'
     have ho3 : o = .err x := by rw [HBS.out, hx]; rfl
     dsimp only
     refine ⟨rfl, HK0.out.trans (Kpt.less HK2.out), hb2, ?_⟩
     rw [ho3]
    | ok r2 =>
     rw [hx] at ho2'
     obtain ⟨⟨u2, rfl⟩, hr2⟩ := ho2'
     have HR2 := Lib.hid hr2
     have HB2 := Lib.hid (show bodyO (execO C.p.prs C.F g false) ((blkL false t).drop (j + 1)) r2 = o by rw [HBS.out, hx]; rfl)
     clear hr2 hx
     go_wp2_with fail
     go_roundw
     case rel => exact ⟨j + 1, r2, by omega, by go_num, HR2, HK2, HB2⟩
     case measure => simp [intOf]; omega
   ·skip
    have hwq1 := hwq j hlt
    obtain ⟨q, hq⟩ : ∃ q, t.ks.length - 1 - j = q := ⟨_, rfl⟩
    rw [hq] at hwq1
    have hj1 : (j : Int) < (t.ks.length : Int) := by omega
    have hj0 : (0 : Int) ≤ (j : Int) := by omega
    have hqs : q < t.ks.length := by omega
    have hqs1 : (q : Int) < (t.ks.length : Int) := by omega
    have hqs0 : (0 : Int) ≤ (q : Int) := by omega
    have hblr := HR.out.below
    obtain ⟨a, u, A1, c1, rfl, -, hu, ⟨p0, p1, p2, p3⟩, hnu⟩ := HROW.out.nd hqs
    have hgu := HG.out u (by rw [← hu.out]; exact List.getElem_mem _)
    have hbs : bodyO (execO C.p.prs C.F g true) ((blkL true t).drop j) r1 = (execO C.p.prs C.F g true u r1).bind (bodyO (execO C.p.prs C.F g true) ((blkL true t).drop (j + 1))) := by
     rw [show (blkL true t).drop j = u :: (blkL true t).drop (j + 1) by rw [List.drop_eq_getElem_cons (by rw [HLL.out]; exact hlt), ← hu.out]; congr 1; all_goals simp [blkL, hq]]
     rfl
    rw [HB.out] at hbs
    have HBS := Lib.hid hbs
    have HSU := Lib.hid (HS.out (C.plus W.heap.size hi) HC1.out wr r1 HR.out u _ true hnu hgu (fun e => HGAS.out (by rw [hbs, show execO C.p.prs C.F g true u r1 = .gas from e]; rfl)))
    have q0 := cell_bl hblr p0
    have q1 := cell_bl hblr p1
    have q2 := cell_bl hblr p2
    have q3 := cell_bl hblr p3
    have x3 : wr.cell? ⟨W.heap.size, 3, none⟩ = some (.slice (some a) t.ks.length c) := HK.out.cell (.inr (.inr ⟨Nat.le_refl _, hz2⟩)) HBX.out.2.2.2
    clear hbs hblr hnu hgu p0 p1 p2 p3 hu
    go_wp2_with fail
    refine HSU.out.mono ?_
    rintro e w2 ⟨hk2, hb2, ho2⟩
    have ho2' : match execO C.p.prs C.F g true u r1 with
     | .gas => True
     | .err x => e = failE x
     | .ok r => (∃ u, e = .returned u) ∧ RI (C.plus W.heap.size hi) w2 r := ho2
    have HK2 := Lib.hid (HK.out.trans hk2)
    clear ho2 hk2 HSU q0 q1 q2 q3 x3
    cases hx : execO C.p.prs C.F g true u r1 with
    | gas => exact absurd (by rw [HBS.out, hx]; rfl) HGAS.out
    | err x =>
     rw [hx] at ho2'
     subst ho2'
     have ho3 : o = .err x := by rw [HBS.out, hx]; rfl
     dsimp only
     refine ⟨rfl, HK0.out.trans (Kpt.less HK2.out), hb2, ?_⟩
     rw [ho3]
    | ok r2 =>
     rw [hx] at ho2'
     obtain ⟨⟨u2, rfl⟩, hr2⟩ := ho2'
     have HR2 := Lib.hid hr2
     have HB2 := Lib.hid (show bodyO (execO C.p.prs C.F g true) ((blkL true t).drop (j + 1)) r2 = o by rw [HBS.out, hx]; rfl)
     clear hr2 hx
     go_wp2_with fail
     go_roundw
     case rel => exact ⟨j + 1, r2, by omega, by go_num, HR2, HK2, HB2⟩
     case measure => simp [intOf]; omega
  ·have ho3 : o = .ok r1 := by
    rw [← HB.out, show (blkL back t).drop j = [] by rw [List.drop_eq_nil_iff, HLL.out]; omega]; rfl
   have hbr := HR.out.below
   have hj1 : ¬ (j : Int) < (t.ks.length : Int) := by omega
   go_wp2_with fail
   go_end0
   refine ⟨HK0.out.trans (Kpt.less HK.out), hbr, ?_⟩
   try rw [ho3]
   exact ⟨⟨_, rfl⟩, HR.out.less⟩
end Go.Proofs.YtgnfpcebmefhoaaGreat
namespace Go.Proofs.YtgnfpcebmefhoaaGreat
open Go Go.RowKit
def brO (prs : List PR) (F : Int) (g : Nat) (back : Bool) (t : T) (r : RS) : Out :=
 holdsO F (fstT back t) r fun yes r => (bodyO (execO prs F g back) (blkL back (if yes = true then kid t 1 else kid t 2)) r).bind (assertO F (lstT back t) yes)
set_option maxHeartbeats 800000 in
set_option maxRecDepth 100000 in
theorem branch_any {G : List PR → T → Prop} {g : Nat} (hS : IStC G g) {C : RC} (hC : C.Ok) {W : World} {r : RS} (h : RI C W r) (t : T) (v : Value) (back : Bool) (hv : NV C.w Any t v) (hk : t.ks.length = 4) (hG1 : ∀ u ∈ (kid t 1).ks, G C.p.prs u) (hG2 : ∀ u ∈ (kid t 2).ks, G C.p.prs u)
  (hgas : brO C.p.prs C.F g back t r ≠ .gas) :
  Calls Tryz.prog 101 #[.pointer (some ⟨C.rb, 0, none⟩), v, .bool back] W (RunP C W (brO C.p.prs C.F g back t r)) := by
 obtain ⟨A, c, rfl, -, hlk, hlc, hrow⟩ := hv.open_
 have HROW := Lib.hid hrow
 have HS := Lib.hid hS
 have HV := Lib.hid hv
 have hb0 := bl_al (Below.refl W.heap.size W) (.cells #[.int .u8 t.k, .int .i64 t.n, .string t.s, .slice A t.ks.length c] 26)
 obtain ⟨x0, x1, x2, x3⟩ := box4 (heap_alloc_new W (.cells #[.int .u8 t.k, .int .i64 t.n, .string t.s, .slice A t.ks.length c] 26))
 have HB0 := Lib.hid hb0
 have H := Lib.hid h
 have HC := Lib.hid hC
 have HX := Lib.hid (heap_alloc_new W (.cells #[.int .u8 t.k, .int .i64 t.n, .string t.s, .slice A t.ks.length c] 26))
 have HEN := Lib.hid (fun w' (hb : Below W.heap.size W w') => ends_any t _ back C.w w' (bl_tt h.below hb) hv (by omega))
 have HKL := Lib.hid hk
 clear hrow hS hb0 h hv hk hC hlk
 go_enter Tryz.func101, Tryz.ntmps101
 go_wp2_with fail
 refine (HEN.out _ HB0.out).mono ?_
 rintro e w2 ⟨v1, v2, rfl, n1, n2, b2⟩
 obtain ⟨t1, ht1⟩ : ∃ x, fstT back t = x := ⟨_, rfl⟩
 obtain ⟨t2, ht2⟩ : ∃ x, lstT back t = x := ⟨_, rfl⟩
 have HT1 := Lib.hid ht1
 have HT2 := Lib.hid ht2
 rw [ht1] at n1
 rw [ht2] at n2
 obtain ⟨A1, c1, rfl, -⟩ := n1.open_
 obtain ⟨A2, c2, rfl, -⟩ := n2.open_
 have HN1 := Lib.hid n1
 have HN2 := Lib.hid n2
 have b3 := bl_al (bl_al (bl_tt HB0.out b2) (.cells #[.int .u8 t1.k, .int .i64 t1.n, .string t1.s, .slice A1 t1.ks.length c1] 26)) (.cells #[.int .u8 t2.k, .int .i64 t2.n, .string t2.s, .slice A2 t2.ks.length c2] 26)
 have k0 := blk_al (blk_al (blk_bl HX.out b2) (.cells #[.int .u8 t1.k, .int .i64 t1.n, .string t1.s, .slice A1 t1.ks.length c1] 26)) (.cells #[.int .u8 t2.k, .int .i64 t2.n, .string t2.s, .slice A2 t2.ks.length c2] 26)
 have k1 := blk_al (heap_alloc_new w2 (.cells #[.int .u8 t1.k, .int .i64 t1.n, .string t1.s, .slice A1 t1.ks.length c1] 26)) (.cells #[.int .u8 t2.k, .int .i64 t2.n, .string t2.s, .slice A2 t2.ks.length c2] 26)
 have k2 := heap_alloc_new (w2.alloc (.cells #[.int .u8 t1.k, .int .i64 t1.n, .string t1.s, .slice A1 t1.ks.length c1] 26)) (.cells #[.int .u8 t2.k, .int .i64 t2.n, .string t2.s, .slice A2 t2.ks.length c2] 26)
 simp only [World.size_alloc] at k2
 obtain ⟨w3, hw3⟩ : ∃ x, (w2.alloc (.cells #[.int .u8 t1.k, .int .i64 t1.n, .string t1.s, .slice A1 t1.ks.length c1] 26)).alloc (.cells #[.int .u8 t2.k, .int .i64 t2.n, .string t2.s, .slice A2 t2.ks.length c2] 26) = x := ⟨_, rfl⟩
 rw [hw3] at b3 k0 k1 k2
 have hz2 := bl_tt HB0.out b2
 have hzz := hz2.size
 obtain ⟨hC3, h3⟩ := H.out.plus HC.out b3
 have HP3 := Lib.hid (Kpt.of_below (n0 := C.n0) (kb := C.kb) b3)
 have l0 := blk_lt k0
 have l1 := blk_lt k1
 have l2 := blk_lt k2
 obtain ⟨hi, hhi⟩ : ∃ x, w3.heap.size = x := ⟨_, rfl⟩
 rw [hhi] at hC3 h3 l0 l1 l2
 have HC3 := Lib.hid hC3
 have H3 := Lib.hid h3
 have K0 := Lib.hid k0
 have K1 := Lib.hid k1
 have K2 := Lib.hid k2
 have HHO := Lib.hid (holds_any hC3 h3 t1 _ n1)
 obtain ⟨p1, ⟨y0, y1, y2, y3⟩⟩ : True ∧ (w3.cell? ⟨w2.heap.size, 0, none⟩ = some (.int .u8 t1.k) ∧ w3.cell? ⟨w2.heap.size, 1, none⟩ = some (.int .i64 t1.n) ∧ w3.cell? ⟨w2.heap.size, 2, none⟩ = some (.string t1.s) ∧ w3.cell? ⟨w2.heap.size, 3, none⟩ = some (.slice A1 t1.ks.length c1)) := ⟨trivial, cell_of_blk k1 rfl, cell_of_blk k1 rfl, cell_of_blk k1 rfl, cell_of_blk k1 rfl⟩
 clear n1 n2 b2 b3 k0 k1 k2 hz2 hC3 h3 x0 x1 x2 x3 HX HB0 HEN p1 ht1 ht2
 go_upto_region 2 with fail
 clear hw3
 go_wp2_with fail
 refine HHO.out.mono ?_
 rintro e w4 ⟨hk4, hb4, ho4⟩
 have HK4 := Lib.hid (HP3.out.trans (Kpt.less (C := C) hk4))
 have HB4 := Lib.hid (show Below C.w.heap.size C.w w4 from hb4)
 clear y0 y1 y2 y3 HHO
 rcases ho4 with ⟨x, rfl, hx⟩ | ⟨b, r1, rfl, hr1, hx⟩
 ·refine ⟨rfl, HK4.out, HB4.out, ?_⟩
  rw [show brO C.p.prs C.F g back t r = .err x by unfold brO; rw [HT1.out]; exact hx _]
 ·have k0 := hk4.blk (.inr (.inr ⟨by omega, l0⟩)) K0.out
  have k2 := hk4.blk (.inr (.inr ⟨by omega, l2⟩)) K2.out
  have HR4 := Lib.hid hr1
  have HBR := Lib.hid (show brO C.p.prs C.F g back t r = (runO C.p.prs C.F g back (if b = true then kid t 1 else kid t 2) r1).bind (assertO C.F t2 b) by unfold brO; rw [HT1.out, HT2.out]; exact hx _)
  have K4 := Lib.hid k0
  have K5 := Lib.hid k2
  have z3 : w4.cell? ⟨W.heap.size, 3, none⟩ = some (.slice A t.ks.length c) := cell_of_blk k0 rfl
  have HGA := Lib.hid hgas
  clear hk4 hb4 hr1 hx k0 k2 hgas
  cases b
  ·skip
   have hI : 2 < t.ks.length := by have := HKL.out; omega
   have hI1 : (2 : Int) < (t.ks.length : Int) := by omega
   obtain ⟨a, u, Au, cu, rfl, -, hu, ⟨p0, p1, p2, p3⟩, hnu⟩ := HROW.out.nd hI
   have hku : kid t 2 = u := by unfold kid; rw [List.getD_eq_getElem?_getD, List.getElem?_eq_getElem hI]; exact hu.out
   have HGU := Lib.hid (show ∀ x ∈ u.ks, G C.p.prs x by rw [← hku]; exact hG2)
   have HBR2 := Lib.hid (show brO C.p.prs C.F g back t r = (runO C.p.prs C.F g back u r1).bind (assertO C.F t2 false) by rw [HBR.out]; simp only [Bool.false_eq_true, if_false, if_true, hku])
   have hgu : runO C.p.prs C.F g back u r1 ≠ .gas := fun e => HGA.out (by rw [HBR2.out, e]; rfl)
   have HBK := Lib.hid (iblock_any HS.out HC3.out HR4.out u _ back hnu HGU.out hgu)
   have ha : a.add (2 * 4) = ⟨a.block, a.off + 8, none⟩ := by unfold Addr.add; split <;> simp_all
   rw [ha] at p0 p1 p2 p3
   have q0 : w4.cell? ⟨a.block, a.off + 8, none⟩ = some (.int .u8 u.k) := cell_bl HB4.out p0
   have q1 : w4.cell? ⟨a.block, a.off + 8 + 1, none⟩ = some (.int .i64 u.n) := cell_bl HB4.out p1
   have q2 : w4.cell? ⟨a.block, a.off + 8 + 2, none⟩ = some (.string u.s) := cell_bl HB4.out p2
   have q3 : w4.cell? ⟨a.block, a.off + 8 + 3, none⟩ = some (.slice Au u.ks.length cu) := cell_bl HB4.out p3
   clear hku hnu hu p0 p1 p2 p3 hgu
   go_wp2_with fail
   refine HBK.out.mono ?_
   rintro e w5 ⟨hk5, hb5, ho5⟩
   have HK5 := Lib.hid (HK4.out.trans (Kpt.less (C := C) hk5))
   have HB5 := Lib.hid (show Below C.w.heap.size C.w w5 from hb5)
   have ho5' : match runO C.p.prs C.F g back u r1 with
    | .gas => True
    | .err x => e = failE x
    | .ok r => (∃ u, e = .returned u) ∧ RI (C.plus W.heap.size hi) w5 r := ho5
   have k5 := hk5.blk (.inr (.inr ⟨by omega, l2⟩)) K5.out
   have K6 := Lib.hid k5
   clear q0 q1 q2 q3 z3 hk5 hb5 ho5 k5
   cases hx : runO C.p.prs C.F g back u r1 with
   | gas => exact absurd (by rw [HBR2.out, hx]; rfl) HGA.out
   | err x =>
    rw [hx] at ho5'
    subst ho5'
    refine ⟨rfl, HK5.out, HB5.out, ?_⟩
    rw [HBR2.out, hx]
    rfl
   | ok r2 =>
    rw [hx] at ho5'
    obtain ⟨⟨u2, rfl⟩, hr2⟩ := ho5'
    have HAS := Lib.hid (assert_any HC3.out hr2 t2 _ HN2.out false)
    have HBR3 := Lib.hid (show brO C.p.prs C.F g back t r = assertO C.F t2 false r2 by rw [HBR2.out, hx]; rfl)
    have q0 : w5.cell? ⟨w2.heap.size + 1, 0, none⟩ = some (.int .u8 t2.k) := cell_of_blk K6.out rfl
    have q1 : w5.cell? ⟨w2.heap.size + 1, 1, none⟩ = some (.int .i64 t2.n) := cell_of_blk K6.out rfl
    have q2 : w5.cell? ⟨w2.heap.size + 1, 2, none⟩ = some (.string t2.s) := cell_of_blk K6.out rfl
    have q3 : w5.cell? ⟨w2.heap.size + 1, 3, none⟩ = some (.slice A2 t2.ks.length c2) := cell_of_blk K6.out rfl
    clear hx hr2
    go_wp2_with fail
    refine HAS.out.mono ?_
    rintro e w6 ⟨hk6, hb6, ho6⟩
    have HK6 := Lib.hid (HK5.out.trans (Kpt.less (C := C) hk6))
    have HB6 := Lib.hid (show Below C.w.heap.size C.w w6 from hb6)
    have ho6' : match assertO C.F t2 false r2 with
     | .gas => True
     | .err x => e = failE x
     | .ok r => (∃ u, e = .returned u) ∧ RI (C.plus W.heap.size hi) w6 r := ho6
    clear q0 q1 q2 q3 hk6 hb6 ho6
    cases hy : assertO C.F t2 false r2 with
    | gas => exact absurd (by rw [HBR3.out, hy]) HGA.out
    | err x =>
     rw [hy] at ho6'
     subst ho6'
     refine ⟨rfl, HK6.out, HB6.out, ?_⟩
     rw [HBR3.out, hy]
    | ok r3 =>
     rw [hy] at ho6'
     obtain ⟨⟨u3, rfl⟩, hr3⟩ := ho6'
     have HR6 := Lib.hid hr3.less
     have HBR4 := Lib.hid (show brO C.p.prs C.F g back t r = .ok r3 by rw [HBR3.out, hy])
     clear hr3 hy
     go_wp2_with fail
     go_end0
     refine ⟨HK6.out, HB6.out, ?_⟩
     rw [HBR4.out]
     exact ⟨⟨_, rfl⟩, HR6.out⟩
  ·skip
   have hI : 1 < t.ks.length := by have := HKL.out; omega
   have hI1 : (1 : Int) < (t.ks.length : Int) := by omega
   obtain ⟨a, u, Au, cu, rfl, -, hu, ⟨p0, p1, p2, p3⟩, hnu⟩ := HROW.out.nd hI
   have hku : kid t 1 = u := by unfold kid; rw [List.getD_eq_getElem?_getD, List.getElem?_eq_getElem hI]; exact hu.out
   have HGU := Lib.hid (show ∀ x ∈ u.ks, G C.p.prs x by rw [← hku]; exact hG1)
   have HBR2 := Lib.hid (show brO C.p.prs C.F g back t r = (runO C.p.prs C.F g back u r1).bind (assertO C.F t2 true) by rw [HBR.out]; simp only [Bool.false_eq_true, if_false, if_true, hku])
   have hgu : runO C.p.prs C.F g back u r1 ≠ .gas := fun e => HGA.out (by rw [HBR2.out, e]; rfl)
   have HBK := Lib.hid (iblock_any HS.out HC3.out HR4.out u _ back hnu HGU.out hgu)
   have ha : a.add (1 * 4) = ⟨a.block, a.off + 4, none⟩ := by unfold Addr.add; split <;> simp_all
   rw [ha] at p0 p1 p2 p3
   have q0 : w4.cell? ⟨a.block, a.off + 4, none⟩ = some (.int .u8 u.k) := cell_bl HB4.out p0
   have q1 : w4.cell? ⟨a.block, a.off + 4 + 1, none⟩ = some (.int .i64 u.n) := cell_bl HB4.out p1
   have q2 : w4.cell? ⟨a.block, a.off + 4 + 2, none⟩ = some (.string u.s) := cell_bl HB4.out p2
   have q3 : w4.cell? ⟨a.block, a.off + 4 + 3, none⟩ = some (.slice Au u.ks.length cu) := cell_bl HB4.out p3
   clear hku hnu hu p0 p1 p2 p3 hgu
   go_wp2_with fail
   refine HBK.out.mono ?_
   rintro e w5 ⟨hk5, hb5, ho5⟩
   have HK5 := Lib.hid (HK4.out.trans (Kpt.less (C := C) hk5))
   have HB5 := Lib.hid (show Below C.w.heap.size C.w w5 from hb5)
   have ho5' : match runO C.p.prs C.F g back u r1 with
    | .gas => True
    | .err x => e = failE x
    | .ok r => (∃ u, e = .returned u) ∧ RI (C.plus W.heap.size hi) w5 r := ho5
   have k5 := hk5.blk (.inr (.inr ⟨by omega, l2⟩)) K5.out
   have K6 := Lib.hid k5
   clear q0 q1 q2 q3 z3 hk5 hb5 ho5 k5
   cases hx : runO C.p.prs C.F g back u r1 with
   | gas => exact absurd (by rw [HBR2.out, hx]; rfl) HGA.out
   | err x =>
    rw [hx] at ho5'
    subst ho5'
    refine ⟨rfl, HK5.out, HB5.out, ?_⟩
    rw [HBR2.out, hx]
    rfl
   | ok r2 =>
    rw [hx] at ho5'
    obtain ⟨⟨u2, rfl⟩, hr2⟩ := ho5'
    have HAS := Lib.hid (assert_any HC3.out hr2 t2 _ HN2.out true)
    have HBR3 := Lib.hid (show brO C.p.prs C.F g back t r = assertO C.F t2 true r2 by rw [HBR2.out, hx]; rfl)
    have q0 : w5.cell? ⟨w2.heap.size + 1, 0, none⟩ = some (.int .u8 t2.k) := cell_of_blk K6.out rfl
    have q1 : w5.cell? ⟨w2.heap.size + 1, 1, none⟩ = some (.int .i64 t2.n) := cell_of_blk K6.out rfl
    have q2 : w5.cell? ⟨w2.heap.size + 1, 2, none⟩ = some (.string t2.s) := cell_of_blk K6.out rfl
    have q3 : w5.cell? ⟨w2.heap.size + 1, 3, none⟩ = some (.slice A2 t2.ks.length c2) := cell_of_blk K6.out rfl
    clear hx hr2
    go_wp2_with fail
    refine HAS.out.mono ?_
    rintro e w6 ⟨hk6, hb6, ho6⟩
    have HK6 := Lib.hid (HK5.out.trans (Kpt.less (C := C) hk6))
    have HB6 := Lib.hid (show Below C.w.heap.size C.w w6 from hb6)
    have ho6' : match assertO C.F t2 true r2 with
     | .gas => True
     | .err x => e = failE x
     | .ok r => (∃ u, e = .returned u) ∧ RI (C.plus W.heap.size hi) w6 r := ho6
    clear q0 q1 q2 q3 hk6 hb6 ho6
    cases hy : assertO C.F t2 true r2 with
    | gas => exact absurd (by rw [HBR3.out, hy]) HGA.out
    | err x =>
     rw [hy] at ho6'
     subst ho6'
     refine ⟨rfl, HK6.out, HB6.out, ?_⟩
     rw [HBR3.out, hy]
    | ok r3 =>
     rw [hy] at ho6'
     obtain ⟨⟨u3, rfl⟩, hr3⟩ := ho6'
     have HR6 := Lib.hid hr3.less
     have HBR4 := Lib.hid (show brO C.p.prs C.F g back t r = .ok r3 by rw [HBR3.out, hy])
     clear hr3 hy
     go_wp2_with fail
     go_end0
     refine ⟨HK6.out, HB6.out, ?_⟩
     rw [HBR4.out]
     exact ⟨⟨_, rfl⟩, HR6.out⟩
end Go.Proofs.YtgnfpcebmefhoaaGreat
namespace Go.Proofs.YtgnfpcebmefhoaaGreat
open Go Go.RowKit
def Up (n : Nat) (o : Out) : Prop := ∀ r, o = .ok r → n ≤ r.n
section
variable {m n : Nat} {o : Out} {F : Int} {t : T} {r : RS}
theorem Up.of (h : Good n o) : Up n o := h.2
theorem Up.mono (h : Up n o) (hm : m ≤ n) : Up m o := fun r e => Nat.le_trans hm (h r e)
theorem Up.bind {f : RS → Out} (h : Up n o) (hf : ∀ r, n ≤ r.n → Up m (f r)) : Up m (o.bind f) := by
 cases o with
 | gas => intro r e; cases e
 | err x => intro r e; cases e
 | ok r => exact hf r (h r rfl)
theorem valO_up {f : Int → RS → Out} (hf : ∀ x, Up m (f x r)) : Up m (valO t r f) := by
 unfold valO
 split
 ·intro r e; cases e
 ·exact hf _
theorem holdsO_up {f : Bool → RS → Out} (hf : ∀ b r', r.n + 1 ≤ r'.n → Up m (f b r')) : Up m (holdsO F t r f) := by
 unfold holdsO
 exact (Up.of (stepO_good F r)).bind fun r' h => valO_up fun x => hf _ _ h
theorem bodyO_up {f : T → RS → Out} (hf : ∀ t r, Up r.n (f t r)) : ∀ (l : List T) (r : RS), Up r.n (bodyO f l r)
 | [], r => fun r' e => by injection e with e; subst e; exact Nat.le_refl _
 | t :: ts, r => by
  rw [bodyO]
  exact (hf t r).bind fun r1 h1 => (bodyO_up hf ts r1).mono h1
theorem loopO_up {f : T → RS → Out} (hf : ∀ t r, Up r.n (f t r)) {entry test : T} {l1 l2 : List T} : ∀ (m : Nat) (r : RS), Up r.n (loopO F f entry test l1 l2 m r)
 | 0, _ => fun r' e => by cases e
 | m + 1, r => by
  rw [loopO]
  refine (bodyO_up hf l1 r).bind fun r1 h1 => holdsO_up fun b r2 h2 => ?_
  split
  ·intro r' e; injection e with e; subst e; omega
  ·refine (bodyO_up hf l2 r2).bind fun r3 h3 => (Up.of (assertO_good F entry false r3)).bind fun r4 h4 => ?_
   exact (loopO_up hf m r4).mono (by omega)
end
theorem execO_up {prs : List PR} {F : Int} : ∀ (g : Nat) (back : Bool) (t : T) (r : RS), Up r.n (execO prs F g back t r)
 | 0, _, _, _ => fun r' e => by cases e
 | g + 1, back, t, r => by
  have hb : ∀ (back : Bool) l r1, Up r1.n (bodyO (execO prs F g back) l r1) := fun back l r1 => bodyO_up (fun u r2 => execO_up g back u r2) l r1
  rw [execO]
  split
  ·exact holdsO_up fun b r1 h1 => (hb _ _ r1).bind fun r2 h2 => (Up.of (assertO_good _ _ _ _)).mono (by omega)
  ·split
   ·refine (Up.of (assertO_good _ _ _ _)).bind fun r1 h1 => ?_
    exact (loopO_up (fun u r2 => execO_up g back u r2) g r1).mono (by omega)
   ·split
    ·refine (Up.of (stepO_good F r)).bind fun r1 h1 => valO_up fun x => ?_
     refine (Up.of (storeO_good r1 _)).bind fun r2 h2 => (hb _ _ r2).bind fun r3 h3 => (Up.of (stepO_good F r3)).bind fun r4 h4 => valO_up fun x => ?_
     exact (Up.of (storeO_good r4 _)).mono (by omega)
    ·split
     ·refine (Up.of (stepO_good F r)).bind fun r1 h1 => ?_
      refine (Up.of (storeO_good r1 _)).bind fun r2 h2 => (hb _ _ r2).bind fun r3 h3 => (Up.of (stepO_good F r3)).bind fun r4 h4 => ?_
      exact (Up.of (storeO_good r4 _)).mono (by omega)
     ·split
      ·split
       ·intro r' e; cases e
       ·refine (Up.of (stepO_good F r)).bind fun r1 h1 => ?_
        refine (Up.of (storeO_good r1 _)).bind fun r2 h2 => (hb _ _ _).bind fun r3 h3 => (Up.of (stepO_good F r3)).bind fun r4 h4 => ?_
        exact (Up.of (storeO_good r4 _)).mono (by simp only at h3; omega)
      ·refine (Up.of (stepO_good F r)).bind fun r1 h1 => ?_
       exact (Up.of (storeO_good r1 _)).mono (by omega)
end Go.Proofs.YtgnfpcebmefhoaaGreat
namespace Go.Proofs.YtgnfpcebmefhoaaGreat
open Go Go.RowKit
def lpO (prs : List PR) (F : Int) (g : Nat) (back : Bool) (t : T) (r : RS) : Out :=
 (assertO F (fstT back t) true r).bind (loopO F (execO prs F g back) (fstT back t) (lstT back t) (blkL back (kid t 1)) (blkL back (kid t 2)) g)
def stp (rb : Nat) (W : World) : Nat := match W.cell? ⟨rb, 7, none⟩ with
 | some (.int _ n) => n.toNat
 | _ => 0
theorem stp_eq {C : RC} {W : World} {r : RS} (h : RI C W r) : stp C.rb W = r.n := by
 unfold stp
 rw [h.cells.2.1]
 simp
set_option maxHeartbeats 800000 in
set_option maxRecDepth 100000 in
theorem loop_any {G : List PR → T → Prop} {g : Nat} (hS : IStC G g) {C : RC} (hC : C.Ok) {W : World} {r : RS} (h : RI C W r) (t : T) (v : Value) (back : Bool) (hv : NV C.w Any t v) (hk : t.ks.length = 4) (hG1 : ∀ u ∈ (kid t 1).ks, G C.p.prs u) (hG2 : ∀ u ∈ (kid t 2).ks, G C.p.prs u)
  (hgas : lpO C.p.prs C.F g back t r ≠ .gas) :
  Calls Tryz.prog 102 #[.pointer (some ⟨C.rb, 0, none⟩), v, .bool back] W (RunP C W (lpO C.p.prs C.F g back t r)) := by
 obtain ⟨A, c, rfl, -, hlk, hlc, hrow⟩ := hv.open_
 have HROW := Lib.hid hrow
 have HS := Lib.hid hS
 have HV := Lib.hid hv
 have hb0 := bl_al (Below.refl W.heap.size W) (.cells #[.int .u8 t.k, .int .i64 t.n, .string t.s, .slice A t.ks.length c] 26)
 obtain ⟨x0, x1, x2, x3⟩ := box4 (heap_alloc_new W (.cells #[.int .u8 t.k, .int .i64 t.n, .string t.s, .slice A t.ks.length c] 26))
 have HB0 := Lib.hid hb0
 have H := Lib.hid h
 have HC := Lib.hid hC
 have HX := Lib.hid (heap_alloc_new W (.cells #[.int .u8 t.k, .int .i64 t.n, .string t.s, .slice A t.ks.length c] 26))
 have HEN := Lib.hid (fun w' (hb : Below W.heap.size W w') => ends_any t _ back C.w w' (bl_tt h.below hb) hv (by omega))
 have HKL := Lib.hid hk
 clear hrow hS hb0 h hv hk hC hlk
 go_enter Tryz.func102, Tryz.ntmps102
 go_wp2_with fail
 refine (HEN.out _ HB0.out).mono ?_
 rintro e w2 ⟨v1, v2, rfl, n1, n2, b2⟩
 obtain ⟨t1, ht1⟩ : ∃ x, fstT back t = x := ⟨_, rfl⟩
 obtain ⟨t2, ht2⟩ : ∃ x, lstT back t = x := ⟨_, rfl⟩
 have HT1 := Lib.hid ht1
 have HT2 := Lib.hid ht2
 rw [ht1] at n1
 rw [ht2] at n2
 obtain ⟨A1, c1, rfl, -⟩ := n1.open_
 obtain ⟨A2, c2, rfl, -⟩ := n2.open_
 have HN1 := Lib.hid n1
 have HN2 := Lib.hid n2
 have b3 := bl_al (bl_al (bl_tt HB0.out b2) (.cells #[.int .u8 t1.k, .int .i64 t1.n, .string t1.s, .slice A1 t1.ks.length c1] 26)) (.cells #[.int .u8 t2.k, .int .i64 t2.n, .string t2.s, .slice A2 t2.ks.length c2] 26)
 have k0 := blk_al (blk_al (blk_bl HX.out b2) (.cells #[.int .u8 t1.k, .int .i64 t1.n, .string t1.s, .slice A1 t1.ks.length c1] 26)) (.cells #[.int .u8 t2.k, .int .i64 t2.n, .string t2.s, .slice A2 t2.ks.length c2] 26)
 have k1 := blk_al (heap_alloc_new w2 (.cells #[.int .u8 t1.k, .int .i64 t1.n, .string t1.s, .slice A1 t1.ks.length c1] 26)) (.cells #[.int .u8 t2.k, .int .i64 t2.n, .string t2.s, .slice A2 t2.ks.length c2] 26)
 have k2 := heap_alloc_new (w2.alloc (.cells #[.int .u8 t1.k, .int .i64 t1.n, .string t1.s, .slice A1 t1.ks.length c1] 26)) (.cells #[.int .u8 t2.k, .int .i64 t2.n, .string t2.s, .slice A2 t2.ks.length c2] 26)
 simp only [World.size_alloc] at k2
 obtain ⟨w3, hw3⟩ : ∃ x, (w2.alloc (.cells #[.int .u8 t1.k, .int .i64 t1.n, .string t1.s, .slice A1 t1.ks.length c1] 26)).alloc (.cells #[.int .u8 t2.k, .int .i64 t2.n, .string t2.s, .slice A2 t2.ks.length c2] 26) = x := ⟨_, rfl⟩
 rw [hw3] at b3 k0 k1 k2
 have hz2 := bl_tt HB0.out b2
 have hzz := hz2.size
 obtain ⟨hC3, h3⟩ := H.out.plus HC.out b3
 have HP3 := Lib.hid (Kpt.of_below (n0 := C.n0) (kb := C.kb) b3)
 have l0 := blk_lt k0
 have l1 := blk_lt k1
 have l2 := blk_lt k2
 obtain ⟨hi, hhi⟩ : ∃ x, w3.heap.size = x := ⟨_, rfl⟩
 rw [hhi] at hC3 h3 l0 l1 l2
 have HC3 := Lib.hid hC3
 have H3 := Lib.hid h3
 have K0 := Lib.hid k0
 have K1 := Lib.hid k1
 have K2 := Lib.hid k2
 have HHO := Lib.hid (assert_any hC3 h3 t1 _ n1 true)
 obtain ⟨p1, ⟨y0, y1, y2, y3⟩⟩ : True ∧ (w3.cell? ⟨w2.heap.size, 0, none⟩ = some (.int .u8 t1.k) ∧ w3.cell? ⟨w2.heap.size, 1, none⟩ = some (.int .i64 t1.n) ∧ w3.cell? ⟨w2.heap.size, 2, none⟩ = some (.string t1.s) ∧ w3.cell? ⟨w2.heap.size, 3, none⟩ = some (.slice A1 t1.ks.length c1)) := ⟨trivial, cell_of_blk k1 rfl, cell_of_blk k1 rfl, cell_of_blk k1 rfl, cell_of_blk k1 rfl⟩
 clear n1 n2 b2 b3 k0 k1 k2 hz2 hC3 h3 x0 x1 x2 x3 HX HB0 HEN p1 ht1 ht2
 go_upto_region 2 with fail
 clear hw3
 obtain ⟨o, ho⟩ : ∃ o, lpO C.p.prs C.F g back t r = o := ⟨_, rfl⟩
 have HO := Lib.hid (show (assertO C.F t1 true r).bind (loopO C.F (execO C.p.prs C.F g back) t1 t2 (blkL back (kid t 1)) (blkL back (kid t 2)) g) = o by rw [← ho]; unfold lpO; rw [HT1.out, HT2.out])
 rw [ho] at hgas ⊢
 have HGA := Lib.hid hgas
 have HLP := Lib.hid ho
 clear hgas ho
 go_wp2_with fail
 refine HHO.out.mono ?_
 rintro e w4 ⟨hk4, hb4, ho4⟩
 have HK4 := Lib.hid (HP3.out.trans (Kpt.less (C := C) hk4))
 have HB4 := Lib.hid (show Below C.w.heap.size C.w w4 from hb4)
 have ho4' : match assertO C.F t1 true r with
  | .gas => True
  | .err x => e = failE x
  | .ok r => (∃ u, e = .returned u) ∧ RI (C.plus W.heap.size hi) w4 r := ho4
 have HK34 := Lib.hid hk4
 clear y0 y1 y2 y3 HHO hk4 hb4 ho4
 cases hy : assertO C.F t1 true r with
 | gas => exact absurd (by rw [← HO.out, hy]; rfl) HGA.out
 | err x =>
  rw [hy] at ho4'
  subst ho4'
  refine ⟨rfl, HK4.out, HB4.out, ?_⟩
  rw [← HO.out, hy]
  rfl
 | ok r1 =>
  rw [hy] at ho4'
  obtain ⟨⟨u3, rfl⟩, hr1⟩ := ho4'
  have HR4 := Lib.hid hr1
  have HO4 := Lib.hid (show loopO C.F (execO C.p.prs C.F g back) t1 t2 (blkL back (kid t 1)) (blkL back (kid t 2)) g r1 = o by rw [← HO.out, hy]; rfl)
  clear hr1 hy
  have hI1 : (1 : Int) < (t.ks.length : Int) := by have := HKL.out; omega
  have hI2 : (2 : Int) < (t.ks.length : Int) := by have := HKL.out; omega
  have hi1 : 1 < t.ks.length := by omega
  have hi2 : 2 < t.ks.length := by omega
  obtain ⟨a, u, Au, cu, rfl, -, hu, ⟨p0, p1, p2, p3⟩, hnu⟩ := HROW.out.nd hi1
  obtain ⟨a', u', Au', cu', e', -, hu', ⟨p4, p5, p6, p7⟩, hnu'⟩ := HROW.out.nd hi2
  injection e' with e'
  subst e'
  have hku : kid t 1 = u := by unfold kid; rw [List.getD_eq_getElem?_getD, List.getElem?_eq_getElem hi1]; exact hu.out
  have hku' : kid t 2 = u' := by unfold kid; rw [List.getD_eq_getElem?_getD, List.getElem?_eq_getElem hi2]; exact hu'.out
  rw [hku] at hG1
  rw [hku'] at hG2
  rw [hku, hku'] at HO4
  have HG1 := Lib.hid hG1
  have HG2 := Lib.hid hG2
  have HNU := Lib.hid hnu
  have HNU' := Lib.hid hnu'
  have ha : a.add (1 * 4) = ⟨a.block, a.off + 4, none⟩ := by unfold Addr.add; split <;> simp_all
  have ha' : a.add (2 * 4) = ⟨a.block, a.off + 8, none⟩ := by unfold Addr.add; split <;> simp_all
  rw [ha] at p0 p1 p2 p3
  rw [ha'] at p4 p5 p6 p7
  have HPP := Lib.hid (show ∀ w', Below C.w.heap.size C.w w' → (w'.cell? ⟨a.block, a.off + 4, none⟩ = some (.int .u8 u.k) ∧ w'.cell? ⟨a.block, a.off + 4 + 1, none⟩ = some (.int .i64 u.n) ∧ w'.cell? ⟨a.block, a.off + 4 + 2, none⟩ = some (.string u.s) ∧ w'.cell? ⟨a.block, a.off + 4 + 3, none⟩ = some (.slice Au u.ks.length cu)) ∧ (w'.cell? ⟨a.block, a.off + 8, none⟩ = some (.int .u8 u'.k) ∧ w'.cell? ⟨a.block, a.off + 8 + 1, none⟩ = some (.int .i64 u'.n) ∧ w'.cell? ⟨a.block, a.off + 8 + 2, none⟩ = some (.string u'.s) ∧ w'.cell? ⟨a.block, a.off + 8 + 3, none⟩ = some (.slice Au' u'.ks.length cu')) from fun w' hb => ⟨⟨cell_bl hb p0, cell_bl hb p1, cell_bl hb p2, cell_bl hb p3⟩, ⟨cell_bl hb p4, cell_bl hb p5, cell_bl hb p6, cell_bl hb p7⟩⟩)
  clear hku hku' hnu hnu' hu hu' p0 p1 p2 p3 p4 p5 p6 p7 ha ha' hG1 hG2
  have hz0 : W.heap.size < hi := l0
  go_wp2_with fail
  go_loopw [] (fun wr => ∃ (m : Nat) (r1 : RS), Hid (RI (C.plus W.heap.size hi) wr r1) ∧ Hid (Kpt C.n0 (C.plus W.heap.size hi).kb w3 wr) ∧ Hid (loopO C.F (execO C.p.prs C.F g back) t1 t2 (blkL back u) (blkL back u') m r1 = o)) (fun wr => C.F.toNat - stp C.rb wr)
  case atStart => exact ⟨g, r1, HR4, HK34, HO4⟩
  case round =>
   obtain ⟨m, r3, HR, HK, HL⟩ := hrel
   have j0 := HK.out.blk (.inr (.inr ⟨by omega, l0⟩)) K0.out
   have j1 := HK.out.blk (.inr (.inr ⟨by omega, l1⟩)) K1.out
   have j2 := HK.out.blk (.inr (.inr ⟨by omega, l2⟩)) K2.out
   have z3 : wr.cell? ⟨W.heap.size, 3, none⟩ = some (.slice (some a) t.ks.length c) := cell_of_blk j0 rfl
   cases m with
   | zero => exact absurd HL.out.symm HGA.out
   | succ m =>
    have HL2 := Lib.hid (show (runO C.p.prs C.F g back u r3).bind (fun r => holdsO C.F t2 r fun b r => if b = true then .ok r else (runO C.p.prs C.F g back u' r).bind fun r => (assertO C.F t1 false r).bind (loopO C.F (execO C.p.prs C.F g back) t1 t2 (blkL back u) (blkL back u') m)) = o from HL.out)
    have hgu : runO C.p.prs C.F g back u r3 ≠ .gas := fun e => HGA.out (by rw [← HL2.out, e]; rfl)
    have HBK := Lib.hid (iblock_any HS.out HC3.out HR.out u _ back HNU.out HG1.out hgu)
    obtain ⟨⟨q0, q1, q2, q3⟩, -⟩ := HPP.out wr HR.out.below
    clear hgu j0 j1 j2
    go_wp2_with fail
    refine HBK.out.mono ?_
    rintro e w5 ⟨hk5, hb5, ho5⟩
    have HK5 := Lib.hid (HK.out.trans hk5)
    have HB5 := Lib.hid (show Below C.w.heap.size C.w w5 from hb5)
    have ho5' : match runO C.p.prs C.F g back u r3 with
     | .gas => True
     | .err x => e = failE x
     | .ok r => (∃ u, e = .returned u) ∧ RI (C.plus W.heap.size hi) w5 r := ho5
    clear q0 q1 q2 q3 z3 hk5 hb5 ho5 HBK
    cases hx : runO C.p.prs C.F g back u r3 with
    | gas => exact absurd (by rw [← HL2.out, hx]; rfl) HGA.out
    | err x =>
     rw [hx] at ho5'
     subst ho5'
     refine ⟨rfl, HP3.out.trans (Kpt.less (C := C) HK5.out), HB5.out, ?_⟩
     try rw [HLP.out]
     rw [← HL2.out, hx]
     rfl
    | ok r4 =>
     rw [hx] at ho5'
     obtain ⟨⟨u2, rfl⟩, hr4⟩ := ho5'
     have HUP := Lib.hid (bodyO_up (fun t r => execO_up g back t r) (blkL back u) r3 r4 hx)
     have HL3 := Lib.hid (show (holdsO C.F t2 r4 fun b r => if b = true then .ok r else (runO C.p.prs C.F g back u' r).bind fun r => (assertO C.F t1 false r).bind (loopO C.F (execO C.p.prs C.F g back) t1 t2 (blkL back u) (blkL back u') m)) = o by rw [← HL2.out, hx]; rfl)
     have HHO2 := Lib.hid (holds_any HC3.out hr4 t2 _ HN2.out)
     have j2 := HK5.out.blk (.inr (.inr ⟨by omega, l2⟩)) K2.out
     have q0 : w5.cell? ⟨w2.heap.size + 1, 0, none⟩ = some (.int .u8 t2.k) := cell_of_blk j2 rfl
     have q1 : w5.cell? ⟨w2.heap.size + 1, 1, none⟩ = some (.int .i64 t2.n) := cell_of_blk j2 rfl
     have q2 : w5.cell? ⟨w2.heap.size + 1, 2, none⟩ = some (.string t2.s) := cell_of_blk j2 rfl
     have q3 : w5.cell? ⟨w2.heap.size + 1, 3, none⟩ = some (.slice A2 t2.ks.length c2) := cell_of_blk j2 rfl
     clear hx hr4 j2
     go_wp2_with fail
     refine HHO2.out.mono ?_
     rintro e w6 ⟨hk6, hb6, ho6⟩
     have HK6 := Lib.hid (HK5.out.trans hk6)
     have HB6 := Lib.hid (show Below C.w.heap.size C.w w6 from hb6)
     clear q0 q1 q2 q3 hk6 hb6 HHO2
     rcases ho6 with ⟨x, rfl, hx⟩ | ⟨b, r5, rfl, hr5, hx⟩
     ·refine ⟨rfl, HP3.out.trans (Kpt.less (C := C) HK6.out), HB6.out, ?_⟩
      try rw [HLP.out]
      rw [← HL3.out, show ∀ f, holdsO C.F t2 r4 f = .err x from hx]
     ·have HR6 := Lib.hid hr5
      have HL4 := Lib.hid (show (if b = true then .ok r5 else (runO C.p.prs C.F g back u' r5).bind fun r => (assertO C.F t1 false r).bind (loopO C.F (execO C.p.prs C.F g back) t1 t2 (blkL back u) (blkL back u') m)) = o by rw [← HL3.out, show ∀ f, holdsO C.F t2 r4 f = f b r5 from hx])
      have HUP2 := Lib.hid (holdsO_up (t := t2) (F := C.F) (r := r4) (m := r4.n + 1) (f := fun _ r => .ok r) (fun b r' h r'' e => by injection e with e; subst e; exact h) r5 (hx _))
      clear hx hr5
      cases b
      ·have HL5 := Lib.hid (show (runO C.p.prs C.F g back u' r5).bind (fun r => (assertO C.F t1 false r).bind (loopO C.F (execO C.p.prs C.F g back) t1 t2 (blkL back u) (blkL back u') m)) = o from HL4.out)
       have hgu : runO C.p.prs C.F g back u' r5 ≠ .gas := fun e => HGA.out (by rw [← HL5.out, e]; rfl)
       have HBK := Lib.hid (iblock_any HS.out HC3.out HR6.out u' _ back HNU'.out HG2.out hgu)
       have j0 := HK6.out.blk (.inr (.inr ⟨by omega, l0⟩)) K0.out
       have z3 : w6.cell? ⟨W.heap.size, 3, none⟩ = some (.slice (some a) t.ks.length c) := cell_of_blk j0 rfl
       obtain ⟨-, q0, q1, q2, q3⟩ := HPP.out w6 HB6.out
       clear hgu j0
       go_wp2_with fail
       refine HBK.out.mono ?_
       rintro e w7 ⟨hk7, hb7, ho7⟩
       have HK7 := Lib.hid (HK6.out.trans hk7)
       have HB7 := Lib.hid (show Below C.w.heap.size C.w w7 from hb7)
       have ho7' : match runO C.p.prs C.F g back u' r5 with
        | .gas => True
        | .err x => e = failE x
        | .ok r => (∃ u, e = .returned u) ∧ RI (C.plus W.heap.size hi) w7 r := ho7
       clear q0 q1 q2 q3 z3 hk7 hb7 ho7 HBK
       cases hx : runO C.p.prs C.F g back u' r5 with
       | gas => exact absurd (by rw [← HL5.out, hx]; rfl) HGA.out
       | err x =>
        rw [hx] at ho7'
        subst ho7'
        refine ⟨rfl, HP3.out.trans (Kpt.less (C := C) HK7.out), HB7.out, ?_⟩
        try rw [HLP.out]
        rw [← HL5.out, hx]
        rfl
       | ok r6 =>
        rw [hx] at ho7'
        obtain ⟨⟨u2, rfl⟩, hr6⟩ := ho7'
        have HUP3 := Lib.hid (bodyO_up (fun t r => execO_up g back t r) (blkL back u') r5 r6 hx)
        have HL6 := Lib.hid (show (assertO C.F t1 false r6).bind (loopO C.F (execO C.p.prs C.F g back) t1 t2 (blkL back u) (blkL back u') m) = o by rw [← HL5.out, hx]; rfl)
        have HAS := Lib.hid (assert_any HC3.out hr6 t1 _ HN1.out false)
        have j1 := HK7.out.blk (.inr (.inr ⟨by omega, l1⟩)) K1.out
        have q0 : w7.cell? ⟨w2.heap.size, 0, none⟩ = some (.int .u8 t1.k) := cell_of_blk j1 rfl
        have q1 : w7.cell? ⟨w2.heap.size, 1, none⟩ = some (.int .i64 t1.n) := cell_of_blk j1 rfl
        have q2 : w7.cell? ⟨w2.heap.size, 2, none⟩ = some (.string t1.s) := cell_of_blk j1 rfl
        have q3 : w7.cell? ⟨w2.heap.size, 3, none⟩ = some (.slice A1 t1.ks.length c1) := cell_of_blk j1 rfl
        clear hx hr6 j1
        go_wp2_with fail
        refine HAS.out.mono ?_
        rintro e w8 ⟨hk8, hb8, ho8⟩
        have HK8 := Lib.hid (HK7.out.trans hk8)
        have HB8 := Lib.hid (show Below C.w.heap.size C.w w8 from hb8)
        have ho8' : match assertO C.F t1 false r6 with
         | .gas => True
         | .err x => e = failE x
         | .ok r => (∃ u, e = .returned u) ∧ RI (C.plus W.heap.size hi) w8 r := ho8
        clear q0 q1 q2 q3 hk8 hb8 ho8 HAS
        cases hy : assertO C.F t1 false r6 with
        | gas => exact absurd (by rw [← HL6.out, hy]; rfl) HGA.out
        | err x =>
         rw [hy] at ho8'
         subst ho8'
         refine ⟨rfl, HP3.out.trans (Kpt.less (C := C) HK8.out), HB8.out, ?_⟩
         try rw [HLP.out]
         rw [← HL6.out, hy]
         rfl
        | ok r7 =>
         rw [hy] at ho8'
         obtain ⟨⟨u3, rfl⟩, hr7⟩ := ho8'
         have HR7 := Lib.hid hr7
         have HL7 := Lib.hid (show loopO C.F (execO C.p.prs C.F g back) t1 t2 (blkL back u) (blkL back u') m r7 = o by rw [← HL6.out, hy]; rfl)
         have hmm : C.F.toNat - stp C.rb w8 < C.F.toNat - stp C.rb wr := by
          have e1 : stp C.rb w8 = r7.n := stp_eq (C := C.plus W.heap.size hi) HR7.out
          have e2 : stp C.rb wr = r3.n := stp_eq (C := C.plus W.heap.size hi) HR.out
          obtain ⟨e3, e4⟩ := assertO_ok hy
          have e5 := HUP.out
          have e6 := HUP2.out
          have e7 := HUP3.out
          have e8 : r7.n = r6.n + 1 := by rw [e3]
          omega
         have HMM := Lib.hid hmm
         clear hr7 hy hmm
         go_wp2_with fail
         go_roundw
         case rel => exact ⟨m, r7, HR7, HK8, HL7⟩
         case measure => exact HMM.out
      ·have HL5 := Lib.hid (show o = .ok r5 from HL4.out.symm)
       have HR8 := Lib.hid HR6.out.less
       go_wp2_with fail
       go_end0
       refine ⟨HP3.out.trans (Kpt.less (C := C) HK6.out), HB6.out, ?_⟩
       try rw [HLP.out]
       rw [HL5.out]
       exact ⟨⟨_, rfl⟩, HR8.out⟩
end Go.Proofs.YtgnfpcebmefhoaaGreat
namespace Go.Proofs.YtgnfpcebmefhoaaGreat
open Go Go.RowKit
section
variable {C : RC} {W W' : World} {r : RS} {S' : ST}
theorem RI.store (h : RI C W r) (hk : KS C.w C.n0 C.sb (fun b => C.kb b ∨ b = C.rb ∨ C.ev.ownBlock = some b) W' S') (hp : Kpt C.n0 (fun b => C.kb b ∨ b = C.rb ∨ C.ev.ownBlock = some b) W W') (hf : FB r.n S') :
  RI C W' { r with S := S' } ∧ Kpt C.n0 C.kb W W' :=
 ⟨⟨hk, hp.blk (.inr (.inr (.inl rfl))) h.box, own_chg h.ent fun b hb => hp.kept b (h.ent.lt b hb).2 (.inr (.inr (.inr hb))), h.el, h.en, h.n, hf⟩, ⟨hp.size, fun b hb hk => hp.kept b hb (hk.imp id .inl)⟩⟩
end
theorem FB.fr {j : Nat} {S S' : ST} (h : FB j S) (hf : FrK S S') : FB (j + 1) S' := by
 obtain ⟨h1, h2, _⟩ := hf
 unfold FB
 rw [h1, h2]
 exact h.mono (Nat.le_succ _)
theorem FB.cur {j : Nat} {S : ST} (h : FB j S) : S.cur.vs.length ≤ 1000 + j := by
 rcases Nat.eq_zero_or_pos S.calls.length with h0 | h0
 ·rw [cur_0 h0]; have := h.1; omega
 ·rw [cur_1 h0]; exact h.2 _ (List.getElem_mem _)
theorem FB.setCur {j : Nat} {S : ST} (h : FB j S) (f : FR) (hf : f.vs.length ≤ S.cur.vs.length + 1) : FB (j + 1) (S.setCur f) := by
 unfold ST.setCur
 by_cases h0 : S.calls.length = 0
 ·rw [if_pos h0]
  rw [cur_0 h0] at hf
  exact ⟨by have := h.1; show f.vs.length ≤ _; omega, (h.mono (Nat.le_succ _)).2⟩
 ·rw [if_neg h0]
  refine ⟨(h.mono (Nat.le_succ _)).1, fun g hg => ?_⟩
  rw [cur_1 (by omega)] at hf
  rcases List.mem_or_eq_of_mem_set hg with hg | rfl
  ·exact (h.mono (Nat.le_succ _)).2 g hg
  ·have := h.2 _ (List.getElem_mem (l := S.calls) (n := S.calls.length - 1) (by omega)); omega
theorem FB.open_ {j : Nat} {S : ST} (h : FB j S) (v : VD) (x : Int) : FB (j + 1) (openE S v x).2 := by
 unfold openE
 repeat' split
 all_goals first | exact h.mono (Nat.le_succ _) | exact FB.setCur (S := S.newCell _) h _ (by rw [newCell_cur]; simp [FR.push])
theorem FB.close_ {j : Nat} {S : ST} (h : FB j S) (s : ByteArray) (x : Int) : FB (j + 1) (closeE S s x).2 := by
 unfold closeE
 repeat' split
 all_goals first | exact h.mono (Nat.le_succ _) | skip
 all_goals exact h.setCur _ (by simp [FR.pop]; omega)
theorem FB.enter {j : Nat} {S : ST} (h : FB j S) (ps : List VD) (ss : List ByteArray) (hp : ps.length ≤ 1000) : FB (j + 1) (enterE S ps ss).2 := by
 unfold enterE
 split
 ·exact h.mono (Nat.le_succ _)
 ·rcases he : entL S.cur ⟨[], [], 0⟩ (ps.zip ss) with e | f
  ·exact h.mono (Nat.le_succ _)
  ·unfold entR
   dsimp only
   split
   ·exact h.mono (Nat.le_succ _)
   ·refine ⟨(h.mono (Nat.le_succ _)).1, fun g hg => ?_⟩
    rcases List.mem_append.1 hg with hg | hg
    ·exact (h.mono (Nat.le_succ _)).2 g hg
    ·simp at hg
     subst hg
     have := entL_len _ _ _ he
     simp at this
     omega
theorem FB.leave {j : Nat} {S : ST} (h : FB j S) : FB (j + 1) (leaveE S).2 := by
 unfold leaveE
 split
 ·exact h.mono (Nat.le_succ _)
 ·exact ⟨(h.mono (Nat.le_succ _)).1, fun g hg => (h.mono (Nat.le_succ _)).2 g (List.mem_of_mem_take hg)⟩
theorem FB.do_ {j : Nat} {S : ST} (h : FB j S) (t : T) : FB (j + 1) (doE S t).2 := h.fr (doE_fr _ _)
theorem FB.undo {j : Nat} {S : ST} (h : FB j S) (t : T) : FB (j + 1) (undoE S t).2 := h.fr (undoE_fr _ _)
end Go.Proofs.YtgnfpcebmefhoaaGreat
namespace Go.Proofs.YtgnfpcebmefhoaaGreat
open Go Go.RowKit
theorem step_callP {P : Program} {ops : Array Oper} {o : Oper} {a : Act} {w : World} {K : Act → World → Prop} {Q : Exit → Act → World → Prop} {F : Prop} (hw : Region.wanted o (yielded ops a.tmps) = true) (x : Operand) (xs : List Operand) (ats : Array TypeId)
  (ho : o.op = .call { callee := .value x, args := xs.toArray, argTypes := ats }) (f : FuncId) (fn : Func) (hf : IsFn P f fn) (hv : a.eval x = .func (.func f) #[] #[]) (l : List Value) (hargs : xs.map a.eval = l) (R : Value → World → Prop)
  (hc : Calls P f l.toArray w fun e w' => (∃ v, e = .returned v ∧ R v w') ∨ ∃ ch, e = .panicked ch ∧ Q (.panic ch) a w') (h : ∀ v w', R v w' → K (a.put o.dst v) w') :
  if Region.wanted o (yielded ops a.tmps) = true then Oper.wp P o a w K Q else F := by
 rw [if_pos hw]
 subst hargs
 have e : (execOp a.eval o).run P w = .ok (.enter f (xs.map a.eval).toArray) w := by
  unfold execOp
  simp only [ho, resolve, hv, Deferred.ofValue, Sem.run_bind, Sem.run_pure, Result.andThen_ok, invoke, run_callFunc hf, Array.empty_append, List.map_toArray, Array.append_empty]
 unfold Oper.wp
 rw [e, Oper.upon_enter]
 refine hc.mono ?_
 rintro e w' (⟨v, rfl, hR⟩ | ⟨ch, rfl, hq⟩)
 ·exact h v w' hR
 ·exact hq
end Go.Proofs.YtgnfpcebmefhoaaGreat
