/-
  The contract of the reference's Block (backstepref46): the leftmost pair that cancels is removed until there is none.
-/
import Derived.Test.YtldcjboignbfpaaRefS
import Derived.Test.YtldcjboignbfpaaSlc
namespace Go.Proofs.Ytldcjboignbfpaa
open Go.RowKit

/-- The length of a slice value. -/
def slLen : Value → Nat
  | .slice _ l _ => l
  | _ => 0

theorem OwnN.base_le {w : World} {base base' : Nat} {E : TypeId} {S : Nat → Prop} {v : Value} {ts : List T} (h : OwnN w base E S v ts) (hb : base' ≤ base) : OwnN w base' E S v ts := by
  obtain ⟨xs, ho, hl, hn⟩ := h
  refine ⟨xs, ⟨ho.1, ?_⟩, hl, hn⟩
  rcases ho.2 with h | ⟨g, cap, cur, e, hg, rest⟩
  · exact .inl h
  · exact .inr ⟨g, cap, cur, e, by omega, rest⟩

theorem Red.take {l : List T} (h : Red l) (i : Nat) : Red (l.take i) := fun q hq => by
  have hq' : q + 1 < l.length := by simp at hq; omega
  have := h q hq'
  simpa using this
/-- One more element that does not cancel with the one before it. -/
theorem Red.grow {l : List T} {q : Nat} (h : Red (l.take (q + 1))) (hq : q + 1 < l.length) (hc : canc (l[q]'(by omega)) l[q + 1] = false) : Red (l.take (q + 2)) := fun i hi => by
  have hi' : i + 1 < q + 2 := by simp at hi; omega
  by_cases e : i = q
  · subst e; simpa using hc
  · have := h i (by simp; omega)
    simpa using this
theorem foldC_cut {l : List T} {q : Nat} (hq : q + 1 < l.length) (hc : canc (l[q]'(by omega)) l[q + 1] = true) : foldC (l.take q ++ l.drop (q + 2)) = foldC l := by
  have e : l = l.take q ++ [l[q]'(by omega), l[q + 1]] ++ l.drop (q + 2) := by
    have h1 : l.drop q = l[q]'(by omega) :: l.drop (q + 1) := List.drop_eq_getElem_cons (by omega)
    have h2 : l.drop (q + 1) = l[q + 1] :: l.drop (q + 2) := List.drop_eq_getElem_cons hq
    conv => lhs; rw [← List.take_append_drop q l, h1, h2]
    simp
  conv => rhs; rw [e]
  exact (foldC_inserts _ _ hc).symm

set_option maxHeartbeats 20000000 in
set_option maxRecDepth 100000 in
theorem RBlock_of (k n : Int) (s : ByteArray) (ks : List T) (S0 : Nat → Prop) (v : Value) (w : World) (hv : NV w S0 (.nd k n s ks) v) (hS : ∀ kid ∈ ks, isS kid = true)
    (hC : ∀ kid ∈ ks, ∀ (S : Nat → Prop) (v : Value) (w : World), NV w S kid v → Calls Try.prog 42 #[v] w (ShNode w S (stm kid))) :
    Calls Try.prog 20 #[v] w (ShNode w S0 (simp (.nd k n s ks))) := by
  obtain ⟨i0, hi0, hz0, hz1, hz2⟩ := info_parts nodeInfo
  obtain ⟨A, c, rfl, hf, hlk, hlc, hrow⟩ := hv.open_
  simp only [T.k_nd, T.n_nd, T.s_nd, T.ks_nd] at *
  have hlk' := LK_int hlk
  have HLK := Lib.hid hlk
  have HC := Lib.hid hC
  have HSS := Lib.hid hS
  have HROW := Lib.hid (show RowAt w (fun b => S0 b ∧ b < w.heap.size) A ks from hrow.keep (fun b hb hlt => ⟨hb, hlt⟩) fun _ _ _ => rfl)
  clear hv hC hS hf hrow hlk
  obtain ⟨l, hl⟩ : ∃ l, ks.length = l := ⟨_, rfl⟩
  rw [hl] at hlc hlk' ⊢
  have HL := Lib.hid hl
  clear hl
  have hbs := build1
  go_enter Try.func20, Try.ntmps20
  go_wp2_with fail
  go_loopw [3, 4] (fun x i wr => ∃ j : Nat, j ≤ l ∧ i = .int .i64 j ∧ OwnN wr (w.heap.size + 2) 24 (fun b => (S0 b ∧ b < w.heap.size) ∨ w.heap.size + 2 ≤ b) x ((ks.take j).map stm) ∧ Below (w.heap.size + 2) ((w.alloc (.cells #[.int .u8 k, .int .i64 n, .string s, .slice A l c] 24)).alloc (.cells #[.int .u8 0, .int .i64 0, .string ⟨#[]⟩, .slice none 0 0] 24)) wr) (fun _ i _ => l - (intOf i).toNat)
  case atStart => exact ⟨0, Nat.zero_le _, rfl, OwnN.nil _ _ _ _, Below.refl _ _⟩
  case round =>
    obtain ⟨j, hj, rfl, hown, hb⟩ := hrel
    have hb0 : Below w.heap.size w wr := (((Below.refl _ _).alloc (Nat.le_refl _) _).alloc (by simp) _).trans (hb.mono (by omega))
    have hsz : w.heap.size + 2 ≤ wr.heap.size := by have := hb.size; simpa using this
    have a3 : wr.cell? ⟨w.heap.size, 3, none⟩ = some (.slice A l c) := (hb.cell (p := ⟨w.heap.size, 3, none⟩) (by simp)).trans (by simp)
    by_cases hlt : j < l
    · have hi : j < ks.length := by rw [HL.out]; exact hlt
      obtain ⟨a, t, A', c', rfl, _, Ht, ⟨c0, c1, c2, c3⟩, hn⟩ := (HROW.out.later hb0).nd hi
      have hC1 := HC.out ks[j] (List.getElem_mem hi)
      rw [Ht.out] at hC1
      have HC1 := Lib.hid (hC1 _ _ _ hn)
      have HT := Lib.hid (show (ks.take (j + 1)).map stm = (ks.take j).map stm ++ [stm t] by rw [List.take_succ_eq_append_getElem hi, Ht.out]; simp)
      have hlen1 : ((ks.take j).map stm).length + 1 ≤ LK := by have h1 := HLK.out; have h2 := HL.out; simp; omega
      clear hC1 hn
      go_wp2_with fail
      refine HC1.out.mono ?_
      rintro e w1 ⟨k1, n1, s1, A1, l1, c1', rfl, hn1, hb1⟩
      have hb3 := hb.trans (hb1.mono hsz)
      have hown1 := hown.later hb1
      have hA : NV w1 (fun b => (fun b => (S0 b ∧ b < w.heap.size) ∨ w.heap.size + 2 ≤ b) b ∧ some b ≠ u3.ownBlock) (stm t) (nv k1 n1 s1 A1 l1 c1') := hn1.mono fun b hb => by
        refine ⟨by rcases hb with hb | hb; exact .inl hb; exact .inr (by omega), fun e => ?_⟩
        have := hown.block b e.symm
        rcases hb with hb | hb <;> omega
      have hbase : w.heap.size + 2 ≤ w1.heap.size := Nat.le_trans hsz hb1.size
      have HB := Lib.hid hown.block
      clear hown hb1
      go_wp2_with (at_builtin; refine wpList_append_node rfl (.tmp 13) (.tmp 20) 22 rfl 24 i0 _ Try.underlying22 hi0 hz0 hz1 hz2 rfl (w.heap.size + 2) (fun b => (S0 b ∧ b < w.heap.size) ∨ w.heap.size + 2 ≤ b) u3 _ rfl hown1 (stm t) k1 n1 s1 A1 l1 c1' rfl hA hlen1 hbase ?_; intro v' w' hown' hg' hob')
      go_roundw
      case rel => exact ⟨j + 1, by omega, by go_num, by rw [HT.out]; exact hown', hb3.grown hg' hbase (fun g hg => (HB.out g hg).1)⟩
      case measure => simp [intOf]; omega
    · obtain rfl : j = l := by omega
      rw [List.take_of_length_le (by rw [HL.out]; omega)] at hown
      have H0 := Lib.hid (And.intro hown hb)
      clear hown hb hb0 hsz
      go_wp2_with fail
      go_loopw [3, 5] (fun x i wr => ∃ (L : List T) (q : Nat), i = .int .i64 q ∧ L.length ≤ j ∧ (q = 0 ∨ q + 1 ≤ L.length) ∧ OwnN wr (w.heap.size + 2) 24 (fun b => (S0 b ∧ b < w.heap.size) ∨ w.heap.size + 2 ≤ b) x L ∧ Below (w.heap.size + 2) ((w.alloc (.cells #[.int .u8 k, .int .i64 n, .string s, .slice A j c] 24)).alloc (.cells #[.int .u8 0, .int .i64 0, .string ⟨#[]⟩, .slice none 0 0] 24)) wr ∧ Hid (∀ t ∈ L, isS t = true) ∧ Hid (foldC L = foldC (ks.map stm)) ∧ Hid (Red (L.take (q + 1)))) (fun x i _ => slLen x * (j + 1) + (j - (intOf i).toNat))
      case atStart => exact ⟨ks.map stm, 0, rfl, by rw [List.length_map, HL.out]; exact Nat.le_refl _, .inl rfl, H0.out.1, H0.out.2, Lib.hid (fun t ht => by obtain ⟨u, hu, rfl⟩ := List.mem_map.1 ht; exact isS_stm (HSS.out u hu)), Lib.hid rfl, Lib.hid (fun i hi => by simp at hi; omega)⟩
      case round =>
        obtain ⟨L, q, rfl, hLj, hq0, hown, hb, HLS, HLF, HLR⟩ := hrel
        clear H0
        have hb0 : Below w.heap.size w wr := (((Below.refl _ _).alloc (Nat.le_refl _) _).alloc (by simp) _).trans (hb.mono (by omega))
        have hsz : w.heap.size + 2 ≤ wr.heap.size := by have := hb.size; simpa using this
        obtain ⟨Ar, cr, hvr, hcr, hrr, har⟩ := hown.row
        subst hvr
        obtain ⟨m, hm⟩ : ∃ m, L.length = m := ⟨_, rfl⟩
        have HM := Lib.hid hm
        rw [hm] at hown hcr hLj hq0 hrr har ⊢
        clear hm
        have r0 : wr.cell? ⟨w.heap.size + 1, 0, none⟩ = some (.int .u8 0) := (hb.cell (p := ⟨w.heap.size + 1, 0, none⟩) (by simp)).trans (by simp)
        have r1 : wr.cell? ⟨w.heap.size + 1, 1, none⟩ = some (.int .i64 0) := (hb.cell (p := ⟨w.heap.size + 1, 1, none⟩) (by simp)).trans (by simp)
        have r2 : wr.cell? ⟨w.heap.size + 1, 2, none⟩ = some (.string ⟨#[]⟩) := (hb.cell (p := ⟨w.heap.size + 1, 2, none⟩) (by simp)).trans (by simp)
        have r3 : wr.cell? ⟨w.heap.size + 1, 3, none⟩ = some (.slice none 0 0) := (hb.cell (p := ⟨w.heap.size + 1, 3, none⟩) (by simp)).trans (by simp)
        have rz : ∀ i, wr.frozen? ⟨w.heap.size + 1, i, none⟩ = false := fun i => (hb.frozen (p := ⟨w.heap.size + 1, i, none⟩) (by simp)).trans (by simp)
        have i3 : m ≤ 2513169434916 := by omega
        have i4 : q ≤ m := by omega
        by_cases hlt : q + 1 < m
        case neg =>
          have hR : Red L := by have := HLR.out; rw [List.take_of_length_le (by rw [HM.out]; omega)] at this; exact this
          have HX := Lib.hid (show simp (.nd k n s ks) = .nd 57 0 ⟨#[]⟩ L by rw [simp_nd, ← HLF.out, foldC_red hR])
          have HNV := Lib.hid (show RowAt wr (fun b => (S0 b ∧ b < w.heap.size) ∨ w.heap.size + 2 ≤ b) Ar L from hrr.mono fun b hb => by rcases hb with hb | hb; exact hb; exact .inr (hown.block b hb).1)
          have HLKm := Lib.hid hown.lk
          have ho := buildOp
          have i5 : ¬ (q : Int) + 1 < (m : Int) := by omega
          clear hrr har hR
          go_wp2_with fail
          refine bodyPost_ret (v := nv 57 0 ⟨#[]⟩ Ar m cr) (by simp [results, Try.results20, go_sem, r0, r1, r2, r3]) rfl ⟨57, 0, ⟨#[]⟩, Ar, m, cr, rfl, ?_, ?_⟩
          · rw [HX.out, ← HM.out]
            refine NV.shut ⟨⟨by omega, by omega⟩, ⟨by omega, by omega⟩, by decide⟩ HLKm.out (by rw [HM.out]; exact hcr) (HNV.out.keep (fun b hb _ => by rcases hb with hb | hb; exact .inl hb.1; exact .inr (by omega)) fun b hb _ => ?_)
            have hb' : b < w.heap.size ∨ w.heap.size + 2 ≤ b := by rcases hb with hb | hb; exact .inl hb.2; exact .inr hb
            rw [Below.heap_setCell _ _ _ _ (by simp; omega), Below.heap_setCell _ _ _ _ (by simp; omega), Below.heap_setCell _ _ _ _ (by simp; omega), Below.heap_setCell _ _ _ _ (by simp; omega)]
          · exact (((hb0.setCell (by simp) _).setCell (by simp) _).setCell (by simp) _).setCell (by simp) _
        case pos =>
          have hq1 : q < L.length := by rw [HM.out]; omega
          have hq2 : q + 1 < L.length := by rw [HM.out]; exact hlt
          obtain ⟨ar, _, _, _, _, hAr, _⟩ := hrr q hq1
          obtain ⟨g, rfl, hg1, hg2, hg3⟩ := har ar hAr
          subst hAr
          obtain ⟨x, Ax, cx, Hx, x0, x1, x2, x3, hnx⟩ := hown.nd hq1
          obtain ⟨y, Ay, cy, Hy, y0, y1, y2, y3, hny⟩ := hown.nd hq2
          have HS8 := Lib.hid (show ∀ w', Below wr.heap.size wr w' → ((w'.cell? ⟨g, q * 4, none⟩ = some (.int .u8 x.k) ∧ w'.cell? ⟨g, q * 4 + 1, none⟩ = some (.int .i64 x.n) ∧ w'.cell? ⟨g, q * 4 + 2, none⟩ = some (.string x.s) ∧ w'.cell? ⟨g, q * 4 + 3, none⟩ = some (.slice Ax x.ks.length cx)) ∧ (w'.cell? ⟨g, (q + 1) * 4, none⟩ = some (.int .u8 y.k) ∧ w'.cell? ⟨g, (q + 1) * 4 + 1, none⟩ = some (.int .i64 y.n) ∧ w'.cell? ⟨g, (q + 1) * 4 + 2, none⟩ = some (.string y.s) ∧ w'.cell? ⟨g, (q + 1) * 4 + 3, none⟩ = some (.slice Ay y.ks.length cy))) from fun w' h => ⟨⟨cell_bl h x0, cell_bl h x1, cell_bl h x2, cell_bl h x3⟩, cell_bl h y0, cell_bl h y1, cell_bl h y2, cell_bl h y3⟩)
          have HSx := Lib.hid (show isS x = true from HLS.out x (by rw [← Hx.out]; exact List.getElem_mem hq1))
          have HSy := Lib.hid (show isS y = true from HLS.out y (by rw [← Hy.out]; exact List.getElem_mem hq2))
          have HNX := Lib.hid hnx.any
          have HNY := Lib.hid hny.any
          have HOWN := Lib.hid hown
          have HBB := Lib.hid hb
          have HRR := Lib.hid hrr
          obtain ⟨z, hz⟩ : ∃ z, (!(x.k == 56) && teq (inv false x) y) = z := ⟨_, rfl⟩
          have HZ := Lib.hid hz
          have HCZ := Lib.hid (show canc x y = z by unfold canc; rw [HSx.out, HSy.out, teq_comm y, ← hz]; simp)
          have j1 : (0 : Int) ≤ (q : Int) := by omega
          have j2 : (q : Int) < (m : Int) := by omega
          have j3 : (q : Int) + 1 < (m : Int) := by omega
          have j4 : (0 : Int) ≤ (q : Int) + 1 := by omega
          have jw1 : IntKind.i64.wrap ((q : Int) + 1) = (q : Int) + 1 := by simp [IntKind.wrap, IntKind.bits, IntKind.signed]; omega
          have jw2 : IntKind.i64.wrap ((q : Int) + 2) = (q : Int) + 2 := by simp [IntKind.wrap, IntKind.bits, IntKind.signed]; omega
          clear hz hnx hny x0 x1 x2 x3 y0 y1 y2 y3 hown hb hrr har r0 r1 r2 r3 rz
          go_wp2_with fail
          go_region_held3 (fun w' => ((w'.cell? ⟨g, q * 4, none⟩ = some (.int .u8 x.k) ∧ w'.cell? ⟨g, q * 4 + 1, none⟩ = some (.int .i64 x.n) ∧ w'.cell? ⟨g, q * 4 + 2, none⟩ = some (.string x.s) ∧ w'.cell? ⟨g, q * 4 + 3, none⟩ = some (.slice Ax x.ks.length cx)) ∧ (w'.cell? ⟨g, (q + 1) * 4, none⟩ = some (.int .u8 y.k) ∧ w'.cell? ⟨g, (q + 1) * 4 + 1, none⟩ = some (.int .i64 y.n) ∧ w'.cell? ⟨g, (q + 1) * 4 + 2, none⟩ = some (.string y.s) ∧ w'.cell? ⟨g, (q + 1) * 4 + 3, none⟩ = some (.slice Ay y.ks.length cy))))
            (first | with_reducible exact HS8.out _ bz | with_reducible exact HS8.out _ (Below.refl _ _).drew)
            (first
              | (go_at_call 13; refine (refCancels_any x y _ _ _ (HNX.out.later (Below.refl _ _).drew) (HNY.out.later (Below.refl _ _).drew) HSx.out).mono ?_; rintro e w2 ⟨rfl, bw2⟩; have bz := (Below.refl wr.heap.size wr).drew.trans (bw2.mono (by simp)))
              | fail)
          rw [HZ.out]
          have HB2 := Lib.hid (HBB.out.trans (bz.mono hsz))
          have HO2 := Lib.hid (HOWN.out.later bz)
          cases z
          · go_wp2_with fail
            go_roundw
            case rel => exact ⟨L, q + 1, by go_num, by rw [HM.out]; exact hLj, .inr hq2, HO2.out, HB2.out, HLS, HLF, Lib.hid (Red.grow HLR.out hq2 (by rw [Hx.out, Hy.out]; exact HCZ.out))⟩
            case measure => simp [intOf, slLen]; omega
          · have hsz2 : wr.heap.size ≤ w2.heap.size := bz.size
            have HSRC := Lib.hid (show Src w2 (fun b => (fun b => (S0 b ∧ b < w.heap.size) ∨ w.heap.size + 2 ≤ b) b ∧ b < w2.heap.size) (some ⟨g, 0, none⟩) L from ((HRR.out.later bz).keep (S' := fun b => (fun b => (S0 b ∧ b < w.heap.size) ∨ w.heap.size + 2 ≤ b) b ∧ b < w2.heap.size) (fun b hb hlt => ⟨by rcases hb with hb | hb; exact hb; exact .inr (HOWN.out.block b hb).1, hlt⟩) fun _ _ _ => rfl).src)
            have hsd := HSRC.out.dropR (q + 2) cr (by rw [HM.out]; exact hcr)
            have hst0 := sliceTail (some ⟨g, 0, none⟩) m cr (q + 2) (by omega)
            obtain ⟨A2, hA2⟩ : ∃ A2, (if cr = q + 2 then some (⟨g, 0, none⟩ : Addr) else (some (⟨g, 0, none⟩ : Addr)).map (·.add ((q + 2) * 4))) = A2 := ⟨_, rfl⟩
            rw [hA2] at hsd
            simp only [hA2] at hst0
            have hst : ∀ w, (Instr.slice 22 (.slice (some ⟨g, 0, none⟩) m cr) (some (.int .i64 ((q : Int) + 2))) none none).run Try.prog w = .ok (.slice A2 (m - (q + 2)) (cr - (q + 2))) w := hst0
            have hsh := sliceHead (some ⟨g, 0, none⟩) m cr q (by omega) hcr
            have HSD := Lib.hid hsd
            have hb0' := buildZ
            have hp0 : PotS w2 w2 24 (fun b => (fun b => (S0 b ∧ b < w.heap.size) ∨ w.heap.size + 2 ≤ b) b ∧ b < w2.heap.size) none none := PotS.start w2 _ _ (fun b hb => hb.2)
            have HLEN := Lib.hid (show ([] ++ L.take q ++ L.drop (q + 2)).length = m - 2 by have := HM.out; simp; omega)
            clear hst0 hA2 hsd bw2
            go_wp2_with fail
            go_region_held3 (fun _ => True)
              (trivial)
              (first
                | (refine step_pots_append (w := w2) (by rfl) (.tmp 37) (.tmp 40) 22 (by rfl) 24 i0 _ Try.underlying22 hi0 hz0 hz1 hz2 rfl _ _ _ _ (by (repeat first | with_reducible assumption | with_reducible apply PotS.drew | with_reducible apply PotS.row0)) (by first | rfl | (simp only [World.size_alloc, World.size_drew]; rfl)) (L.take q) (some ⟨g, 0, none⟩) q cr (by have := HM.out; simp; omega) (by rfl) ((HSRC.out.takeR q).later (PotS.low (by (repeat first | with_reducible assumption | with_reducible apply PotS.drew | with_reducible apply PotS.row0)))) (by have h1 := HLK.out; have h2 := HL.out; have h3 := HM.out; simp; omega) ?_; intro v1 x1 hp1)
                | (refine step_pots_append (w := w2) (by rfl) (.tmp 41) (.tmp 45) 22 (by rfl) 24 i0 _ Try.underlying22 hi0 hz0 hz1 hz2 rfl _ _ _ _ (by (repeat first | with_reducible assumption | with_reducible apply PotS.drew | with_reducible apply PotS.row0)) (by rfl) (L.drop (q + 2)) A2 (m - (q + 2)) (cr - (q + 2)) (by have := HM.out; simp; omega) (by rfl) (HSD.out.later (PotS.low (by (repeat first | with_reducible assumption | with_reducible apply PotS.drew | with_reducible apply PotS.row0)))) (by have h1 := HLK.out; have h2 := HL.out; have h3 := HM.out; simp; omega) ?_; intro v3 x3 hp3; obtain ⟨A9, c9, e9, -⟩ := (hp3.own _ _ rfl).row; rw [HLEN.out] at e9; subst e9)
                | fail)
            have HO3 := Lib.hid (((hp3.own _ _ rfl).base_le (base' := w.heap.size + 2) (by omega)).mono (S' := (fun b => (S0 b ∧ b < w.heap.size) ∨ w.heap.size + 2 ≤ b)) fun b hb => hb.1)
            have HB3 := Lib.hid (HB2.out.trans (hp3.low.mono (by omega)))
            clear hp0 hp1 hp3 hst hsh hb0'
            go_wp2_with fail
            go_roundw
            case rel =>
              exact ⟨L.take q ++ L.drop (q + 2), 0, rfl, by have := HM.out; simp; omega, .inl rfl, HO3.out, HB3.out,
                Lib.hid (fun t ht => by rcases List.mem_append.1 ht with ht | ht; exact HLS.out t (List.mem_of_mem_take ht); exact HLS.out t (List.mem_of_mem_drop ht)),
                Lib.hid (by rw [← HLF.out]; exact foldC_cut hq2 (by rw [Hx.out, Hy.out]; exact HCZ.out)),
                Lib.hid (fun i hi => by simp at hi; omega)⟩
            case measure =>
              simp only [intOf, slLen]
              have e : m * (j + 1) = (m - 2) * (j + 1) + 2 * (j + 1) := by rw [← Nat.add_mul]; congr 1; omega
              simp
              omega

/-- The reference's Statement and Block. -/
theorem RBoth (t : T) : (isS t = true → ∀ (S : Nat → Prop) (v : Value) (w : World), NV w S t v → Calls Try.prog 42 #[v] w (ShNode w S (stm t))) ∧
    (isB t = true → ∀ (S : Nat → Prop) (v : Value) (w : World), NV w S t v → Calls Try.prog 20 #[v] w (ShNode w S (simp t))) := by
  induction t using T.ind with
  | _ k n s ks ih =>
  refine ⟨fun h S v w hv => Statement_of k n s ks S v w hv fun kid hk hk57 => (ih kid hk).2 ?_, fun h S v w hv => RBlock_of k n s ks S v w hv (((isB_iff _ _ _ _).1 h).2.2) fun kid hk => (ih kid hk).1 (((isB_iff _ _ _ _).1 h).2.2 kid hk)⟩
  have hE : ∀ t, isE t = true → t.k ≠ 57 := fun t ht e => by have := isE_57 ht; rw [e] at this; simp at this
  rcases isS_cases h with ⟨_, h57⟩ | ⟨_, _, x0, x1, x2, x3, rfl, e0, e1, e2, e3⟩ | ⟨_, _, x0, x1, x2, rfl, e0, e1, e2⟩ | ⟨_, _, x0, rfl, e0⟩
  · exact absurd hk57 (h57 kid hk)
  · simp only [List.mem_cons, List.not_mem_nil, or_false] at hk
    rcases hk with rfl | rfl | rfl | rfl
    · exact absurd hk57 (hE _ e0)
    · exact e1
    · exact e2
    · exact absurd hk57 (hE _ e3)
  · simp only [List.mem_cons, List.not_mem_nil, or_false] at hk
    rcases hk with rfl | rfl | rfl
    · exact absurd hk57 (hE _ e0)
    · exact e1
    · exact absurd hk57 (hE _ e2)
  · simp only [List.mem_cons, List.not_mem_nil, or_false] at hk
    rcases hk with rfl
    exact e0
theorem refBlock_any (t : T) (h : isB t = true) (S : Nat → Prop) (v : Value) (w : World) (hv : NV w S t v) : Calls Try.prog 20 #[v] w (ShNode w S (simp t)) := (RBoth t).2 h S v w hv

end Go.Proofs.Ytldcjboignbfpaa
