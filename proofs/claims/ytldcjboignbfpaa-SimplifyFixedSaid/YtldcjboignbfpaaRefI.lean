/-
  Contracts of the reference's Inverse: of a kind (backstepref14), of a node (backstepref46).
-/
import Derived.Test.YtldcjboignbfpaaRefW
import Derived.Test.YtldcjboignbfpaaPure
import Derived.Test.YtldcjboignbfpaaAwake
import Derived.Deep.RegionLaw
import Derived.Deep.RegionHeld3
import Derived.Deep.DeepCutAuto
namespace Go.Proofs.Ytldcjboignbfpaa
open Go.RowKit

/-- backstepref14.Inverse. -/
def inv14 (k : Int) : Int :=
  if k = 40 then 41 else if k = 41 then 40 else if k = 42 then k else if k = 43 then k else if k = 44 then 45 else if k = 45 then 44 else if k = 46 then 47 else if k = 47 then 46
  else if k = 48 then 49 else if k = 49 then 48 else 0
set_option maxHeartbeats 1000000 in
theorem Inverse14_any (k : Int) (w : World) : Calls Try.prog 57 #[.int .u8 k] w fun e w' => e = .returned (.int .u8 (inv14 k)) ∧ w = w' := by
  go_enter Try.func57, Try.ntmps57
  go_wp2
  all_goals (go_ret; exact ⟨by simp_all [inv14], rfl⟩)
theorem exch_inv14 {k : Int} (h50 : k ≠ 50) (h51 : k ≠ 51) : (if inv14 k = 0 then k else inv14 k) = exch k := by
  by_cases h40 : k = 40
  · subst h40; rfl
  by_cases h41 : k = 41
  · subst h41; rfl
  by_cases h42 : k = 42
  · subst h42; rfl
  by_cases h43 : k = 43
  · subst h43; rfl
  by_cases h44 : k = 44
  · subst h44; rfl
  by_cases h45 : k = 45
  · subst h45; rfl
  by_cases h46 : k = 46
  · subst h46; rfl
  by_cases h47 : k = 47
  · subst h47; rfl
  by_cases h48 : k = 48
  · subst h48; rfl
  by_cases h49 : k = 49
  · subst h49; rfl
  have e1 : inv14 k = 0 := by simp [inv14, h40, h41, h42, h43, h44, h45, h46, h47, h48, h49]
  have e2 : exch k = k := by simp [exch, h40, h41, h44, h45, h46, h47, h48, h49, h50, h51]
  rw [e1, e2]
  rfl

theorem buildS0r (w : World) : (Instr.buildSlice 22 0 #[]).run Try.prog w = .ok (.slice (some ⟨w.heap.size, 0, none⟩) 0 0) (w.alloc (.cells #[] 24)) := by kernel_rfl
theorem buildS3 (a0 a1 a2 a3 b0 b1 b2 b3 c0 c1 c2 c3 : Value) (w : World) : (Instr.buildSlice 22 3 #[(0, .agg #[a0, a1, a2, a3]), (1, .agg #[b0, b1, b2, b3]), (2, .agg #[c0, c1, c2, c3])]).run Try.prog w = .ok (.slice (some ⟨w.heap.size, 0, none⟩) 3 3) (w.alloc (.cells #[a0, a1, a2, a3, b0, b1, b2, b3, c0, c1, c2, c3] 24)) := by kernel_rfl
theorem build4r (k n : Int) (s : ByteArray) (A : Option Addr) (l c : Nat) (w : World) : (Instr.build 24 #[(0, .int .u8 k), (1, .int .i64 n), (2, .string s), (3, .slice A l c)]).run Try.prog w = .ok (nv k n s A l c) w := by kernel_rfl

/-- A node that may share blocks with the argument: what it leads to meets S, or is new. -/
def ShNode (w : World) (S : Nat → Prop) (t : T) (e : Ending) (w' : World) : Prop := ∃ k n s A l c, e = .returned (nv k n s A l c) ∧ NV w' (fun b => S b ∨ w.heap.size ≤ b) t (nv k n s A l c) ∧ Below w.heap.size w w'

def ShV (w : World) (S : Nat → Prop) (t : T) (v : Value) (w' : World) : Prop := ∃ k n s A l c, v = nv k n s A l c ∧ NV w' (fun b => S b ∨ w.heap.size ≤ b) t (nv k n s A l c) ∧ Below w.heap.size w w'
theorem shV_of {P : Program} {f : FuncId} {args : Array Value} {w : World} {S : Nat → Prop} {t : T} (h : Calls P f args w (ShNode w S t)) : Calls P f args w fun e w' => ∃ v, e = .returned v ∧ ShV w S t v w' :=
  h.mono fun _ _ ⟨k, n, s, A, l, c, he, hn, hb⟩ => ⟨_, he, k, n, s, A, l, c, rfl, hn, hb⟩
theorem fnRInv : IsFn Try.prog 38 Try.f38 := ⟨Try.func38, by kernel_rfl, by kernel_rfl⟩

set_option maxHeartbeats 20000000 in
set_option maxRecDepth 100000 in
theorem Inverse_any (t : T) : ∀ (S : Nat → Prop) (v : Value) (w : World), NV w S t v → (isS t = true ∨ isB t = true) → Calls Try.prog 38 #[v] w (ShNode w S (inv false t)) := by
  obtain ⟨i0, hi0, hz0, hz1, hz2⟩ := info_parts nodeInfo
  induction t using T.ind with
  | _ k n s ks ih =>
  intro S0 v w hv hok
  obtain ⟨A, c, rfl, hf, hlk, hlc, hrow⟩ := hv.open_
  simp only [T.k_nd, T.n_nd, T.s_nd, T.ks_nd] at *
  have hlk' := LK_int hlk
  have HLK := Lib.hid hlk
  have IH := Lib.hid ih
  have HOK := Lib.hid hok
  have HF := Lib.hid hf
  have HROW := Lib.hid (show RowAt w (fun b => S0 b ∧ b < w.heap.size) A ks from hrow.keep (fun b hb hlt => ⟨hb, hlt⟩) fun _ _ _ => rfl)
  clear hv ih hok hf hrow hlk
  go_enter Try.func38, Try.ntmps38
  go_upto_region 1 with fail
  obtain ⟨W1, hW1⟩ : ∃ W1, (w.alloc (.cells #[.int .u8 k, .int .i64 n, .string s, .slice A ks.length c] 24)).alloc (.cells ZC 24) = W1 := ⟨_, rfl⟩
  have hc1 : (W1.cell? ⟨w.heap.size, 0, none⟩ = some (.int .u8 k) ∧ W1.cell? ⟨w.heap.size, 1, none⟩ = some (.int .i64 n) ∧ W1.cell? ⟨w.heap.size, 2, none⟩ = some (.string s) ∧ W1.cell? ⟨w.heap.size, 3, none⟩ = some (.slice A ks.length c)) := by
    subst hW1
    exact ⟨by simp, by simp, by simp, by simp⟩
  have hsz1 : W1.heap.size = w.heap.size + 2 := by subst hW1; simp
  have q1 : Below w.heap.size w W1 := by subst hW1; exact ((Below.refl _ _).alloc (Nat.le_refl _) _).alloc (by simp) _
  have HW1 := Lib.hid hW1
  have HS1 := Lib.hid (show ∀ w', Below W1.heap.size W1 w' → (w'.cell? ⟨w.heap.size, 0, none⟩ = some (.int .u8 k) ∧ w'.cell? ⟨w.heap.size, 1, none⟩ = some (.int .i64 n) ∧ w'.cell? ⟨w.heap.size, 2, none⟩ = some (.string s) ∧ w'.cell? ⟨w.heap.size, 3, none⟩ = some (.slice A ks.length c)) from fun w' h => ⟨cell_bl h hc1.1, cell_bl h hc1.2.1, cell_bl h hc1.2.2.1, cell_bl h hc1.2.2.2⟩)
  have HSRC := Lib.hid (HROW.out.later q1).src
  have hp0 : PotS W1 W1 24 (fun b => S0 b ∧ b < w.heap.size) none none := PotS.start W1 _ _ (fun b hb => by omega)
  have HZ1 := Lib.hid hsz1
  rw [show ((w.alloc (.cells #[.int .u8 k, .int .i64 n, .string s, .slice A ks.length c] 24)).alloc (.cells #[.int .u8 0, .int .i64 0, .string ⟨#[]⟩, .slice none 0 0] 24)) = W1 from hW1]
  clear hW1 hc1 hsz1 q1
  have hb0 := buildS0r
  have hb4 := build4r
  go_cut [3] (fun s3 wx => ∃ (g : Nat) (A1 : Option Addr) (l1 c1 : Nat), s3 = .pointer (some ⟨g, 0, none⟩) ∧ RI w wx 24 k n s A ks.length c k (fun b => (S0 b ∧ b < w.heap.size) ∨ (w.heap.size + 2 ≤ b ∧ b ≠ g)) g (.slice A1 l1 c1) ks)
  case first =>
    go_region_held3 (fun w' => (w'.cell? ⟨w.heap.size, 0, none⟩ = some (.int .u8 k) ∧ w'.cell? ⟨w.heap.size, 1, none⟩ = some (.int .i64 n) ∧ w'.cell? ⟨w.heap.size, 2, none⟩ = some (.string s) ∧ w'.cell? ⟨w.heap.size, 3, none⟩ = some (.slice A ks.length c)))
      (first | with_reducible exact HS1.out _ (PotS.set4 hpq _ _ _ _) | with_reducible exact HS1.out _ (PotS.low (by (repeat first | with_reducible assumption | with_reducible apply PotS.drew | with_reducible apply PotS.lay | with_reducible apply PotS.row0))) | with_reducible exact HS1.out _ (PotS.low (PotS.alloc (by with_reducible assumption) _)))
      (first
        | (refine step_pots_append (w := W1) (by rfl) (.tmp 12) (.tmp 14) 22 (by rfl) 24 i0 _ Try.underlying22 hi0 hz0 hz1 hz2 rfl _ _ _ _ (by (repeat first | with_reducible assumption | with_reducible apply PotS.drew | with_reducible apply PotS.lay | with_reducible apply PotS.row0)) (by first | rfl | (simp only [World.size_alloc, World.size_drew]; rfl)) ks A ks.length c rfl (by rfl) (HSRC.out.later (PotS.low (by (repeat first | with_reducible assumption | with_reducible apply PotS.drew | with_reducible apply PotS.lay | with_reducible apply PotS.row0)))) (by have h1 := HLK.out; simp; omega) ?_; intro v3 x3 hp3; obtain ⟨A9, c9, e9, -⟩ := (hp3.own _ _ rfl).row; obtain ⟨L9, hL9⟩ : ∃ L9, ([] ++ ks).length = L9 := ⟨_, rfl⟩; rw [hL9] at e9; subst e9; clear hL9; first | (have hpq : PotS W1 x3 _ _ _ (some _) := hp3; (try simp only [World.size_alloc, World.size_drew] at hpq); have hbx := (hpq.box _ rfl).2; have e0 : x3.cell? ⟨_, 0, none⟩ = some (.int .u8 0) := cell_of_blk hbx rfl; have e1 : x3.cell? ⟨_, 1, none⟩ = some (.int .i64 0) := cell_of_blk hbx rfl; have e2 : x3.cell? ⟨_, 2, none⟩ = some (.string ⟨#[]⟩) := cell_of_blk hbx rfl; have e3 : x3.cell? ⟨_, 3, none⟩ = some (.slice none 0 0) := cell_of_blk hbx rfl; have e4 := fun i => frozen_of_blk (i := i) hbx) | (have hpq : PotS W1 x3 _ _ _ none := hp3))
        | fail)
    all_goals (go_wp2_with fail; go_meet)
    all_goals first
      | exact ⟨_, A9, L9, c9, rfl, RI.of_pot HW1.out hpq (fun b hb => hb.2)⟩
      | exact ⟨_, A9, L9, c9, rfl, RI.of_pot2 HW1.out hpq (fun b hb => hb.2)⟩
  case rest =>
    obtain ⟨g, A1, l1, c1, rfl, hri⟩ := hcut
    clear hp0 HS1 HSRC HW1 HZ1 hb0
    have hge := hri.ge
    have a0 : wc.cell? ⟨w.heap.size, 0, none⟩ = some (.int .u8 k) := cell_of_blk hri.arg rfl
    have a3 : wc.cell? ⟨w.heap.size, 3, none⟩ = some (.slice A ks.length c) := cell_of_blk hri.arg rfl
    have b0 : wc.cell? ⟨g, 0, none⟩ = some (.int .u8 k) := cell_of_blk hri.box rfl
    have b1 : wc.cell? ⟨g, 1, none⟩ = some (.int .i64 n) := cell_of_blk hri.box rfl
    have b2 : wc.cell? ⟨g, 2, none⟩ = some (.string s) := cell_of_blk hri.box rfl
    have b3 : wc.cell? ⟨g, 3, none⟩ = some (.slice A1 l1 c1) := cell_of_blk hri.box rfl
    have bz : ∀ i, wc.frozen? ⟨g, i, none⟩ = false := fun i => frozen_of_blk hri.box
    have r0 : wc.cell? ⟨w.heap.size + 1, 0, none⟩ = some (.int .u8 0) := cell_of_blk hri.res rfl
    have r1 : wc.cell? ⟨w.heap.size + 1, 1, none⟩ = some (.int .i64 0) := cell_of_blk hri.res rfl
    have r2 : wc.cell? ⟨w.heap.size + 1, 2, none⟩ = some (.string ⟨#[]⟩) := cell_of_blk hri.res rfl
    have r3 : wc.cell? ⟨w.heap.size + 1, 3, none⟩ = some (.slice none 0 0) := cell_of_blk hri.res rfl
    have rz : ∀ i, wc.frozen? ⟨w.heap.size + 1, i, none⟩ = false := fun i => frozen_of_blk hri.res
    have hne4 : ¬ g = w.heap.size + 1 := by omega
    have hne5 : ¬ w.heap.size + 1 = g := by omega
    have HSa := Lib.hid (show ∀ b, (fun b => (S0 b ∧ b < w.heap.size) ∨ (w.heap.size + 2 ≤ b ∧ b ≠ g)) b → (fun b => S0 b ∨ w.heap.size ≤ b) b from fun b hb => by rcases hb with hb | hb; exact .inl hb.1; exact .inr (by omega))
    have HSb := Lib.hid (show ∀ b, w.heap.size + 2 ≤ b → (fun b => S0 b ∨ w.heap.size ≤ b) b from fun b hb => .inr (by omega))
    have HRI := Lib.hid hri
    rcases HOK.out with hS | hB
    · rcases isS_cases hS with ⟨⟨n52, n53, n54, n55, n57⟩, hk57⟩ | ⟨hk, hp, x0, x1, x2, x3, rfl, e0, e1, e2, e3⟩ | ⟨rfl, hp, x0, x1, x2, rfl, e0, e1, e2⟩ | ⟨rfl, hp, x0, rfl, e0⟩
      · have HI := Lib.hid (inv_simple (n := n) (s := s) ⟨n52, n53, n54, n55, n57⟩ hk57)
        clear hS hk57 hri a3
        by_cases h50 : k = 50
        · subst h50
          go_wp2_with fail
          have hr := (HRI.out.kind 51).result ⟨⟨by omega, by omega⟩, HF.out.2⟩ rfl (fun b => S0 b ∨ w.heap.size ≤ b) HSa.out HSb.out
          refine bodyPost_ret (v := nv 51 n s A1 l1 c1) (by simp [results, Try.results38, go_sem, r0, r1, r2, r3]) rfl ⟨51, n, s, A1, l1, c1, rfl, ?_, hr.2⟩
          rw [HI.out, show exch 50 = 51 from rfl]
          exact hr.1
        by_cases h51 : k = 51
        · subst h51
          go_wp2_with fail
          have hr := (HRI.out.kind 50).result ⟨⟨by omega, by omega⟩, HF.out.2⟩ rfl (fun b => S0 b ∨ w.heap.size ≤ b) HSa.out HSb.out
          refine bodyPost_ret (v := nv 50 n s A1 l1 c1) (by simp [results, Try.results38, go_sem, r0, r1, r2, r3]) rfl ⟨50, n, s, A1, l1, c1, rfl, ?_, hr.2⟩
          rw [HI.out, show exch 51 = 50 from rfl]
          exact hr.1
        have HE := Lib.hid (exch_inv14 h50 h51)
        have f50 : (k == 50) = false := by simpa using h50
        have f51 : (k == 51) = false := by simpa using h51
        have f52 : (k == 52) = false := by simpa using n52
        have f53 : (k == 53) = false := by simpa using n53
        have f54 : (k == 54) = false := by simpa using n54
        have f55 : (k == 55) = false := by simpa using n55
        have f57 : (k == 57) = false := by simpa using n57
        clear h50 h51 n52 n53 n54 n55 n57
        go_wp2_with fail
        refine (Inverse14_any k _).mono ?_
        rintro e w2 ⟨rfl, rfl⟩
        obtain ⟨z, hz⟩ : ∃ z, inv14 k = z := ⟨_, rfl⟩
        have HE' := HE.out
        rw [hz] at HE' ⊢
        have HE2 := Lib.hid HE'
        have HZr := Lib.hid (show 0 ≤ z ∧ z < 256 by rw [← hz]; unfold inv14; repeat' split; all_goals omega)
        clear HE HE' hz
        by_cases hz0' : z = 0
        · subst hz0'
          go_wp2_with fail
          have e9 : exch k = k := by have := HE2.out; simpa using this.symm
          have hfk := HF.out.1
          have hr := (HRI.out).result ⟨⟨by omega, by omega⟩, HF.out.2⟩ rfl (fun b => S0 b ∨ w.heap.size ≤ b) HSa.out HSb.out
          refine bodyPost_ret (v := nv k n s A1 l1 c1) (by simp [results, Try.results38, go_sem, r0, r1, r2, r3]) rfl ⟨k, n, s, A1, l1, c1, rfl, ?_, hr.2⟩
          rw [HI.out, e9]
          exact hr.1
        · go_wp2_with fail
          have e9 : exch k = z := by have := HE2.out; rw [if_neg hz0'] at this; exact this.symm
          have hzr := HZr.out
          have hr := (HRI.out.kind z).result ⟨⟨by omega, by omega⟩, HF.out.2⟩ rfl (fun b => S0 b ∨ w.heap.size ≤ b) HSa.out HSb.out
          refine bodyPost_ret (v := nv z n s A1 l1 c1) (by simp [results, Try.results38, go_sem, r0, r1, r2, r3]) rfl ⟨z, n, s, A1, l1, c1, rfl, ?_, hr.2⟩
          rw [HI.out, e9]
          exact hr.1
      · rcases hk with rfl | rfl
        · obtain ⟨a, t0, B0, d0, rfl, hab, H0, m0, hn0⟩ := (HROW.out.later hri.below).nd (i := 0) (by simp)
          obtain ⟨a', t1, B1, d1, ea, _, H1, m1, hn1⟩ := (HROW.out.later hri.below).nd (i := 1) (by simp)
          injection ea with ea
          subst ea
          obtain ⟨a', t2, B2, d2, ea, _, H2, m2, hn2⟩ := (HROW.out.later hri.below).nd (i := 2) (by simp)
          injection ea with ea
          subst ea
          obtain ⟨a', t3, B3, d3, ea, _, H3, m3, hn3⟩ := (HROW.out.later hri.below).nd (i := 3) (by simp)
          injection ea with ea
          subst ea
          obtain rfl : t0 = x0 := H0.out.symm
          have M0 : (wc.cell? a = some (.int .u8 t0.k) ∧ wc.cell? ⟨a.block, a.off + 1, none⟩ = some (.int .i64 t0.n) ∧ wc.cell? ⟨a.block, a.off + 2, none⟩ = some (.string t0.s) ∧ wc.cell? ⟨a.block, a.off + 3, none⟩ = some (.slice B0 t0.ks.length d0)) := m0
          obtain rfl : t1 = x1 := H1.out.symm
          have M1 : (wc.cell? ⟨a.block, a.off + 4, none⟩ = some (.int .u8 t1.k) ∧ wc.cell? ⟨a.block, a.off + 4 + 1, none⟩ = some (.int .i64 t1.n) ∧ wc.cell? ⟨a.block, a.off + 4 + 2, none⟩ = some (.string t1.s) ∧ wc.cell? ⟨a.block, a.off + 4 + 3, none⟩ = some (.slice B1 t1.ks.length d1)) := m1
          obtain rfl : t2 = x2 := H2.out.symm
          have M2 : (wc.cell? ⟨a.block, a.off + 8, none⟩ = some (.int .u8 t2.k) ∧ wc.cell? ⟨a.block, a.off + 8 + 1, none⟩ = some (.int .i64 t2.n) ∧ wc.cell? ⟨a.block, a.off + 8 + 2, none⟩ = some (.string t2.s) ∧ wc.cell? ⟨a.block, a.off + 8 + 3, none⟩ = some (.slice B2 t2.ks.length d2)) := m2
          obtain rfl : t3 = x3 := H3.out.symm
          have M3 : (wc.cell? ⟨a.block, a.off + 12, none⟩ = some (.int .u8 t3.k) ∧ wc.cell? ⟨a.block, a.off + 12 + 1, none⟩ = some (.int .i64 t3.n) ∧ wc.cell? ⟨a.block, a.off + 12 + 2, none⟩ = some (.string t3.s) ∧ wc.cell? ⟨a.block, a.off + 12 + 3, none⟩ = some (.slice B3 t3.ks.length d3)) := m3
          clear m0 H0 m1 H1 m2 H2 m3 H3
          have HSx := Lib.hid (show ∀ w', Below wc.heap.size wc w' → w'.cell? ⟨w.heap.size, 3, none⟩ = some (.slice (some a) 4 c) ∧ (w'.cell? a = some (.int .u8 t0.k) ∧ w'.cell? ⟨a.block, a.off + 1, none⟩ = some (.int .i64 t0.n) ∧ w'.cell? ⟨a.block, a.off + 2, none⟩ = some (.string t0.s) ∧ w'.cell? ⟨a.block, a.off + 3, none⟩ = some (.slice B0 t0.ks.length d0)) ∧ (w'.cell? ⟨a.block, a.off + 4, none⟩ = some (.int .u8 t1.k) ∧ w'.cell? ⟨a.block, a.off + 4 + 1, none⟩ = some (.int .i64 t1.n) ∧ w'.cell? ⟨a.block, a.off + 4 + 2, none⟩ = some (.string t1.s) ∧ w'.cell? ⟨a.block, a.off + 4 + 3, none⟩ = some (.slice B1 t1.ks.length d1)) ∧ (w'.cell? ⟨a.block, a.off + 8, none⟩ = some (.int .u8 t2.k) ∧ w'.cell? ⟨a.block, a.off + 8 + 1, none⟩ = some (.int .i64 t2.n) ∧ w'.cell? ⟨a.block, a.off + 8 + 2, none⟩ = some (.string t2.s) ∧ w'.cell? ⟨a.block, a.off + 8 + 3, none⟩ = some (.slice B2 t2.ks.length d2)) ∧ (w'.cell? ⟨a.block, a.off + 12, none⟩ = some (.int .u8 t3.k) ∧ w'.cell? ⟨a.block, a.off + 12 + 1, none⟩ = some (.int .i64 t3.n) ∧ w'.cell? ⟨a.block, a.off + 12 + 2, none⟩ = some (.string t3.s) ∧ w'.cell? ⟨a.block, a.off + 12 + 3, none⟩ = some (.slice B3 t3.ks.length d3)) from fun w' h => ⟨cell_bl h a3, ⟨cell_bl h M0.1, cell_bl h M0.2.1, cell_bl h M0.2.2.1, cell_bl h M0.2.2.2⟩, ⟨cell_bl h M1.1, cell_bl h M1.2.1, cell_bl h M1.2.2.1, cell_bl h M1.2.2.2⟩, ⟨cell_bl h M2.1, cell_bl h M2.2.1, cell_bl h M2.2.2.1, cell_bl h M2.2.2.2⟩, ⟨cell_bl h M3.1, cell_bl h M3.2.1, cell_bl h M3.2.2.1, cell_bl h M3.2.2.2⟩⟩)
          have HSy := Lib.hid (show ∀ w1 u, Below wc.heap.size wc w1 → (w1.setCell ⟨g, 3, none⟩ u).cell? ⟨w.heap.size, 3, none⟩ = some (.slice (some a) 4 c) ∧ ((w1.setCell ⟨g, 3, none⟩ u).cell? a = some (.int .u8 t0.k) ∧ (w1.setCell ⟨g, 3, none⟩ u).cell? ⟨a.block, a.off + 1, none⟩ = some (.int .i64 t0.n) ∧ (w1.setCell ⟨g, 3, none⟩ u).cell? ⟨a.block, a.off + 2, none⟩ = some (.string t0.s) ∧ (w1.setCell ⟨g, 3, none⟩ u).cell? ⟨a.block, a.off + 3, none⟩ = some (.slice B0 t0.ks.length d0)) ∧ ((w1.setCell ⟨g, 3, none⟩ u).cell? ⟨a.block, a.off + 4, none⟩ = some (.int .u8 t1.k) ∧ (w1.setCell ⟨g, 3, none⟩ u).cell? ⟨a.block, a.off + 4 + 1, none⟩ = some (.int .i64 t1.n) ∧ (w1.setCell ⟨g, 3, none⟩ u).cell? ⟨a.block, a.off + 4 + 2, none⟩ = some (.string t1.s) ∧ (w1.setCell ⟨g, 3, none⟩ u).cell? ⟨a.block, a.off + 4 + 3, none⟩ = some (.slice B1 t1.ks.length d1)) ∧ ((w1.setCell ⟨g, 3, none⟩ u).cell? ⟨a.block, a.off + 8, none⟩ = some (.int .u8 t2.k) ∧ (w1.setCell ⟨g, 3, none⟩ u).cell? ⟨a.block, a.off + 8 + 1, none⟩ = some (.int .i64 t2.n) ∧ (w1.setCell ⟨g, 3, none⟩ u).cell? ⟨a.block, a.off + 8 + 2, none⟩ = some (.string t2.s) ∧ (w1.setCell ⟨g, 3, none⟩ u).cell? ⟨a.block, a.off + 8 + 3, none⟩ = some (.slice B2 t2.ks.length d2)) ∧ ((w1.setCell ⟨g, 3, none⟩ u).cell? ⟨a.block, a.off + 12, none⟩ = some (.int .u8 t3.k) ∧ (w1.setCell ⟨g, 3, none⟩ u).cell? ⟨a.block, a.off + 12 + 1, none⟩ = some (.int .i64 t3.n) ∧ (w1.setCell ⟨g, 3, none⟩ u).cell? ⟨a.block, a.off + 12 + 2, none⟩ = some (.string t3.s) ∧ (w1.setCell ⟨g, 3, none⟩ u).cell? ⟨a.block, a.off + 12 + 3, none⟩ = some (.slice B3 t3.ks.length d3)) from fun w1 u h => by
            have hx := HSx.out w1 h
            have hw : w.heap.size ≠ g := by omega
            have ha : a.block ≠ g := by have := hab.2; omega
            exact ⟨cell_set1 hw hx.1, ⟨cell_set1 ha hx.2.1.1, cell_set1 ha hx.2.1.2.1, cell_set1 ha hx.2.1.2.2.1, cell_set1 ha hx.2.1.2.2.2⟩, ⟨cell_set1 ha hx.2.2.1.1, cell_set1 ha hx.2.2.1.2.1, cell_set1 ha hx.2.2.1.2.2.1, cell_set1 ha hx.2.2.1.2.2.2⟩, ⟨cell_set1 ha hx.2.2.2.1.1, cell_set1 ha hx.2.2.2.1.2.1, cell_set1 ha hx.2.2.2.1.2.2.1, cell_set1 ha hx.2.2.2.1.2.2.2⟩, ⟨cell_set1 ha hx.2.2.2.2.1, cell_set1 ha hx.2.2.2.2.2.1, cell_set1 ha hx.2.2.2.2.2.2.1, cell_set1 ha hx.2.2.2.2.2.2.2⟩⟩)
          have HC1 := Lib.hid (IH.out t1 (by simp) (fun b => S0 b ∧ b < w.heap.size) _ _ (hn1.later (Below.refl _ _).drew) (.inr e1))
          have HC2 := Lib.hid (IH.out t2 (by simp) (fun b => S0 b ∧ b < w.heap.size))
          have HE2 := Lib.hid (show isS t2 = true ∨ isB t2 = true from .inr e2)
          have HI := Lib.hid (inv_if (k := 52) (n := n) (s := s) (by omega) e0 e1 e2 e3)
          have HN0 := Lib.hid hn0
          have HN2 := Lib.hid hn2
          have HN3 := Lib.hid hn3
          have hb4' := buildS4
          clear hn0 hn1 hn2 hn3 hS hp e0 e1 e2 e3 M0 M1 M2 M3 hri hb4 a0 a3 b0 b1 b2 b3 bz r0 r1 r2 r3 rz
          have a0 : wc.cell? ⟨w.heap.size, 0, none⟩ = some (.int .u8 52) := cell_of_blk HRI.out.arg rfl
          go_upto_region 14 with fail
          go_region_held3 (fun w' => w'.cell? ⟨w.heap.size, 3, none⟩ = some (.slice (some a) 4 c) ∧ (w'.cell? a = some (.int .u8 t0.k) ∧ w'.cell? ⟨a.block, a.off + 1, none⟩ = some (.int .i64 t0.n) ∧ w'.cell? ⟨a.block, a.off + 2, none⟩ = some (.string t0.s) ∧ w'.cell? ⟨a.block, a.off + 3, none⟩ = some (.slice B0 t0.ks.length d0)) ∧ (w'.cell? ⟨a.block, a.off + 4, none⟩ = some (.int .u8 t1.k) ∧ w'.cell? ⟨a.block, a.off + 4 + 1, none⟩ = some (.int .i64 t1.n) ∧ w'.cell? ⟨a.block, a.off + 4 + 2, none⟩ = some (.string t1.s) ∧ w'.cell? ⟨a.block, a.off + 4 + 3, none⟩ = some (.slice B1 t1.ks.length d1)) ∧ (w'.cell? ⟨a.block, a.off + 8, none⟩ = some (.int .u8 t2.k) ∧ w'.cell? ⟨a.block, a.off + 8 + 1, none⟩ = some (.int .i64 t2.n) ∧ w'.cell? ⟨a.block, a.off + 8 + 2, none⟩ = some (.string t2.s) ∧ w'.cell? ⟨a.block, a.off + 8 + 3, none⟩ = some (.slice B2 t2.ks.length d2)) ∧ (w'.cell? ⟨a.block, a.off + 12, none⟩ = some (.int .u8 t3.k) ∧ w'.cell? ⟨a.block, a.off + 12 + 1, none⟩ = some (.int .i64 t3.n) ∧ w'.cell? ⟨a.block, a.off + 12 + 2, none⟩ = some (.string t3.s) ∧ w'.cell? ⟨a.block, a.off + 12 + 3, none⟩ = some (.slice B3 t3.ks.length d3)))
            (first | with_reducible exact HSx.out _ bx | with_reducible exact HSx.out _ (bx.alloc bx.size _) | with_reducible exact HSy.out _ _ (bx.alloc bx.size _) | with_reducible exact HSx.out _ (Below.refl _ _).drew)
            (first
              | (go_at_call 38; refine (HC2.out _ _ (HN2.out.later bx) HE2.out).mono ?_; rintro e w3 ⟨k2, n2, s2, G2, m2, j2, rfl, hm2, bw3⟩; have bx' := bx.trans (bw3.mono bx.size); have hri9 := HRI.out.later bx'; have hm1' := hm1.later bw3; clear bx; have bx := bx'; have z0 := cell_al (cell_of_blk (i := 0) (u := .int .u8 52) hri9.box rfl); have z1 := cell_al (cell_of_blk (i := 1) (u := .int .i64 n) hri9.box rfl); have z2 := cell_al (cell_of_blk (i := 2) (u := .string s) hri9.box rfl); have z3 := cell_al (cell_of_blk (i := 3) (u := .slice A1 l1 c1) hri9.box rfl); have y0 := cell_al (cell_of_blk (i := 0) (u := .int .u8 0) hri9.res rfl); have y1 := cell_al (cell_of_blk (i := 1) (u := .int .i64 0) hri9.res rfl); have y2 := cell_al (cell_of_blk (i := 2) (u := .string ⟨#[]⟩) hri9.res rfl); have y3 := cell_al (cell_of_blk (i := 3) (u := .slice none 0 0) hri9.res rfl); have zf := fun (o : Obj) (i : Nat) => frozen_of_blk (i := i) (hri9.later ((Below.refl _ _).alloc (Nat.le_refl _) o)).box; have yf := fun (o : Obj) (i : Nat) => frozen_of_blk (i := i) (hri9.later ((Below.refl _ _).alloc (Nat.le_refl _) o)).res)
              | (go_at_call 38; refine HC1.out.mono ?_; rintro e w2 ⟨k1, n1, s1, G1, m1, j1, rfl, hm1, bw2⟩; have bx := (Below.refl wc.heap.size wc).drew.trans (bw2.mono (by simp)))
              | fail)
          have hrow9 := hri9.row #[.int .u8 t3.k, .int .i64 t3.n, .string t3.s, .slice B3 t3.ks.length d3, .int .u8 k1, .int .i64 n1, .string s1, .slice G1 m1 j1, .int .u8 k2, .int .i64 n2, .string s2, .slice G2 m2 j2, .int .u8 t0.k, .int .i64 t0.n, .string t0.s, .slice B0 t0.ks.length d0] [t3, inv false t1, inv false t2, t0] 4 rfl rfl (by simp [LK]) (by
            intro i hi
            rcases i with _ | _ | _ | _ | i
            · exact ⟨_, _, _, _, rfl, rfl, rfl, rfl, (HN3.out.later bx).mono fun b hb => .inl hb⟩
            · exact ⟨_, _, _, _, rfl, rfl, rfl, rfl, hm1'.mono fun b hb => by rcases hb with hb | hb; exact .inl hb; exact .inr ⟨by have := HRI.out.size; simp at hb; omega, by have := blk_lt HRI.out.box; simp at hb; omega⟩⟩
            · exact ⟨_, _, _, _, rfl, rfl, rfl, rfl, hm2.mono fun b hb => by rcases hb with hb | hb; exact .inl hb; exact .inr ⟨by have := HRI.out.size; have := bw2.size; simp at *; omega, by have := blk_lt HRI.out.box; have := bw2.size; simp at *; omega⟩⟩
            · exact ⟨_, _, _, _, rfl, rfl, rfl, rfl, (HN0.out.later bx).mono fun b hb => .inl hb⟩
            · exact absurd hi (by simp only [List.length_cons, List.length_nil]; omega))
          have HROW9 := Lib.hid hrow9
          go_wp2_with fail
          have hr := (HROW9.out).result ⟨⟨by omega, by omega⟩, HF.out.2⟩ rfl (fun b => S0 b ∨ w.heap.size ≤ b) HSa.out HSb.out
          refine bodyPost_ret (v := nv 52 n s (some ⟨w3.heap.size, 0, none⟩) 4 4) (by simp [results, Try.results38, go_sem, y0, y1, y2, y3, hne4, hne5]) rfl ⟨52, n, s, (some ⟨w3.heap.size, 0, none⟩), 4, 4, rfl, ?_, hr.2⟩
          rw [HI.out]
          exact hr.1
        · obtain ⟨a, t0, B0, d0, rfl, hab, H0, m0, hn0⟩ := (HROW.out.later hri.below).nd (i := 0) (by simp)
          obtain ⟨a', t1, B1, d1, ea, _, H1, m1, hn1⟩ := (HROW.out.later hri.below).nd (i := 1) (by simp)
          injection ea with ea
          subst ea
          obtain ⟨a', t2, B2, d2, ea, _, H2, m2, hn2⟩ := (HROW.out.later hri.below).nd (i := 2) (by simp)
          injection ea with ea
          subst ea
          obtain ⟨a', t3, B3, d3, ea, _, H3, m3, hn3⟩ := (HROW.out.later hri.below).nd (i := 3) (by simp)
          injection ea with ea
          subst ea
          obtain rfl : t0 = x0 := H0.out.symm
          have M0 : (wc.cell? a = some (.int .u8 t0.k) ∧ wc.cell? ⟨a.block, a.off + 1, none⟩ = some (.int .i64 t0.n) ∧ wc.cell? ⟨a.block, a.off + 2, none⟩ = some (.string t0.s) ∧ wc.cell? ⟨a.block, a.off + 3, none⟩ = some (.slice B0 t0.ks.length d0)) := m0
          obtain rfl : t1 = x1 := H1.out.symm
          have M1 : (wc.cell? ⟨a.block, a.off + 4, none⟩ = some (.int .u8 t1.k) ∧ wc.cell? ⟨a.block, a.off + 4 + 1, none⟩ = some (.int .i64 t1.n) ∧ wc.cell? ⟨a.block, a.off + 4 + 2, none⟩ = some (.string t1.s) ∧ wc.cell? ⟨a.block, a.off + 4 + 3, none⟩ = some (.slice B1 t1.ks.length d1)) := m1
          obtain rfl : t2 = x2 := H2.out.symm
          have M2 : (wc.cell? ⟨a.block, a.off + 8, none⟩ = some (.int .u8 t2.k) ∧ wc.cell? ⟨a.block, a.off + 8 + 1, none⟩ = some (.int .i64 t2.n) ∧ wc.cell? ⟨a.block, a.off + 8 + 2, none⟩ = some (.string t2.s) ∧ wc.cell? ⟨a.block, a.off + 8 + 3, none⟩ = some (.slice B2 t2.ks.length d2)) := m2
          obtain rfl : t3 = x3 := H3.out.symm
          have M3 : (wc.cell? ⟨a.block, a.off + 12, none⟩ = some (.int .u8 t3.k) ∧ wc.cell? ⟨a.block, a.off + 12 + 1, none⟩ = some (.int .i64 t3.n) ∧ wc.cell? ⟨a.block, a.off + 12 + 2, none⟩ = some (.string t3.s) ∧ wc.cell? ⟨a.block, a.off + 12 + 3, none⟩ = some (.slice B3 t3.ks.length d3)) := m3
          clear m0 H0 m1 H1 m2 H2 m3 H3
          have HSx := Lib.hid (show ∀ w', Below wc.heap.size wc w' → w'.cell? ⟨w.heap.size, 3, none⟩ = some (.slice (some a) 4 c) ∧ (w'.cell? a = some (.int .u8 t0.k) ∧ w'.cell? ⟨a.block, a.off + 1, none⟩ = some (.int .i64 t0.n) ∧ w'.cell? ⟨a.block, a.off + 2, none⟩ = some (.string t0.s) ∧ w'.cell? ⟨a.block, a.off + 3, none⟩ = some (.slice B0 t0.ks.length d0)) ∧ (w'.cell? ⟨a.block, a.off + 4, none⟩ = some (.int .u8 t1.k) ∧ w'.cell? ⟨a.block, a.off + 4 + 1, none⟩ = some (.int .i64 t1.n) ∧ w'.cell? ⟨a.block, a.off + 4 + 2, none⟩ = some (.string t1.s) ∧ w'.cell? ⟨a.block, a.off + 4 + 3, none⟩ = some (.slice B1 t1.ks.length d1)) ∧ (w'.cell? ⟨a.block, a.off + 8, none⟩ = some (.int .u8 t2.k) ∧ w'.cell? ⟨a.block, a.off + 8 + 1, none⟩ = some (.int .i64 t2.n) ∧ w'.cell? ⟨a.block, a.off + 8 + 2, none⟩ = some (.string t2.s) ∧ w'.cell? ⟨a.block, a.off + 8 + 3, none⟩ = some (.slice B2 t2.ks.length d2)) ∧ (w'.cell? ⟨a.block, a.off + 12, none⟩ = some (.int .u8 t3.k) ∧ w'.cell? ⟨a.block, a.off + 12 + 1, none⟩ = some (.int .i64 t3.n) ∧ w'.cell? ⟨a.block, a.off + 12 + 2, none⟩ = some (.string t3.s) ∧ w'.cell? ⟨a.block, a.off + 12 + 3, none⟩ = some (.slice B3 t3.ks.length d3)) from fun w' h => ⟨cell_bl h a3, ⟨cell_bl h M0.1, cell_bl h M0.2.1, cell_bl h M0.2.2.1, cell_bl h M0.2.2.2⟩, ⟨cell_bl h M1.1, cell_bl h M1.2.1, cell_bl h M1.2.2.1, cell_bl h M1.2.2.2⟩, ⟨cell_bl h M2.1, cell_bl h M2.2.1, cell_bl h M2.2.2.1, cell_bl h M2.2.2.2⟩, ⟨cell_bl h M3.1, cell_bl h M3.2.1, cell_bl h M3.2.2.1, cell_bl h M3.2.2.2⟩⟩)
          have HSy := Lib.hid (show ∀ w1 u, Below wc.heap.size wc w1 → (w1.setCell ⟨g, 3, none⟩ u).cell? ⟨w.heap.size, 3, none⟩ = some (.slice (some a) 4 c) ∧ ((w1.setCell ⟨g, 3, none⟩ u).cell? a = some (.int .u8 t0.k) ∧ (w1.setCell ⟨g, 3, none⟩ u).cell? ⟨a.block, a.off + 1, none⟩ = some (.int .i64 t0.n) ∧ (w1.setCell ⟨g, 3, none⟩ u).cell? ⟨a.block, a.off + 2, none⟩ = some (.string t0.s) ∧ (w1.setCell ⟨g, 3, none⟩ u).cell? ⟨a.block, a.off + 3, none⟩ = some (.slice B0 t0.ks.length d0)) ∧ ((w1.setCell ⟨g, 3, none⟩ u).cell? ⟨a.block, a.off + 4, none⟩ = some (.int .u8 t1.k) ∧ (w1.setCell ⟨g, 3, none⟩ u).cell? ⟨a.block, a.off + 4 + 1, none⟩ = some (.int .i64 t1.n) ∧ (w1.setCell ⟨g, 3, none⟩ u).cell? ⟨a.block, a.off + 4 + 2, none⟩ = some (.string t1.s) ∧ (w1.setCell ⟨g, 3, none⟩ u).cell? ⟨a.block, a.off + 4 + 3, none⟩ = some (.slice B1 t1.ks.length d1)) ∧ ((w1.setCell ⟨g, 3, none⟩ u).cell? ⟨a.block, a.off + 8, none⟩ = some (.int .u8 t2.k) ∧ (w1.setCell ⟨g, 3, none⟩ u).cell? ⟨a.block, a.off + 8 + 1, none⟩ = some (.int .i64 t2.n) ∧ (w1.setCell ⟨g, 3, none⟩ u).cell? ⟨a.block, a.off + 8 + 2, none⟩ = some (.string t2.s) ∧ (w1.setCell ⟨g, 3, none⟩ u).cell? ⟨a.block, a.off + 8 + 3, none⟩ = some (.slice B2 t2.ks.length d2)) ∧ ((w1.setCell ⟨g, 3, none⟩ u).cell? ⟨a.block, a.off + 12, none⟩ = some (.int .u8 t3.k) ∧ (w1.setCell ⟨g, 3, none⟩ u).cell? ⟨a.block, a.off + 12 + 1, none⟩ = some (.int .i64 t3.n) ∧ (w1.setCell ⟨g, 3, none⟩ u).cell? ⟨a.block, a.off + 12 + 2, none⟩ = some (.string t3.s) ∧ (w1.setCell ⟨g, 3, none⟩ u).cell? ⟨a.block, a.off + 12 + 3, none⟩ = some (.slice B3 t3.ks.length d3)) from fun w1 u h => by
            have hx := HSx.out w1 h
            have hw : w.heap.size ≠ g := by omega
            have ha : a.block ≠ g := by have := hab.2; omega
            exact ⟨cell_set1 hw hx.1, ⟨cell_set1 ha hx.2.1.1, cell_set1 ha hx.2.1.2.1, cell_set1 ha hx.2.1.2.2.1, cell_set1 ha hx.2.1.2.2.2⟩, ⟨cell_set1 ha hx.2.2.1.1, cell_set1 ha hx.2.2.1.2.1, cell_set1 ha hx.2.2.1.2.2.1, cell_set1 ha hx.2.2.1.2.2.2⟩, ⟨cell_set1 ha hx.2.2.2.1.1, cell_set1 ha hx.2.2.2.1.2.1, cell_set1 ha hx.2.2.2.1.2.2.1, cell_set1 ha hx.2.2.2.1.2.2.2⟩, ⟨cell_set1 ha hx.2.2.2.2.1, cell_set1 ha hx.2.2.2.2.2.1, cell_set1 ha hx.2.2.2.2.2.2.1, cell_set1 ha hx.2.2.2.2.2.2.2⟩⟩)
          have HC1 := Lib.hid (IH.out t1 (by simp) (fun b => S0 b ∧ b < w.heap.size) _ _ (hn1.later (Below.refl _ _).drew) (.inr e1))
          have HC2 := Lib.hid (IH.out t2 (by simp) (fun b => S0 b ∧ b < w.heap.size))
          have HE2 := Lib.hid (show isS t2 = true ∨ isB t2 = true from .inr e2)
          have HI := Lib.hid (inv_if (k := 53) (n := n) (s := s) (by omega) e0 e1 e2 e3)
          have HN0 := Lib.hid hn0
          have HN2 := Lib.hid hn2
          have HN3 := Lib.hid hn3
          have hb4' := buildS4
          clear hn0 hn1 hn2 hn3 hS hp e0 e1 e2 e3 M0 M1 M2 M3 hri hb4 a0 a3 b0 b1 b2 b3 bz r0 r1 r2 r3 rz
          have a0 : wc.cell? ⟨w.heap.size, 0, none⟩ = some (.int .u8 53) := cell_of_blk HRI.out.arg rfl
          go_upto_region 14 with fail
          go_region_held3 (fun w' => w'.cell? ⟨w.heap.size, 3, none⟩ = some (.slice (some a) 4 c) ∧ (w'.cell? a = some (.int .u8 t0.k) ∧ w'.cell? ⟨a.block, a.off + 1, none⟩ = some (.int .i64 t0.n) ∧ w'.cell? ⟨a.block, a.off + 2, none⟩ = some (.string t0.s) ∧ w'.cell? ⟨a.block, a.off + 3, none⟩ = some (.slice B0 t0.ks.length d0)) ∧ (w'.cell? ⟨a.block, a.off + 4, none⟩ = some (.int .u8 t1.k) ∧ w'.cell? ⟨a.block, a.off + 4 + 1, none⟩ = some (.int .i64 t1.n) ∧ w'.cell? ⟨a.block, a.off + 4 + 2, none⟩ = some (.string t1.s) ∧ w'.cell? ⟨a.block, a.off + 4 + 3, none⟩ = some (.slice B1 t1.ks.length d1)) ∧ (w'.cell? ⟨a.block, a.off + 8, none⟩ = some (.int .u8 t2.k) ∧ w'.cell? ⟨a.block, a.off + 8 + 1, none⟩ = some (.int .i64 t2.n) ∧ w'.cell? ⟨a.block, a.off + 8 + 2, none⟩ = some (.string t2.s) ∧ w'.cell? ⟨a.block, a.off + 8 + 3, none⟩ = some (.slice B2 t2.ks.length d2)) ∧ (w'.cell? ⟨a.block, a.off + 12, none⟩ = some (.int .u8 t3.k) ∧ w'.cell? ⟨a.block, a.off + 12 + 1, none⟩ = some (.int .i64 t3.n) ∧ w'.cell? ⟨a.block, a.off + 12 + 2, none⟩ = some (.string t3.s) ∧ w'.cell? ⟨a.block, a.off + 12 + 3, none⟩ = some (.slice B3 t3.ks.length d3)))
            (first | with_reducible exact HSx.out _ bx | with_reducible exact HSx.out _ (bx.alloc bx.size _) | with_reducible exact HSy.out _ _ (bx.alloc bx.size _) | with_reducible exact HSx.out _ (Below.refl _ _).drew)
            (first
              | (go_at_call 38; refine (HC2.out _ _ (HN2.out.later bx) HE2.out).mono ?_; rintro e w3 ⟨k2, n2, s2, G2, m2, j2, rfl, hm2, bw3⟩; have bx' := bx.trans (bw3.mono bx.size); have hri9 := HRI.out.later bx'; have hm1' := hm1.later bw3; clear bx; have bx := bx'; have z0 := cell_al (cell_of_blk (i := 0) (u := .int .u8 53) hri9.box rfl); have z1 := cell_al (cell_of_blk (i := 1) (u := .int .i64 n) hri9.box rfl); have z2 := cell_al (cell_of_blk (i := 2) (u := .string s) hri9.box rfl); have z3 := cell_al (cell_of_blk (i := 3) (u := .slice A1 l1 c1) hri9.box rfl); have y0 := cell_al (cell_of_blk (i := 0) (u := .int .u8 0) hri9.res rfl); have y1 := cell_al (cell_of_blk (i := 1) (u := .int .i64 0) hri9.res rfl); have y2 := cell_al (cell_of_blk (i := 2) (u := .string ⟨#[]⟩) hri9.res rfl); have y3 := cell_al (cell_of_blk (i := 3) (u := .slice none 0 0) hri9.res rfl); have zf := fun (o : Obj) (i : Nat) => frozen_of_blk (i := i) (hri9.later ((Below.refl _ _).alloc (Nat.le_refl _) o)).box; have yf := fun (o : Obj) (i : Nat) => frozen_of_blk (i := i) (hri9.later ((Below.refl _ _).alloc (Nat.le_refl _) o)).res)
              | (go_at_call 38; refine HC1.out.mono ?_; rintro e w2 ⟨k1, n1, s1, G1, m1, j1, rfl, hm1, bw2⟩; have bx := (Below.refl wc.heap.size wc).drew.trans (bw2.mono (by simp)))
              | fail)
          have hrow9 := hri9.row #[.int .u8 t3.k, .int .i64 t3.n, .string t3.s, .slice B3 t3.ks.length d3, .int .u8 k1, .int .i64 n1, .string s1, .slice G1 m1 j1, .int .u8 k2, .int .i64 n2, .string s2, .slice G2 m2 j2, .int .u8 t0.k, .int .i64 t0.n, .string t0.s, .slice B0 t0.ks.length d0] [t3, inv false t1, inv false t2, t0] 4 rfl rfl (by simp [LK]) (by
            intro i hi
            rcases i with _ | _ | _ | _ | i
            · exact ⟨_, _, _, _, rfl, rfl, rfl, rfl, (HN3.out.later bx).mono fun b hb => .inl hb⟩
            · exact ⟨_, _, _, _, rfl, rfl, rfl, rfl, hm1'.mono fun b hb => by rcases hb with hb | hb; exact .inl hb; exact .inr ⟨by have := HRI.out.size; simp at hb; omega, by have := blk_lt HRI.out.box; simp at hb; omega⟩⟩
            · exact ⟨_, _, _, _, rfl, rfl, rfl, rfl, hm2.mono fun b hb => by rcases hb with hb | hb; exact .inl hb; exact .inr ⟨by have := HRI.out.size; have := bw2.size; simp at *; omega, by have := blk_lt HRI.out.box; have := bw2.size; simp at *; omega⟩⟩
            · exact ⟨_, _, _, _, rfl, rfl, rfl, rfl, (HN0.out.later bx).mono fun b hb => .inl hb⟩
            · exact absurd hi (by simp only [List.length_cons, List.length_nil]; omega))
          have HROW9 := Lib.hid hrow9
          go_wp2_with fail
          have hr := (HROW9.out).result ⟨⟨by omega, by omega⟩, HF.out.2⟩ rfl (fun b => S0 b ∨ w.heap.size ≤ b) HSa.out HSb.out
          refine bodyPost_ret (v := nv 53 n s (some ⟨w3.heap.size, 0, none⟩) 4 4) (by simp [results, Try.results38, go_sem, y0, y1, y2, y3, hne4, hne5]) rfl ⟨53, n, s, (some ⟨w3.heap.size, 0, none⟩), 4, 4, rfl, ?_, hr.2⟩
          rw [HI.out]
          exact hr.1
      · obtain ⟨a, t0, B0, d0, rfl, hab, H0, m0, hn0⟩ := (HROW.out.later hri.below).nd (i := 0) (by simp)
        obtain ⟨a', t1, B1, d1, ea, _, H1, m1, hn1⟩ := (HROW.out.later hri.below).nd (i := 1) (by simp)
        injection ea with ea
        subst ea
        obtain ⟨a', t2, B2, d2, ea, _, H2, m2, hn2⟩ := (HROW.out.later hri.below).nd (i := 2) (by simp)
        injection ea with ea
        subst ea
        obtain rfl : t0 = x0 := H0.out.symm
        have M0 : (wc.cell? a = some (.int .u8 t0.k) ∧ wc.cell? ⟨a.block, a.off + 1, none⟩ = some (.int .i64 t0.n) ∧ wc.cell? ⟨a.block, a.off + 2, none⟩ = some (.string t0.s) ∧ wc.cell? ⟨a.block, a.off + 3, none⟩ = some (.slice B0 t0.ks.length d0)) := m0
        obtain rfl : t1 = x1 := H1.out.symm
        have M1 : (wc.cell? ⟨a.block, a.off + 4, none⟩ = some (.int .u8 t1.k) ∧ wc.cell? ⟨a.block, a.off + 4 + 1, none⟩ = some (.int .i64 t1.n) ∧ wc.cell? ⟨a.block, a.off + 4 + 2, none⟩ = some (.string t1.s) ∧ wc.cell? ⟨a.block, a.off + 4 + 3, none⟩ = some (.slice B1 t1.ks.length d1)) := m1
        obtain rfl : t2 = x2 := H2.out.symm
        have M2 : (wc.cell? ⟨a.block, a.off + 8, none⟩ = some (.int .u8 t2.k) ∧ wc.cell? ⟨a.block, a.off + 8 + 1, none⟩ = some (.int .i64 t2.n) ∧ wc.cell? ⟨a.block, a.off + 8 + 2, none⟩ = some (.string t2.s) ∧ wc.cell? ⟨a.block, a.off + 8 + 3, none⟩ = some (.slice B2 t2.ks.length d2)) := m2
        clear m0 H0 m1 H1 m2 H2
        have HSx := Lib.hid (show ∀ w', Below wc.heap.size wc w' → w'.cell? ⟨w.heap.size, 3, none⟩ = some (.slice (some a) 3 c) ∧ (w'.cell? a = some (.int .u8 t0.k) ∧ w'.cell? ⟨a.block, a.off + 1, none⟩ = some (.int .i64 t0.n) ∧ w'.cell? ⟨a.block, a.off + 2, none⟩ = some (.string t0.s) ∧ w'.cell? ⟨a.block, a.off + 3, none⟩ = some (.slice B0 t0.ks.length d0)) ∧ (w'.cell? ⟨a.block, a.off + 4, none⟩ = some (.int .u8 t1.k) ∧ w'.cell? ⟨a.block, a.off + 4 + 1, none⟩ = some (.int .i64 t1.n) ∧ w'.cell? ⟨a.block, a.off + 4 + 2, none⟩ = some (.string t1.s) ∧ w'.cell? ⟨a.block, a.off + 4 + 3, none⟩ = some (.slice B1 t1.ks.length d1)) ∧ (w'.cell? ⟨a.block, a.off + 8, none⟩ = some (.int .u8 t2.k) ∧ w'.cell? ⟨a.block, a.off + 8 + 1, none⟩ = some (.int .i64 t2.n) ∧ w'.cell? ⟨a.block, a.off + 8 + 2, none⟩ = some (.string t2.s) ∧ w'.cell? ⟨a.block, a.off + 8 + 3, none⟩ = some (.slice B2 t2.ks.length d2)) from fun w' h => ⟨cell_bl h a3, ⟨cell_bl h M0.1, cell_bl h M0.2.1, cell_bl h M0.2.2.1, cell_bl h M0.2.2.2⟩, ⟨cell_bl h M1.1, cell_bl h M1.2.1, cell_bl h M1.2.2.1, cell_bl h M1.2.2.2⟩, ⟨cell_bl h M2.1, cell_bl h M2.2.1, cell_bl h M2.2.2.1, cell_bl h M2.2.2.2⟩⟩)
        have HSy := Lib.hid (show ∀ w1 u, Below wc.heap.size wc w1 → (w1.setCell ⟨g, 3, none⟩ u).cell? ⟨w.heap.size, 3, none⟩ = some (.slice (some a) 3 c) ∧ ((w1.setCell ⟨g, 3, none⟩ u).cell? a = some (.int .u8 t0.k) ∧ (w1.setCell ⟨g, 3, none⟩ u).cell? ⟨a.block, a.off + 1, none⟩ = some (.int .i64 t0.n) ∧ (w1.setCell ⟨g, 3, none⟩ u).cell? ⟨a.block, a.off + 2, none⟩ = some (.string t0.s) ∧ (w1.setCell ⟨g, 3, none⟩ u).cell? ⟨a.block, a.off + 3, none⟩ = some (.slice B0 t0.ks.length d0)) ∧ ((w1.setCell ⟨g, 3, none⟩ u).cell? ⟨a.block, a.off + 4, none⟩ = some (.int .u8 t1.k) ∧ (w1.setCell ⟨g, 3, none⟩ u).cell? ⟨a.block, a.off + 4 + 1, none⟩ = some (.int .i64 t1.n) ∧ (w1.setCell ⟨g, 3, none⟩ u).cell? ⟨a.block, a.off + 4 + 2, none⟩ = some (.string t1.s) ∧ (w1.setCell ⟨g, 3, none⟩ u).cell? ⟨a.block, a.off + 4 + 3, none⟩ = some (.slice B1 t1.ks.length d1)) ∧ ((w1.setCell ⟨g, 3, none⟩ u).cell? ⟨a.block, a.off + 8, none⟩ = some (.int .u8 t2.k) ∧ (w1.setCell ⟨g, 3, none⟩ u).cell? ⟨a.block, a.off + 8 + 1, none⟩ = some (.int .i64 t2.n) ∧ (w1.setCell ⟨g, 3, none⟩ u).cell? ⟨a.block, a.off + 8 + 2, none⟩ = some (.string t2.s) ∧ (w1.setCell ⟨g, 3, none⟩ u).cell? ⟨a.block, a.off + 8 + 3, none⟩ = some (.slice B2 t2.ks.length d2)) from fun w1 u h => by
          have hx := HSx.out w1 h
          have hw : w.heap.size ≠ g := by omega
          have ha : a.block ≠ g := by have := hab.2; omega
          exact ⟨cell_set1 hw hx.1, ⟨cell_set1 ha hx.2.1.1, cell_set1 ha hx.2.1.2.1, cell_set1 ha hx.2.1.2.2.1, cell_set1 ha hx.2.1.2.2.2⟩, ⟨cell_set1 ha hx.2.2.1.1, cell_set1 ha hx.2.2.1.2.1, cell_set1 ha hx.2.2.1.2.2.1, cell_set1 ha hx.2.2.1.2.2.2⟩, ⟨cell_set1 ha hx.2.2.2.1, cell_set1 ha hx.2.2.2.2.1, cell_set1 ha hx.2.2.2.2.2.1, cell_set1 ha hx.2.2.2.2.2.2⟩⟩)
        have HC1 := Lib.hid (IH.out t1 (by simp) (fun b => S0 b ∧ b < w.heap.size) _ _ (hn1.later (Below.refl _ _).drew) (.inr e1))
        have HI := Lib.hid (inv_local (n := n) (s := s) e0 e1 e2)
        have HN0 := Lib.hid hn0
        have HN2 := Lib.hid hn2
        have hb3' := buildS3
        clear hn0 hn1 hn2 hS hp e0 e1 e2 M0 M1 M2 hri hb4 a0 a3 b0 b1 b2 b3 bz r0 r1 r2 r3 rz
        have a0 : wc.cell? ⟨w.heap.size, 0, none⟩ = some (.int .u8 54) := cell_of_blk HRI.out.arg rfl
        go_upto_region 16 with fail
        go_region_held3 (fun w' => w'.cell? ⟨w.heap.size, 3, none⟩ = some (.slice (some a) 3 c) ∧ (w'.cell? a = some (.int .u8 t0.k) ∧ w'.cell? ⟨a.block, a.off + 1, none⟩ = some (.int .i64 t0.n) ∧ w'.cell? ⟨a.block, a.off + 2, none⟩ = some (.string t0.s) ∧ w'.cell? ⟨a.block, a.off + 3, none⟩ = some (.slice B0 t0.ks.length d0)) ∧ (w'.cell? ⟨a.block, a.off + 4, none⟩ = some (.int .u8 t1.k) ∧ w'.cell? ⟨a.block, a.off + 4 + 1, none⟩ = some (.int .i64 t1.n) ∧ w'.cell? ⟨a.block, a.off + 4 + 2, none⟩ = some (.string t1.s) ∧ w'.cell? ⟨a.block, a.off + 4 + 3, none⟩ = some (.slice B1 t1.ks.length d1)) ∧ (w'.cell? ⟨a.block, a.off + 8, none⟩ = some (.int .u8 t2.k) ∧ w'.cell? ⟨a.block, a.off + 8 + 1, none⟩ = some (.int .i64 t2.n) ∧ w'.cell? ⟨a.block, a.off + 8 + 2, none⟩ = some (.string t2.s) ∧ w'.cell? ⟨a.block, a.off + 8 + 3, none⟩ = some (.slice B2 t2.ks.length d2)))
          (first | with_reducible exact HSx.out _ bx | with_reducible exact HSx.out _ (bx.alloc bx.size _) | with_reducible exact HSy.out _ _ (bx.alloc bx.size _) | with_reducible exact HSx.out _ (Below.refl _ _).drew)
          (first
            | (go_at_call 38; refine HC1.out.mono ?_; rintro e w2 ⟨k1, n1, s1, G1, m1, j1, rfl, hm1, bw2⟩; have bx := (Below.refl wc.heap.size wc).drew.trans (bw2.mono (by simp)); have hri9 := HRI.out.later bx; have z0 := cell_al (cell_of_blk (i := 0) (u := .int .u8 54) hri9.box rfl); have z1 := cell_al (cell_of_blk (i := 1) (u := .int .i64 n) hri9.box rfl); have z2 := cell_al (cell_of_blk (i := 2) (u := .string s) hri9.box rfl); have z3 := cell_al (cell_of_blk (i := 3) (u := .slice A1 l1 c1) hri9.box rfl); have y0 := cell_al (cell_of_blk (i := 0) (u := .int .u8 0) hri9.res rfl); have y1 := cell_al (cell_of_blk (i := 1) (u := .int .i64 0) hri9.res rfl); have y2 := cell_al (cell_of_blk (i := 2) (u := .string ⟨#[]⟩) hri9.res rfl); have y3 := cell_al (cell_of_blk (i := 3) (u := .slice none 0 0) hri9.res rfl); have zf := fun (o : Obj) (i : Nat) => frozen_of_blk (i := i) (hri9.later ((Below.refl _ _).alloc (Nat.le_refl _) o)).box; have yf := fun (o : Obj) (i : Nat) => frozen_of_blk (i := i) (hri9.later ((Below.refl _ _).alloc (Nat.le_refl _) o)).res)
            | fail)
        have hrow9 := hri9.row #[.int .u8 t2.k, .int .i64 t2.n, .string t2.s, .slice B2 t2.ks.length d2, .int .u8 k1, .int .i64 n1, .string s1, .slice G1 m1 j1, .int .u8 t0.k, .int .i64 t0.n, .string t0.s, .slice B0 t0.ks.length d0] [t2, inv false t1, t0] 3 rfl rfl (by simp [LK]) (by
          intro i hi
          rcases i with _ | _ | _ | i
          · exact ⟨_, _, _, _, rfl, rfl, rfl, rfl, (HN2.out.later bx).mono fun b hb => .inl hb⟩
          · exact ⟨_, _, _, _, rfl, rfl, rfl, rfl, hm1.mono fun b hb => by rcases hb with hb | hb; exact .inl hb; exact .inr ⟨by have := HRI.out.size; simp at hb; omega, by have := blk_lt HRI.out.box; simp at hb; omega⟩⟩
          · exact ⟨_, _, _, _, rfl, rfl, rfl, rfl, (HN0.out.later bx).mono fun b hb => .inl hb⟩
          · exact absurd hi (by simp only [List.length_cons, List.length_nil]; omega))
        have HROW9 := Lib.hid hrow9
        go_wp2_with fail
        have hr := (HROW9.out).result ⟨⟨by omega, by omega⟩, HF.out.2⟩ rfl (fun b => S0 b ∨ w.heap.size ≤ b) HSa.out HSb.out
        refine bodyPost_ret (v := nv 54 n s (some ⟨w2.heap.size, 0, none⟩) 3 3) (by simp [results, Try.results38, go_sem, y0, y1, y2, y3, hne4, hne5]) rfl ⟨54, n, s, (some ⟨w2.heap.size, 0, none⟩), 3, 3, rfl, ?_, hr.2⟩
        rw [HI.out]
        exact hr.1
      · obtain ⟨a, t0, B0, d0, rfl, _, H0, m0, hn0⟩ := (HROW.out.later hri.below).nd (i := 0) (by simp)
        obtain rfl : t0 = x0 := H0.out.symm
        have M0 : (wc.cell? a = some (.int .u8 t0.k) ∧ wc.cell? ⟨a.block, a.off + 1, none⟩ = some (.int .i64 t0.n) ∧ wc.cell? ⟨a.block, a.off + 2, none⟩ = some (.string t0.s) ∧ wc.cell? ⟨a.block, a.off + 3, none⟩ = some (.slice B0 t0.ks.length d0)) := m0
        clear m0 H0
        have HC1 := Lib.hid (IH.out t0 (by simp) (fun b => S0 b ∧ b < w.heap.size) _ _ hn0 (.inr e0))
        have HI := Lib.hid (inv_lstack (n := n) (s := s) e0)
        obtain ⟨M0a, M0b, M0c, M0d⟩ := M0
        have hb1 := build1
        clear hn0 hS hp e0 hri hb4
        go_wp2_with fail
        refine HC1.out.mono ?_
        rintro e w2 ⟨k1, n1, s1, G1, m1, j1, rfl, hm1, bw2⟩
        have hri9 := HRI.out.later bw2
        clear a0 a3 b0 b1 b2 b3 bz r0 r1 r2 r3 rz M0a M0b M0c M0d
        have z0 := cell_al (cell_of_blk (i := 0) (u := .int .u8 55) hri9.box rfl)
        have z1 := cell_al (cell_of_blk (i := 1) (u := .int .i64 n) hri9.box rfl)
        have z2 := cell_al (cell_of_blk (i := 2) (u := .string s) hri9.box rfl)
        have z3 := cell_al (cell_of_blk (i := 3) (u := .slice A1 l1 c1) hri9.box rfl)
        have y0 := cell_al (cell_of_blk (i := 0) (u := .int .u8 0) hri9.res rfl)
        have y1 := cell_al (cell_of_blk (i := 1) (u := .int .i64 0) hri9.res rfl)
        have y2 := cell_al (cell_of_blk (i := 2) (u := .string ⟨#[]⟩) hri9.res rfl)
        have y3 := cell_al (cell_of_blk (i := 3) (u := .slice none 0 0) hri9.res rfl)
        have zf := fun (o : Obj) (i : Nat) => frozen_of_blk (i := i) (hri9.later ((Below.refl _ _).alloc (Nat.le_refl _) o)).box
        have yf := fun (o : Obj) (i : Nat) => frozen_of_blk (i := i) (hri9.later ((Below.refl _ _).alloc (Nat.le_refl _) o)).res
        have hrow9 := hri9.row #[.int .u8 k1, .int .i64 n1, .string s1, .slice G1 m1 j1] [inv false t0] 1 rfl rfl (by simp [LK]) (by
          intro i hi
          rcases i with _ | i
          · exact ⟨_, _, _, _, rfl, rfl, rfl, rfl, hm1.mono fun b hb => by rcases hb with hb | hb; exact .inl hb; exact .inr ⟨by have := HRI.out.size; omega, by have := blk_lt HRI.out.box; omega⟩⟩
          · exact absurd hi (by simp only [List.length_cons, List.length_nil]; omega))
        have HROW9 := Lib.hid hrow9
        clear hrow9
        go_wp2_with fail
        have hr := (HROW9.out).result ⟨⟨by omega, by omega⟩, HF.out.2⟩ rfl (fun b => S0 b ∨ w.heap.size ≤ b) HSa.out HSb.out
        refine bodyPost_ret (v := nv 55 n s (some ⟨w2.heap.size, 0, none⟩) 1 1) (by simp [results, Try.results38, go_sem, y0, y1, y2, y3, hne4, hne5]) rfl ⟨55, n, s, (some ⟨w2.heap.size, 0, none⟩), 1, 1, rfl, ?_, hr.2⟩
        rw [HI.out]
        exact hr.1
    · have hk57 : k = 57 := ((isB_iff _ _ _ _).1 hB).1
      subst hk57
      have HKB := Lib.hid (((isB_iff _ _ _ _).1 hB).2.2)
      have hb1 := build1
      have hri0 := hri.put (w' := wc) (v' := .slice none 0 0) (L' := []) (OwnN.nil _ _ _ _) (only_refl _ _) (by simp [Value.ownBlock])
      have HR0 := Lib.hid hri0
      clear hB hri0 hri
      go_wp2_with fail
      go_loopw [4] (fun i wr => ∃ (j : Nat) (A' : Option Addr) (c' : Nat), j ≤ ks.length ∧ i = .int .i64 ((ks.length : Int) - 1 - (j : Int)) ∧ RI w wr 24 57 n s A ks.length c 57 (fun b => (S0 b ∧ b < w.heap.size) ∨ (w.heap.size + 2 ≤ b ∧ b ≠ g)) g (.slice A' j c') (((ks.map (inv false)).reverse).take j)) (fun i _ => (intOf i + 1).toNat)
      case atStart => exact ⟨0, none, 0, Nat.zero_le _, by simp, HR0.out⟩
      case round =>
        obtain ⟨j, A', c', hj, rfl, hs⟩ := hrel
        clear a0 a3 b0 b1 b2 b3 bz r0 r1 r2 r3 rz HRI HR0
        by_cases hlt : j < ks.length
        · obtain ⟨q, hq⟩ : ∃ q : Nat, q = ks.length - 1 - j := ⟨_, rfl⟩
          have hqi : (ks.length : Int) - 1 - (j : Int) = (q : Int) := by omega
          have hq' : q < ks.length := by omega
          have hqa : (q : Int) < (ks.length : Int) := by omega
          have hqb : (0 : Int) ≤ (q : Int) := by omega
          have HQ := Lib.hid hq
          have HQI := Lib.hid hqi
          rw [hqi]
          clear hq hqi
          obtain ⟨a, t, A2, c2, rfl, _, Ht, ⟨q0, q1, q2, q3⟩, hn⟩ := (HROW.out.later hs.below).nd hq'
          have hIH : isS t = true := by have := HKB.out ks[q] (List.getElem_mem hq'); rw [Ht.out] at this; exact this
          have hIH2 := IH.out ks[q] (List.getElem_mem hq')
          rw [Ht.out] at hIH2
          have HI1 := Lib.hid (hIH2 (fun b => S0 b ∧ b < w.heap.size) _ _ (hn.later (Below.refl _ _).drew) (.inl hIH))
          have a3 : wr.cell? ⟨w.heap.size, 3, none⟩ = some (.slice (some a) ks.length c) := cell_of_blk hs.arg rfl
          have g3 : wr.cell? ⟨g, 3, none⟩ = some (.slice A' j c') := cell_of_blk hs.box rfl
          have hlen1 : ((ks.map (inv false)).reverse.take j).length + 1 ≤ LK := by have := HLK.out; simp; omega
          have HS := Lib.hid hs
          have HHN := Lib.hid hn
          clear hIH hIH2 hs hn
          go_wp2_with fail
          go_region_law (first
            | (refine step_call1 (by rfl) (.func 38) (.tmp 43) _ (by rfl) 38 _ fnRInv (by rfl) _ (by rfl) _ (shV_of HI1.out) ?_; rintro v1 w1 ⟨k1, n1, s1, A3, l3, c3, rfl, hn1, hbb1⟩; have hx := cell_bl hbb1 g3; have hx' := cell_al hx; have hs1 := HS.out.later ((Below.refl _ _).drew.trans (hbb1.mono (by simp))))
            | (refine step_append_node (by rfl) (.tmp 38) (.tmp 45) 22 (by rfl) 24 i0 _ Try.underlying22 hi0 hz0 hz1 hz2 rfl (w.heap.size + 2) (fun b => (S0 b ∧ b < w.heap.size) ∨ (w.heap.size + 2 ≤ b ∧ b ≠ g)) (.slice A' j c') _ (by rfl) hs1.own (inv false t) k1 n1 s1 A3 l3 c3 (by rfl) (HS.out.fresh hn1) hlen1 hs1.size ?_; intro v2 w2 hown2 hg2 hob2; obtain ⟨A4, c4, hv4, hc4, _, _⟩ := hown2.row; have hst := hs1.put hown2 hg2 (hs1.ne_grown (Nat.le_refl _) hob2); have hbx := (hg2.block _ (blk_lt hs1.box) (fun e => hs1.ne e.symm)).trans hs1.box; have hy0 : w2.cell? ⟨g, 3, none⟩ = some (.slice A' j c') := cell_of_blk hbx rfl; have hy1 : w2.frozen? ⟨g, 3, none⟩ = false := frozen_of_blk hbx; rw [hv4] at hst; have HST := Lib.hid hst; clear hst; rw [hv4])
            | fail)
          all_goals
            have hst := HST.out
            have e1 : ((ks.map (inv false)).reverse.take j ++ [inv false t]).length = j + 1 := by simp; omega
            have e2 : (ks.map (inv false)).reverse.take j ++ [inv false t] = (ks.map (inv false)).reverse.take (j + 1) := by
              rw [List.take_succ_eq_append_getElem (by simpa using hlt)]
              congr 1
              rw [List.getElem_reverse, List.getElem_map, ← Ht.out]
              simp only [List.length_map, HQ.out]
            rw [e1, e2] at hst
            have HX := Lib.hid hst
            clear e1 e2 hst
            go_wp2_with fail
            go_roundw
            case rel => exact ⟨j + 1, A4, c4, by have := HQ.out; omega, by have := HQI.out; congr 1; omega, HX.out⟩
            case measure => have := HQI.out; (simp [intOf] <;> omega)
        · obtain rfl : j = ks.length := by omega
          have hqi : (ks.length : Int) - 1 - (ks.length : Int) = -1 := by omega
          rw [hqi]
          have b0 : wr.cell? ⟨g, 0, none⟩ = some (.int .u8 57) := cell_of_blk hs.box rfl
          have b1 : wr.cell? ⟨g, 1, none⟩ = some (.int .i64 n) := cell_of_blk hs.box rfl
          have b2 : wr.cell? ⟨g, 2, none⟩ = some (.string s) := cell_of_blk hs.box rfl
          have b3 : wr.cell? ⟨g, 3, none⟩ = some (.slice A' ks.length c') := cell_of_blk hs.box rfl
          have r0 : wr.cell? ⟨w.heap.size + 1, 0, none⟩ = some (.int .u8 0) := cell_of_blk hs.res rfl
          have r1 : wr.cell? ⟨w.heap.size + 1, 1, none⟩ = some (.int .i64 0) := cell_of_blk hs.res rfl
          have r2 : wr.cell? ⟨w.heap.size + 1, 2, none⟩ = some (.string ⟨#[]⟩) := cell_of_blk hs.res rfl
          have r3 : wr.cell? ⟨w.heap.size + 1, 3, none⟩ = some (.slice none 0 0) := cell_of_blk hs.res rfl
          have rz : ∀ i, wr.frozen? ⟨w.heap.size + 1, i, none⟩ = false := fun i => frozen_of_blk hs.res
          rw [List.take_of_length_le (by simp)] at hs
          go_wp2_with fail
          have hr := (hs).result ⟨⟨by omega, by omega⟩, HF.out.2⟩ rfl (fun b => S0 b ∨ w.heap.size ≤ b) HSa.out HSb.out
          refine bodyPost_ret (v := nv 57 n s A' ks.length c') (by simp [results, Try.results38, go_sem, r0, r1, r2, r3]) rfl ⟨57, n, s, A', ks.length, c', rfl, ?_, hr.2⟩
          rw [inv_block]
          exact hr.1

end Go.Proofs.Ytldcjboignbfpaa
