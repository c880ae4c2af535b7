/-
  store: the contract of Enter.
-/
import Derived.Test.YtekjfbnggfbfhaaSp
import Derived.Test.YtekjfbnggfbfhaaCal
import Derived.BigQuiet
namespace Go.Proofs.Ytekjfbnggfbfhaa
open Go Go.RowKit

/-- The frame that Enter builds; f: the current frame. -/
def entL (f : FR) (acc : FR) : List (VD × ByteArray) → Except Int FR
  | [] => .ok acc
  | (v, a) :: r => match f.at a with
    | none => .error 6
    | some i => if (f.vs.getD i ⟨⟨#[]⟩, 0, 0⟩).k = v.k ∧ (f.vs.getD i ⟨⟨#[]⟩, 0, 0⟩).n = v.n then entL f ⟨acc.vs ++ [v], acc.cs ++ [f.cs.getD i 0], 0⟩ r else .error 7
def entR (S : ST) : Except Int FR → Int × ST
  | .error e => (e, S)
  | .ok f => if 100 ≤ S.calls.length then (19, S) else (0, { S with calls := S.calls ++ [f] })
/-- Store.Enter. -/
def enterE (S : ST) (ps : List VD) (ss : List ByteArray) : Int × ST :=
  if ps.length ≠ ss.length then (7, S) else entR S (entL S.cur ⟨[], [], 0⟩ (ps.zip ss))

/-- The rows of a frame that is being built: its box, its variables, its cells. -/
def bldF (cb : Nat → Nat) (nb : Nat) (vv vc : Value) (f : FR) : Fin 3 → RowD
  | 0 => ⟨boxV nb, 74, 3, 1, [vv, vc, .int .i64 f.loc]⟩
  | 1 => ⟨vv, 24, 3, f.vs.length, flatV f.vs⟩
  | 2 => ⟨vc, 79, 1, f.vs.length, ptrs cb f.cs⟩
theorem bldF_new (cb : Nat → Nat) (w : World) : Rws (w.alloc (.cells #[.slice none 0 0, .slice none 0 0, .int .i64 0] 74)) w.heap.size (bldF cb w.heap.size (.slice none 0 0) (.slice none 0 0) ⟨[], [], 0⟩) := by
  refine ⟨fun i => ?_, fun i j b hij hi hj => ?_⟩
  · match i with
    | 0 => exact own_new (k := 3) w w.heap.size _ [_, _, _] (Nat.le_refl _) rfl
    | 1 => exact World.ownsRow_nil _ _ _ _
    | 2 => exact World.ownsRow_nil _ _ _ _
  · match i, j with
    | 0, 0 => exact hij rfl
    | 0, 1 => simp [bldF, Value.ownBlock] at hj
    | 0, 2 => simp [bldF, Value.ownBlock] at hj
    | 1, _ => simp [bldF, Value.ownBlock] at hi
    | 2, _ => simp [bldF, Value.ownBlock] at hi
theorem chg_cell {C : Nat → Prop} {w w' : World} (h : Chg C w w') {p : Addr} {u : Value} (hp : w.cell? p = some u) (hc : ¬ C p.block) : w'.cell? p = some u := (World.cell?_of_block (a := p) (h.block _ (World.block_lt_of_cell? w p hp) hc)).trans hp
/-- frame.add at a frame that is being built. -/
theorem add_bld {cb : Nat → Nat} {W : World} {n1 nb : Nat} {vv vc : Value} {f : FR} (h : Rws W n1 (bldF cb nb vv vc f)) (hlim : f.vs.length ≤ 4398046511000) (v : VD) (id : Nat) :
    Calls Try.prog 32 #[.pointer (some ⟨nb, 0, none⟩), .agg #[.string v.s, .int .u8 v.k, .int .i64 v.n], .pointer (some ⟨cb id, 0, none⟩)] W fun e W' => (∃ u, e = .returned u) ∧ ∃ vv' vc', Rws W' n1 (bldF cb nb vv' vc' ⟨f.vs ++ [v], f.cs ++ [id], f.loc⟩) ∧ Chg (OwnB (bldF cb nb vv vc f)) W W' := by
  have hadd := add_any h (0 : Fin 3) 1 2 (by decide) (by decide) (by decide) nb 0 rfl rfl rfl (flatV f.vs) (ptrs cb f.cs) f.vs.length rfl rfl hlim v (some ⟨cb id, 0, none⟩)
  refine hadd.mono ?_
  rintro e W' ⟨hu, vv', vc', hst⟩
  refine ⟨hu, vv', vc', ?_, hst.chg⟩
  have := hst.rws
  refine (Stp.refl this).cast ?_ |>.rws
  funext i
  match i with
  | 0 => simp [updR, bldF]
  | 1 => simp [updR, bldF, flatV]
  | 2 => simp [updR, bldF, ptrs]

/-- Two new rows are taken in. -/
theorem Stp.take2 {I : Type} [DecidableEq I] {n0 : Nat} {d : I → RowD} {W W' : World} (h : Rws W n0 d) (hb : Below W.heap.size W W') (i j : I) (hij : i ≠ j) (r1 r2 : RowD) (o1 : W'.ownsRow n0 r1.E r1.sz r1.v r1.n r1.xs) (o2 : W'.ownsRow n0 r2.E r2.sz r2.v r2.n r2.xs)
    (n1 : ∀ b, r1.v.ownBlock = some b → W.heap.size ≤ b) (n2 : ∀ b, r2.v.ownBlock = some b → W.heap.size ≤ b) (hs : ∀ b, r1.v.ownBlock = some b → r2.v.ownBlock ≠ some b) : Stp n0 d W (updR (updR d i r1) j r2) W' := by
  have hl := h.later hb
  have key : ∀ q, (q = j ∧ updR (updR d i r1) j r2 q = r2) ∨ (q ≠ j ∧ q = i ∧ updR (updR d i r1) j r2 q = r1) ∨ (q ≠ j ∧ q ≠ i ∧ updR (updR d i r1) j r2 q = d q) := fun q => by
    by_cases e : q = j
    · subst e; exact .inl ⟨rfl, updR_same⟩
    · by_cases e2 : q = i
      · subst e2; exact .inr (.inl ⟨e, rfl, by rw [updR_other e, updR_same]⟩)
      · exact .inr (.inr ⟨e, e2, by rw [updR_other e, updR_other e2]⟩)
  have hlt : ∀ q b, (d q).v.ownBlock = some b → b < W.heap.size := fun q b hq => (h.lt q b hq).2
  refine ⟨⟨fun q => ?_, fun p q b hpq h1 h2 => ?_⟩, Chg.of_below hb, fun b ⟨q, hq⟩ => ?_⟩
  · rcases key q with ⟨_, e⟩ | ⟨_, _, e⟩ | ⟨_, _, e⟩
    · rw [e]; exact o2
    · rw [e]; exact o1
    · rw [e]; exact hl.row q
  · rcases key p with ⟨ep, e⟩ | ⟨_, ep, e⟩ | ⟨_, _, e⟩ <;> rcases key q with ⟨eq, e'⟩ | ⟨_, eq, e'⟩ | ⟨_, _, e'⟩ <;> rw [e] at h1 <;> rw [e'] at h2
    · exact hpq (ep.trans eq.symm)
    · exact hs b h2 h1
    · have := n2 b h1; have := hlt _ b h2; omega
    · exact hs b h1 h2
    · exact hpq (ep.trans eq.symm)
    · have := n1 b h1; have := hlt _ b h2; omega
    · have := n2 b h2; have := hlt _ b h1; omega
    · have := n1 b h2; have := hlt _ b h1; omega
    · exact h.sep p q b hpq h1 h2
  · rcases key q with ⟨_, e⟩ | ⟨_, _, e⟩ | ⟨_, _, e⟩ <;> rw [e] at hq
    · exact .inr (n2 b hq)
    · exact .inr (n1 b hq)
    · exact .inl ⟨q, hq⟩

theorem entL_WF {f : FR} {kd : Nat → Int × Int} {nc : Nat} (h : f.WF kd nc) : ∀ (l : List (VD × ByteArray)) (acc g : FR), acc.WF kd nc → acc.loc = 0 → (∀ p ∈ l, FldV p.1) → acc.vs.length + l.length ≤ 4398046511000 → entL f acc l = .ok g → g.WF kd nc ∧ g.loc = 0
  | [], acc, g, ha, h0, _, _, he => by simp only [entL, Except.ok.injEq] at he; subst he; exact ⟨ha, h0⟩
  | (v, a) :: r, acc, g, ha, h0, hf, hl, he => by
    rw [entL] at he
    split at he
    · cases he
    · next i hi =>
      have hil := FR.at_lt hi
      have hic : i < f.cs.length := by rw [h.len]; exact hil
      split at he
      · next hk =>
        simp only [List.getD_eq_getElem?_getD, List.getElem?_eq_getElem hil, List.getElem?_eq_getElem hic, Option.getD_some] at hk he
        refine entL_WF h r _ g ?_ rfl (fun p hp => hf p (List.mem_cons_of_mem _ hp)) (by simp at hl ⊢; omega) he
        refine ⟨by simp [ha.len], by simp, by simp at hl ⊢; omega, fun u hu => ?_, fun c hc => ?_, fun q hq hq' => ?_⟩
        · simp only [List.mem_append, List.mem_singleton] at hu
          rcases hu with hu | rfl
          · exact ha.fld u hu
          · exact hf _ (List.mem_cons_self ..)
        · simp only [List.mem_append, List.mem_singleton] at hc
          rcases hc with hc | rfl
          · exact ha.num c hc
          · exact h.num _ (List.getElem_mem hic)
        · have hal := ha.len
          dsimp only at hq hq' ⊢
          by_cases e : q < acc.vs.length
          · have e' : q < acc.cs.length := by omega
            simp only [List.getElem_append_left e, List.getElem_append_left e']
            exact ha.kind q e e'
          · have e2 : q = acc.vs.length := by simp at hq; omega
            have e3 : (acc.vs ++ [v])[q] = v := by simp [e2]
            have e4 : (acc.cs ++ [f.cs[i]])[q] = f.cs[i] := by simp [e2, ← hal]
            rw [e3, e4, h.kind i hil hic, hk.1, hk.2]
      · cases he
theorem WF_enter {S : ST} (h : S.WF) (ps : List VD) (ss : List ByteArray) (g : FR) (hf : ∀ v ∈ ps, FldV v) (hl : ps.length ≤ 4398046511000) (he : entL S.cur ⟨[], [], 0⟩ (ps.zip ss) = .ok g) (hn : S.calls.length < 100) : ({ S with calls := S.calls ++ [g] } : ST).WF ∧ g.loc = 0 ∧ g.cs.length = g.vs.length := by
  obtain ⟨kd, h1, h2, h3⟩ := h.ex
  have hc : S.cur.WF kd S.nc := by
    rcases Nat.eq_zero_or_pos S.calls.length with h0 | h0
    · rw [cur_0 h0]; exact h1
    · rw [cur_1 h0]; exact h2 _ (List.getElem_mem _)
  have := entL_WF hc (ps.zip ss) ⟨[], [], 0⟩ g ⟨rfl, Nat.le_refl _, by simp, by simp, by simp, by simp⟩ rfl (fun p hp => hf _ (List.of_mem_zip hp).1) (by simp; omega) he
  refine ⟨⟨⟨kd, h1, fun f hf => ?_, h3⟩, by simp; omega, h.cells, h.tin, h.tout⟩, this.2, this.1.len⟩
  simp only [List.mem_append, List.mem_singleton] at hf
  rcases hf with hf | rfl
  · exact h2 f hf
  · exact this.1

theorem flatF_snoc {P P' : Ph} {g : FR} : ∀ (fs : List FR) (i : Nat), (∀ q, q < i + fs.length → P'.fV q = P.fV q ∧ P'.fC q = P.fC q) → flatF P' i (fs ++ [g]) = flatF P i fs ++ [P'.fV (i + fs.length), P'.fC (i + fs.length), .int .i64 g.loc]
  | [], i, _ => by simp [flatF]
  | f :: fs, i, h => by
    have := flatF_snoc (P := P) (P' := P') (g := g) fs (i + 1) (fun q hq => h q (by simp; omega))
    have h0 := h i (by simp)
    simp only [List.cons_append, flatF, this, h0.1, h0.2, List.length_cons]
    rw [show i + 1 + fs.length = i + (fs.length + 1) by omega]
def Ph.enter (P : Ph) (m : Nat) (vf vv vc : Value) : Ph := { P with vF := vf, fV := fun i => if i = m then vv else P.fV i, fC := fun i => if i = m then vc else P.fC i }
theorem rows_enter (P : Ph) (S : ST) (g : FR) (vf vv vc : Value) (hg : g.loc = 0) (hgl : g.cs.length = g.vs.length) : rows (P.enter S.calls.length vf vv vc) { S with calls := S.calls ++ [g] } =
    updR (updR (updR (updR (rows P S) (.fv S.calls.length) ⟨vv, 24, 3, g.vs.length, flatV g.vs⟩) (.fc S.calls.length) ⟨vc, 79, 1, g.vs.length, ptrs P.cb g.cs⟩) .calls ⟨vf, 74, 3, S.calls.length + 1, flatF P 0 S.calls ++ [vv, vc, .int .i64 0]⟩) .sb
      { rows P S .sb with xs := (rows P S .sb).xs.set 3 vf } := by
  funext r
  cases r with
  | calls =>
    have := flatF_snoc (P := P) (P' := P.enter S.calls.length vf vv vc) (g := g) S.calls 0 (fun q hq => by
      have : q ≠ S.calls.length := by omega
      simp [Ph.enter, this])
    simp only [updR, reduceCtorEq, if_false, if_true, rows, this]
    simp [Ph.enter, hg]
  | fv i =>
    by_cases e : i = S.calls.length
    · subst e
      simp [updR, rows, Ph.enter]
    · simp only [updR, Res.fv.injEq, e, reduceCtorEq, if_false, rows, Ph.enter]
      by_cases hi : i < S.calls.length
      · rw [List.getElem?_append_left hi]
      · rw [List.getElem?_eq_none (show (S.calls ++ [g]).length ≤ i by simp; omega), List.getElem?_eq_none (by omega)]
  | fc i =>
    by_cases e : i = S.calls.length
    · subst e
      simp [updR, rows, Ph.enter, hgl]
    · simp only [updR, Res.fc.injEq, e, reduceCtorEq, if_false, rows, Ph.enter]
      by_cases hi : i < S.calls.length
      · rw [List.getElem?_append_left hi]
      · rw [List.getElem?_eq_none (show (S.calls ++ [g]).length ≤ i by simp; omega), List.getElem?_eq_none (by omega)]
  | sb => simp [updR, rows, Ph.enter]
  | tb => simp [updR, rows, Ph.enter]
  | tin => simp [updR, rows, Ph.enter]
  | tout => simp [updR, rows, Ph.enter]
  | bv => simp [updR, rows, Ph.enter]
  | bc => simp [updR, rows, Ph.enter]
  | cb i => simp [updR, rows, Ph.enter]
  | ci i => simp [updR, rows, Ph.enter]
  | x i => simp [updR, rows]
theorem own_mono {w : World} {n0 n1 : Nat} {E : TypeId} {size : Nat} {v : Value} {n : Nat} {xs : List Value} (h : w.ownsRow n1 E size v n xs) (hn : n0 ≤ n1) : w.ownsRow n0 E size v n xs := by
  obtain ⟨x1, x2⟩ := h
  refine ⟨x1, ?_⟩
  rcases x2 with x2 | ⟨g, cap, cur, y1, y2, y3⟩
  · exact .inl x2
  · exact .inr ⟨g, cap, cur, y1, by omega, y3⟩
/-- What 's.calls = append(s.calls, next)' leaves. -/
theorem enter_fin {W W1 W2 w3 : World} {n0 : Nat} {P : Ph} {S : ST} (h : SR W n0 P S) (hb : Below W.heap.size W W1) (nb : Nat) (vv vc : Value) (g : FR) (hr : Rws W1 W.heap.size (bldF P.cb nb vv vc g)) (hg : g.loc = 0) (hgl : g.cs.length = g.vs.length) (hwf : ({ S with calls := S.calls ++ [g] } : ST).WF)
    (hb2 : Below W1.heap.size W1 W2) (v' : Value) (h2 : w3.ownsRow n0 74 3 v' (S.calls.length + 1) (flatF P 0 S.calls ++ [vv, vc, .int .i64 0])) (h3 : W2.grownBy w3 P.vF.ownBlock) (h5 : v'.ownBlock = P.vF.ownBlock ∨ v'.ownBlock = some W2.heap.size) :
    w3.cell? ⟨P.sb, 3, none⟩ = some P.vF ∧ w3.frozen? ⟨P.sb, 3, none⟩ = false ∧ SStp n0 P S W (P.enter S.calls.length v' vv vc) { S with calls := S.calls ++ [g] } (w3.setCell ⟨P.sb, 3, none⟩ v') := by
  have hn : n0 ≤ W.heap.size := by have := h.rws.lt .sb P.sb rfl; omega
  have s1 := Stp.take2 h.rws hb (.fv S.calls.length) (.fc S.calls.length) (by simp) ⟨vv, 24, 3, g.vs.length, flatV g.vs⟩ ⟨vc, 79, 1, g.vs.length, ptrs P.cb g.cs⟩
    (own_mono (hr.row 1) hn) (own_mono (hr.row 2) hn) (fun b e => (hr.lt 1 b e).1) (fun b e => (hr.lt 2 b e).1) (fun b e => hr.sep 1 2 b (by decide) e)
  have s2 := s1.below hb2
  have hc : updR (updR (rows P S) (.fv S.calls.length) ⟨vv, 24, 3, g.vs.length, flatV g.vs⟩) (.fc S.calls.length) ⟨vc, 79, 1, g.vs.length, ptrs P.cb g.cs⟩ .calls = rows P S .calls := rfl
  have s3 := Stp.upd (i := Res.calls) (r := ⟨v', 74, 3, S.calls.length + 1, flatF P 0 S.calls ++ [vv, vc, .int .i64 0]⟩) s2.rws ((Chg.row h3).mono fun b _ hb => hb) h2 (fun b hb => by
    rcases h5 with h5 | h5
    · exact .inl (h5 ▸ hb)
    · exact .inr (by rw [h5] at hb; injection hb with hb; omega))
  have s4 := Stp.set (i := Res.sb) s3.rws (g := P.sb) rfl (o := 3) (by show 3 < 5; decide) v'
  refine ⟨s3.rws.cell .sb (g := P.sb) (o := 3) rfl rfl, s3.rws.frozen .sb (g := P.sb) rfl 3, ⟨?_, hwf⟩⟩
  refine ((s2.trans s3).trans s4).cast ?_
  rw [rows_enter P S g v' vv vc hg hgl]
  rfl

theorem fnAdd : IsFn Try.prog 32 Try.f32 := ⟨Try.func32, by kernel_rfl, by kernel_rfl⟩
theorem frInfo : (Try.prog.info? 74).map (fun i => (i.zero, i.size, i.bytes)) = some (some (.agg #[.slice none 0 0, .slice none 0 0, .int .i64 0]), 3, 56) := by kernel_rfl
theorem buildSF1 (A0 A1 : Option Addr) (l0 c0 l1 c1 : Nat) (x : Int) (w : World) : (Instr.buildSlice 75 1 #[(0, .agg #[.slice A0 l0 c0, .slice A1 l1 c1, .int .i64 x])]).run Try.prog w = .ok (.slice (some ⟨w.heap.size, 0, none⟩) 1 1) (w.alloc (.cells #[.slice A0 l0 c0, .slice A1 l1 c1, .int .i64 x] 74)) := by kernel_rfl

set_option maxHeartbeats 4000000 in
set_option maxRecDepth 100000 in
theorem Enter_any {W : World} {n0 : Nat} {P : Ph} {S : ST} (h : SR W n0 P S) (ps : List VD) (ss : List ByteArray) (A D : Option Addr) (c d : Nat) (hp : RowV W Any A ps) (hs : RowS W D ss) (hlp : ps.length ≤ 4398046511000) (_hls : ss.length ≤ 17592186044416) :
    Calls Try.prog 17 #[.pointer (some ⟨P.sb, 0, none⟩), .slice A ps.length c, .slice D ss.length d] W fun e W' => e = .returned (.int .i64 (enterE S ps ss).1) ∧ ∃ P', SStp n0 P S W P' (enterE S ps ss).2 W' ∧ P'.sb = P.sb := by
  obtain ⟨R, hR⟩ : ∃ R, enterE S ps ss = R := ⟨_, rfl⟩
  rw [hR]
  have HS := Lib.hid h
  have HP := Lib.hid hp
  have HSS := Lib.hid hs
  have HRR := Lib.hid hR
  clear hR hp hs
  by_cases hlen : ps.length = ss.length
  · rw [← hlen]
    obtain ⟨kd, hw⟩ := h.curWF
    obtain ⟨A0, c0, hcv, hc, hrow⟩ := h.curVs
    obtain ⟨h3, h4, h5⟩ := h.cur3
    rw [hcv] at h3
    obtain ⟨B, O, hcp⟩ : ∃ B O, curP P S = ⟨B, O, none⟩ := ⟨_, _, (cur_holder h).1⟩
    have HCU := Lib.hid (fun W' (hb : Below W.heap.size W W') => current_any (h.later hb))
    have HFI := Lib.hid (fun (s : ByteArray) W' (hb : Below W.heap.size W W') => find_any S.cur.vs A0 c0 s (curP P S) W' (cell_bl hb h3) (hrow.later hb) hw.lim)
    rw [hcp] at h3 h4 HCU HFI
    dsimp only at h3 h4
    have HROW := Lib.hid hrow
    have HCS := Lib.hid h.curCs
    have HWF := Lib.hid hw
    have HL := Lib.hid hlen
    have H3 := Lib.hid h3
    have H4 := Lib.hid h4
    obtain ⟨E, hE⟩ : ∃ E, entL S.cur ⟨[], [], 0⟩ (ps.zip ss) = E := ⟨_, rfl⟩
    have HE := Lib.hid (show R = entR S E by rw [← HRR.out, enterE, if_neg (by simp [hlen]), hE])
    have HE0 := Lib.hid hE
    have hn0 := HS.out.wf.ncalls
    clear h hw hcv hrow h3 h4 h5 HRR hlen hE
    go_enter Try.func17, Try.ntmps17
    go_wp2_with fail
    refine (HCU.out _ (bl_al (Below.refl _ _) _)).mono ?_
    rintro e w1 ⟨rfl, rfl⟩
    go_wp2_with fail
    go_loopw [23] (fun i wr => ∃ j : Nat, j ≤ ps.length ∧ i = .int .i64 j ∧ Hid (Below W.heap.size W wr) ∧ ∃ vv vc acc, Hid (Rws wr W.heap.size (bldF P.cb W.heap.size vv vc acc)) ∧ Hid (acc.vs.length = j) ∧ Hid (acc.loc = 0) ∧ Hid (entL S.cur acc ((ps.zip ss).drop j) = E)) (fun i _ => ps.length - (intOf i).toNat)
    case atStart => exact ⟨0, Nat.zero_le _, rfl, Lib.hid (bl_al (Below.refl _ _) _), .slice none 0 0, .slice none 0 0, ⟨[], [], 0⟩, Lib.hid (bldF_new P.cb W), Lib.hid rfl, Lib.hid rfl, HE0⟩
    case round =>
      obtain ⟨j, hj, rfl, HBL, vv, vc, acc, HRW, HAL, HA0, HEJ⟩ := hrel
      by_cases hlt : j < ps.length
      · have hlt2 : j < ss.length := by rw [← HL.out]; exact hlt
        obtain ⟨a, rfl, -, ⟨y0, y1, y2⟩, hfv⟩ := (HP.out.later HBL.out) j hlt
        obtain ⟨b, s, rfl, Hs, x0⟩ := (HSS.out.later HBL.out).nd hlt2
        obtain ⟨v, hv⟩ : ∃ v, ps[j] = v := ⟨_, rfl⟩
        rw [hv] at y0 y1 y2 hfv
        obtain ⟨vm, vk, vn⟩ := v
        dsimp only at y0 y1 y2
        have hd : (ps.zip ss).drop j = (⟨vm, vk, vn⟩, s) :: (ps.zip ss).drop (j + 1) := by
          have hz : j < (ps.zip ss).length := by rw [List.length_zip]; omega
          rw [List.drop_eq_getElem_cons hz, List.getElem_zip, hv, Hs.out]
        have HD := Lib.hid (hd ▸ HEJ.out)
        have hj1 : (j : Int) < (ps.length : Int) := by omega
        obtain ⟨r, hr⟩ : ∃ r, S.cur.at s = r := ⟨_, rfl⟩
        have HF1 := Lib.hid (HFI.out s)
        have hr' : lastI S.cur.vs s S.cur.vs.length = r := hr
        rw [hr'] at HF1
        have Hr := Lib.hid hr
        clear hr hr' hv hd HEJ
        have z0 := fun o => cell_al x0 o
        go_wp2_with fail
        refine (HF1.out _ (bl_al HBL.out _)).mono ?_
        rintro e w2 ⟨rfl, bw2⟩
        have HB2 := Lib.hid (bl_tt (bl_al HBL.out (.cells #[.string vm, .int .u8 vk, .int .i64 vn] 24)) bw2)
        have HBR := Lib.hid (bl_tt (bl_al (Below.refl wr.heap.size wr) (.cells #[.string vm, .int .u8 vk, .int .i64 vn] 24)) bw2)
        have hvb := blk_bl (heap_alloc_new wr (.cells #[.string vm, .int .u8 vk, .int .i64 vn] 24)) bw2
        have q0 : w2.cell? ⟨wr.heap.size, 0, none⟩ = some (.string vm) := cell_of_blk hvb rfl
        have q1 : w2.cell? ⟨wr.heap.size, 1, none⟩ = some (.int .u8 vk) := cell_of_blk hvb rfl
        have q2 : w2.cell? ⟨wr.heap.size, 2, none⟩ = some (.int .i64 vn) := cell_of_blk hvb rfl
        clear bw2 hvb
        rcases r with _ | i
        · have HX := Lib.hid (show R = (6, S) by
            have h1 := HD.out
            rw [entL, Hr.out] at h1
            rw [HE.out, ← h1]; rfl)
          simp only [idxZ]
          go_wp2_with fail
          go_ret
          exact ⟨by rw [HX.out]; rfl, P, by rw [HX.out]; exact SStp.refl HS.out HB2.out, rfl⟩
        · have hil : i < S.cur.vs.length := FR.at_lt Hr.out
          have hic : i < S.cur.cs.length := by rw [HWF.out.len]; exact hil
          obtain ⟨a0, rfl, -, ⟨f0, f1, f2⟩, -⟩ := (HROW.out.later HB2.out) i hil
          obtain ⟨u, hu⟩ : ∃ u, S.cur.vs[i] = u := ⟨_, rfl⟩
          rw [hu] at f0 f1 f2
          obtain ⟨um, uk, un⟩ := u
          dsimp only at f0 f1 f2
          obtain ⟨id, hid⟩ : ∃ id, S.cur.cs[i] = id := ⟨_, rfl⟩
          have g3 := cell_bl HB2.out H3.out
          have g4 := cell_bl HB2.out H4.out
          obtain ⟨gc, c2, hcc, hc2, hm2, hcell⟩ := row_some (own_later HCS.out HB2.out) (by omega)
          have HGC := Lib.hid (show gc < W.heap.size from (HCS.out.lt gc (by rw [hcc]; rfl)).2)
          rw [hcc] at g4
          have hz : w2.cell? ⟨gc, i, none⟩ = some (.pointer (some ⟨P.cb id, 0, none⟩)) := by rw [hcell i (by omega)]; simp [ptrs, hic, hid]
          have HD2 := Lib.hid (show (if uk = vk ∧ un = vn then entL S.cur ⟨acc.vs ++ [⟨vm, vk, vn⟩], acc.cs ++ [id], 0⟩ ((ps.zip ss).drop (j + 1)) else .error 7) = E by
            have h1 := HD.out
            rw [entL, Hr.out] at h1
            simp only [List.getD_eq_getElem?_getD, List.getElem?_eq_getElem hil, List.getElem?_eq_getElem hic, Option.getD_some, hu, hid] at h1
            exact h1)
          have hi1 : (i : Int) < (S.cur.vs.length : Int) := by omega
          have hi2 : ¬ (i : Int) < 0 := by omega
          have hi3 : (i : Int) < (S.cur.cs.length : Int) := by omega
          simp only [idxZ]
          clear hcell hcc hu hid HD y0 y1 y2 x0 z0
          obtain ⟨nV, hnV⟩ : ∃ n, S.cur.vs.length = n := ⟨_, rfl⟩
          obtain ⟨nC, hnC⟩ : ∃ n, S.cur.cs.length = n := ⟨_, rfl⟩
          rw [hnV] at g3 hi1
          rw [hnC] at g4 hi3
          clear hnV hnC hil hic
          by_cases hk : uk = vk
          · subst hk
            by_cases hn : un = vn
            · subst hn
              have HE2 := Lib.hid (show entL S.cur ⟨acc.vs ++ [⟨vm, uk, un⟩], acc.cs ++ [id], 0⟩ ((ps.zip ss).drop (j + 1)) = E by have := HD2.out; simpa using this)
              clear HD2
              go_wp2_with fail
              go_quiet (fail)
              go_wp2_with fail
              obtain ⟨w3, hw3⟩ : ∃ w3, w2.drewN nq = w3 := ⟨_, rfl⟩
              have hb3 : Below w2.heap.size w2 w3 := hw3 ▸ drewN_below (Below.refl _ _) nq
              rw [hw3]
              have p0 := cell_bl hb3 q0
              have p1 := cell_bl hb3 q1
              have p2 := cell_bl hb3 q2
              have p4 := cell_bl hb3 g4
              have p5 := cell_bl hb3 hz
              have HB3 := Lib.hid (bl_tt HB2.out hb3)
              have HW3 := Lib.hid (HRW.out.later (bl_tt HBR.out hb3))
              clear q0 q1 q2 g3 g4 hz hw3 hb3 f0 f1 f2 nq
              have hSS : (fun w' : World => w'.cell? ⟨wr.heap.size, 0, none⟩ = some (.string vm) ∧ w'.cell? ⟨wr.heap.size, 1, none⟩ = some (.int .u8 uk) ∧ w'.cell? ⟨wr.heap.size, 2, none⟩ = some (.int .i64 un) ∧ w'.cell? ⟨B, O + 1, none⟩ = some (.slice (some ⟨gc, 0, none⟩) nC c2) ∧ w'.cell? ⟨gc, i, none⟩ = some (.pointer (some ⟨P.cb id, 0, none⟩))) w3.drew ∧ (fun _ : World => True) w3.drew := ⟨⟨p0, p1, p2, p4, p5⟩, trivial⟩
              refine wp_region_noPanic ?_
              refine wp_region_G (fun w' : World => w'.cell? ⟨wr.heap.size, 0, none⟩ = some (.string vm) ∧ w'.cell? ⟨wr.heap.size, 1, none⟩ = some (.int .u8 uk) ∧ w'.cell? ⟨wr.heap.size, 2, none⟩ = some (.int .i64 un) ∧ w'.cell? ⟨B, O + 1, none⟩ = some (.slice (some ⟨gc, 0, none⟩) nC c2) ∧ w'.cell? ⟨gc, i, none⟩ = some (.pointer (some ⟨P.cb id, 0, none⟩))) (fun _ : World => True) 8 (by kernel_rfl) ?_
              refine wpG_take1 (i := 0) (v := ?_) rfl (by kernel_rfl) (by kernel_rfl) (by kernel_rfl) (by decide) (fun _ _ _ h => h) (Or.inl ⟨by rfl, ?_⟩) hSS ?_
              rotate_left 1
              · (intro w hSw; (try dsimp only at hSw); (try simp only [List.getElem_toArray, List.getElem_cons_zero]); go_simp; (try with_reducible rfl))
              (try simp only [Act.put, List.getElem_toArray, List.getElem_cons_zero, List.setIfInBounds_toArray, List.set_cons_zero, List.set_cons_succ])
              refine wpG_take1 (i := 1) (v := ?_) rfl (by kernel_rfl) (by kernel_rfl) (by kernel_rfl) (by decide) (fun _ _ _ h => h) (Or.inl ⟨by rfl, ?_⟩) hSS ?_
              rotate_left 1
              · (intro w hSw; (try dsimp only at hSw); (try simp only [List.getElem_toArray, List.getElem_cons_succ, List.getElem_cons_zero]); go_simp; (try with_reducible rfl))
              (try simp only [Act.put, List.getElem_toArray, List.getElem_cons_succ, List.getElem_cons_zero, List.setIfInBounds_toArray, List.set_cons_zero, List.set_cons_succ])
              refine wpG_take1 (i := 2) (v := ?_) rfl (by kernel_rfl) (by kernel_rfl) (by kernel_rfl) (by decide) (fun _ _ _ h => h) (Or.inl ⟨by rfl, ?_⟩) hSS ?_
              rotate_left 1
              · (intro w hSw; (try dsimp only at hSw); (try simp only [List.getElem_toArray, List.getElem_cons_succ, List.getElem_cons_zero]); go_simp; (try with_reducible rfl))
              (try simp only [Act.put, List.getElem_toArray, List.getElem_cons_succ, List.getElem_cons_zero, List.setIfInBounds_toArray, List.set_cons_zero, List.set_cons_succ])
              refine wpG_take1 (i := 3) (v := ?_) rfl (by kernel_rfl) (by kernel_rfl) (by kernel_rfl) (by decide) (fun _ _ _ h => h) (Or.inl ⟨by rfl, ?_⟩) hSS ?_
              rotate_left 1
              · (intro w hSw; (try dsimp only at hSw); (try simp only [List.getElem_toArray, List.getElem_cons_succ, List.getElem_cons_zero]); go_simp; (try with_reducible rfl))
              (try simp only [Act.put, List.getElem_toArray, List.getElem_cons_succ, List.getElem_cons_zero, List.setIfInBounds_toArray, List.set_cons_zero, List.set_cons_succ])
              refine wpG_take1 (i := 4) (v := ?_) rfl (by kernel_rfl) (by kernel_rfl) (by kernel_rfl) (by decide) (fun _ _ _ h => h) (Or.inl ⟨by rfl, ?_⟩) hSS ?_
              rotate_left 1
              · (intro w hSw; (try dsimp only at hSw); (try simp only [List.getElem_toArray, List.getElem_cons_succ, List.getElem_cons_zero]); go_simp; (try with_reducible rfl))
              (try simp only [Act.put, List.getElem_toArray, List.getElem_cons_succ, List.getElem_cons_zero, List.setIfInBounds_toArray, List.set_cons_zero, List.set_cons_succ])
              refine wpG_take1 (i := 5) (v := ?_) rfl (by kernel_rfl) (by kernel_rfl) (by kernel_rfl) (by decide) (fun _ _ _ h => h) (Or.inl ⟨by rfl, ?_⟩) hSS ?_
              rotate_left 1
              · (intro w hSw; (try dsimp only at hSw); (try simp only [List.getElem_toArray, List.getElem_cons_succ, List.getElem_cons_zero]); go_simp; (try with_reducible rfl))
              (try simp only [Act.put, List.getElem_toArray, List.getElem_cons_succ, List.getElem_cons_zero, List.setIfInBounds_toArray, List.set_cons_zero, List.set_cons_succ])
              refine wpG_take1 (i := 6) (v := ?_) rfl (by kernel_rfl) (by kernel_rfl) (by kernel_rfl) (by decide) (fun _ _ _ h => h) (Or.inl ⟨by rfl, ?_⟩) hSS ?_
              rotate_left 1
              · (intro w hSw; (try dsimp only at hSw); (try simp only [List.getElem_toArray, List.getElem_cons_succ, List.getElem_cons_zero]); go_simp; (try with_reducible rfl))
              (try simp only [Act.put, List.getElem_toArray, List.getElem_cons_succ, List.getElem_cons_zero, List.setIfInBounds_toArray, List.set_cons_zero, List.set_cons_succ])
              refine wpG_take1 (i := 7) (v := ?_) rfl (by kernel_rfl) (by kernel_rfl) (by kernel_rfl) (by decide) (fun _ _ _ h => h) (Or.inl ⟨by rfl, ?_⟩) hSS ?_
              rotate_left 1
              · (intro w hSw; (try dsimp only at hSw); (try simp only [List.getElem_toArray, List.getElem_cons_succ, List.getElem_cons_zero]); go_simp; (try with_reducible rfl))
              (try simp only [Act.put, List.getElem_toArray, List.getElem_cons_succ, List.getElem_cons_zero, List.setIfInBounds_toArray, List.set_cons_zero, List.set_cons_succ])
              refine wpG_past (i := 8) (by kernel_rfl) rfl (by kernel_rfl) (fun K hK => ?_)
              have hne : ∀ b, OwnB (bldF P.cb W.heap.size vv vc acc) b → W.heap.size ≤ b ∧ b < wr.heap.size := fun b ⟨q, hq⟩ => HRW.out.lt q b hq
              have hBs : B < W.heap.size := World.block_lt_of_cell? W _ H3.out
              have hgs : gc < W.heap.size := HGC.out
              have had : Calls Try.prog 32 [.pointer (some ⟨W.heap.size, 0, none⟩), .agg #[.string vm, .int .u8 uk, .int .i64 un], .pointer (some ⟨P.cb id, 0, none⟩)].toArray w3.drew fun e W' => ∃ u, e = .returned u ∧ ∃ vv' vc', Rws W' W.heap.size (bldF P.cb W.heap.size vv' vc' ⟨acc.vs ++ [⟨vm, uk, un⟩], acc.cs ++ [id], acc.loc⟩) ∧ Chg (OwnB (bldF P.cb W.heap.size vv vc acc)) w3.drew W' :=
                (add_bld (HW3.out.later (Below.refl _ _).drew) (by rw [HAL.out]; omega) ⟨vm, uk, un⟩ id).mono fun e W' hh => hh.1.elim fun u hu => ⟨u, hu, hh.2⟩
              refine step_callL (by rfl) (.func 32) [.tmp 7, .tmp 60, .tmp 67] _ (by rfl) 32 _ fnAdd (by rfl) _ (by rfl) _ had ?_
              rintro v4 w4 ⟨vv', vc', hr4, hc4⟩
              have HR4 := Lib.hid hr4
              have HB4 := Lib.hid (HB3.out.drew.trans (hc4.below (B := W.heap.size) (by have := HB3.out.size; simp; omega) fun b hb => (hne b hb).1))
              have n1 : ¬ OwnB (bldF P.cb W.heap.size vv vc acc) wr.heap.size := fun hb => by have := hne _ hb; omega
              have n2 : ¬ OwnB (bldF P.cb W.heap.size vv vc acc) B := fun hb => by have := hne _ hb; omega
              have n3 : ¬ OwnB (bldF P.cb W.heap.size vv vc acc) gc := fun hb => by have := hne _ hb; omega
              refine hK.out _ _ ⟨chg_cell hc4 p0 n1, chg_cell hc4 p1 n1, chg_cell hc4 p2 n1, chg_cell hc4 p4 n2, chg_cell hc4 p5 n3⟩ ?_
              clear hK K hSS hr4 hc4 had
              (try simp only [Act.put, List.getElem_toArray, List.getElem_cons_succ, List.getElem_cons_zero, List.setIfInBounds_toArray, List.set_cons_zero, List.set_cons_succ])
              refine wpG_done (by kernel_rfl) ?_
              refine NoPanic.normal ?_
              clear p0 p1 p2 p4 p5
              go_wp2_with fail
              go_roundw
              case rel => exact ⟨j + 1, by omega, by go_num, HB4, vv', vc', _, HR4, Lib.hid (by simp [HAL.out]), HA0, by have h0 := HA0.out; rw [h0] at HR4 ⊢; exact HE2⟩
              case measure => simp [intOf]; omega
            · have HX := Lib.hid (show R = (7, S) by
                have h1 := HD2.out
                rw [if_neg (by simp [hn])] at h1
                rw [HE.out, ← h1]; rfl)
              have n1 : (un != vn) = true := by simpa using hn
              clear HD2
              go_wp2_with fail
              go_quiet (fail)
              go_wp2_with fail
              go_ret
              exact ⟨by rw [HX.out]; rfl, P, by rw [HX.out]; exact SStp.refl HS.out (drewN_below HB2.out nq), rfl⟩
          · have HX := Lib.hid (show R = (7, S) by
              have h1 := HD2.out
              rw [if_neg (by simp [hk])] at h1
              rw [HE.out, ← h1]; rfl)
            have n1 : (uk != vk) = true := by simpa using hk
            clear HD2
            go_wp2_with fail
            go_quiet (fail)
            go_wp2_with fail
            go_ret
            exact ⟨by rw [HX.out]; rfl, P, by rw [HX.out]; exact SStp.refl HS.out (drewN_below HB2.out nq), rfl⟩
      · obtain rfl : j = ps.length := by omega
        have HEA := Lib.hid (show E = .ok acc by
          have h1 := HEJ.out
          rw [List.drop_eq_nil_of_le (by rw [List.length_zip]; omega)] at h1
          rw [← h1]; rfl)
        have HS1 := Lib.hid (HS.out.later HBL.out)
        obtain ⟨AF, cF, hvF, hcF, -⟩ := HS1.out.calls
        have x3 : wr.cell? ⟨P.sb, 3, none⟩ = some (.slice AF S.calls.length cF) := by rw [← hvF]; exact cell_of_blk HS1.out.box rfl
        have HVF := Lib.hid hvF
        obtain ⟨L, hL⟩ : ∃ L, S.calls.length = L := ⟨_, rfl⟩
        rw [hL] at x3 hn0
        have HLL := Lib.hid hL
        have hj2 : ¬ (ps.length : Int) < (ps.length : Int) := by omega
        clear hvF hL hcF HEJ
        by_cases h100 : 100 ≤ L
        · have HX := Lib.hid (show R = (19, S) by rw [HE.out, HEA.out, entR, if_pos (by rw [HLL.out]; exact h100)])
          obtain rfl : L = 100 := by omega
          go_wp2_with fail
          go_ret
          exact ⟨by rw [HX.out]; rfl, P, by rw [HX.out]; exact SStp.refl HS.out HBL.out, rfl⟩
        · have HX := Lib.hid (show R = (0, { S with calls := S.calls ++ [acc] }) by rw [HE.out, HEA.out, entR, if_neg (by rw [HLL.out]; exact h100)])
          obtain ⟨hwf, hg0, hgl⟩ := WF_enter HS.out.wf ps ss acc (fun v hv => by
            obtain ⟨q, hq, rfl⟩ := List.mem_iff_getElem.1 hv
            obtain ⟨_, _, _, _, hfq⟩ := HP.out q hq
            exact hfq) hlp (HE0.out.trans HEA.out) (by rw [HLL.out]; omega)
          have HW := Lib.hid hwf
          have HGL := Lib.hid hgl
          obtain ⟨A1, c1, hvv, -, -⟩ := row_slice (HRW.out.row 1)
          obtain ⟨A2, c2, hvc, -, -⟩ := row_slice (HRW.out.row 2)
          change vv = .slice A1 acc.vs.length c1 at hvv
          change vc = .slice A2 acc.vs.length c2 at hvc
          obtain ⟨nv, hnv⟩ : ∃ n, acc.vs.length = n := ⟨_, rfl⟩
          rw [hnv] at hvv hvc
          subst hvv hvc
          have b0 : wr.cell? ⟨W.heap.size, 0, none⟩ = some (.slice A1 nv c1) := HRW.out.cell 0 rfl rfl
          have b1 : wr.cell? ⟨W.heap.size, 1, none⟩ = some (.slice A2 nv c2) := HRW.out.cell 0 rfl rfl
          have b2 : wr.cell? ⟨W.heap.size, 2, none⟩ = some (.int .i64 0) := by
            have := HRW.out.cell 0 (g := W.heap.size) (o := 2) (u := .int .i64 acc.loc) rfl rfl
            rw [hg0] at this
            exact this
          have hsbl : P.sb < W.heap.size := (HS.out.rws.lt .sb P.sb rfl).2
          have hn00 : n0 ≤ W.heap.size := by have := HS.out.rws.lt .sb P.sb rfl; omega
          have hL1 : ¬ (100 : Int) ≤ (L : Int) := by omega
          have HFIN := Lib.hid (fun W2 w3 hb2 v' h2 h3 h5 => enter_fin (W2 := W2) (w3 := w3) HS.out HBL.out W.heap.size _ _ acc HRW.out hg0 hgl hwf hb2 v' h2 h3 h5)
          obtain ⟨i1, hi1, hz0, hz1, hz2⟩ := info_parts frInfo
          have hbs := buildSF1
          clear hwf hgl hnv
          go_upto_region 19 with fail
          have hSS : (fun w' : World => w'.cell? ⟨W.heap.size, 0, none⟩ = some (.slice A1 nv c1) ∧ w'.cell? ⟨W.heap.size, 1, none⟩ = some (.slice A2 nv c2) ∧ w'.cell? ⟨W.heap.size, 2, none⟩ = some (.int .i64 0)) wr.drew ∧ (fun w' : World => w'.cell? ⟨P.sb, 3, none⟩ = some (.slice AF L cF)) wr.drew := ⟨⟨b0, b1, b2⟩, x3⟩
          refine wp_region_noPanic ?_
          refine wp_region_G (fun w' : World => w'.cell? ⟨W.heap.size, 0, none⟩ = some (.slice A1 nv c1) ∧ w'.cell? ⟨W.heap.size, 1, none⟩ = some (.slice A2 nv c2) ∧ w'.cell? ⟨W.heap.size, 2, none⟩ = some (.int .i64 0)) (fun w' : World => w'.cell? ⟨P.sb, 3, none⟩ = some (.slice AF L cF)) 7 (by kernel_rfl) ?_
          refine wpG_take1 (i := 0) (v := ?_) rfl (by kernel_rfl) (by kernel_rfl) (by kernel_rfl) (by decide) (fun _ _ _ h => h) (Or.inl ⟨by rfl, ?_⟩) hSS ?_
          rotate_left 1
          · (intro w hSw; (try dsimp only at hSw); (try simp only [List.getElem_toArray, List.getElem_cons_zero]); go_simp; (try with_reducible rfl))
          (try simp only [Act.put, List.getElem_toArray, List.getElem_cons_zero, List.setIfInBounds_toArray, List.set_cons_zero, List.set_cons_succ])
          refine wpG_take1 (i := 1) (v := ?_) rfl (by kernel_rfl) (by kernel_rfl) (by kernel_rfl) (by decide) (fun _ _ _ h => h) (Or.inl ⟨by rfl, ?_⟩) hSS ?_
          rotate_left 1
          · (intro w hSw; (try dsimp only at hSw); (try simp only [List.getElem_toArray, List.getElem_cons_succ, List.getElem_cons_zero]); go_simp; (try with_reducible rfl))
          (try simp only [Act.put, List.getElem_toArray, List.getElem_cons_succ, List.getElem_cons_zero, List.setIfInBounds_toArray, List.set_cons_zero, List.set_cons_succ])
          refine wpG_take1 (i := 2) (v := ?_) rfl (by kernel_rfl) (by kernel_rfl) (by kernel_rfl) (by decide) (fun _ _ _ h => h) (Or.inl ⟨by rfl, ?_⟩) hSS ?_
          rotate_left 1
          · (intro w hSw; (try dsimp only at hSw); (try simp only [List.getElem_toArray, List.getElem_cons_succ, List.getElem_cons_zero]); go_simp; (try with_reducible rfl))
          (try simp only [Act.put, List.getElem_toArray, List.getElem_cons_succ, List.getElem_cons_zero, List.setIfInBounds_toArray, List.set_cons_zero, List.set_cons_succ])
          refine wpG_take1 (i := 3) (v := ?_) rfl (by kernel_rfl) (by kernel_rfl) (by kernel_rfl) (by decide) (fun _ _ _ h => h) (Or.inl ⟨by rfl, ?_⟩) hSS ?_
          rotate_left 1
          · (intro w hSw; (try dsimp only at hSw); (try simp only [List.getElem_toArray, List.getElem_cons_succ, List.getElem_cons_zero]); go_simp; (try with_reducible rfl))
          (try simp only [Act.put, List.getElem_toArray, List.getElem_cons_succ, List.getElem_cons_zero, List.setIfInBounds_toArray, List.set_cons_zero, List.set_cons_succ])
          refine wpG_take2 (i := 4) (v := ?_) rfl (by kernel_rfl) (by kernel_rfl) (by kernel_rfl) (by decide) rfl (by kernel_rfl) (by kernel_rfl) (fun _ _ _ h => h) (Or.inl ⟨by rfl, ?_⟩) hSS ?_
          rotate_left 1
          · (intro w hSw; (try dsimp only at hSw); (try simp only [List.getElem_toArray, List.getElem_cons_succ, List.getElem_cons_zero]); go_simp; (try with_reducible rfl))
          (try simp only [Act.put, List.getElem_toArray, List.getElem_cons_succ, List.getElem_cons_zero, List.setIfInBounds_toArray, List.set_cons_zero, List.set_cons_succ])
          refine wpG_take1 (i := 5) (v := ?_) rfl (by kernel_rfl) (by kernel_rfl) (by kernel_rfl) (by decide) (fun _ _ _ h => h) (Or.inl ⟨by rfl, ?_⟩) hSS ?_
          rotate_left 1
          · (intro w hSw; (try dsimp only at hSw); (try simp only [List.getElem_toArray, List.getElem_cons_succ, List.getElem_cons_zero]); go_simp; (try with_reducible rfl))
          (try simp only [Act.put, List.getElem_toArray, List.getElem_cons_succ, List.getElem_cons_zero, List.setIfInBounds_toArray, List.set_cons_zero, List.set_cons_succ])
          refine wpG_one (i := 6) (by kernel_rfl) rfl (fun K hK => ?_)
          (try simp only [List.getElem_toArray, List.getElem_cons_succ, List.getElem_cons_zero])
          go_simp
          refine hK.out _ _ ⟨⟨cell_al b0 _, cell_al b1 _, cell_al b2 _⟩, cell_al x3 _⟩ ?_
          clear hK K hSS
          (try simp only [Act.put, List.getElem_toArray, List.getElem_cons_succ, List.getElem_cons_zero, List.setIfInBounds_toArray, List.set_cons_zero, List.set_cons_succ])
          obtain ⟨W2, hW2⟩ : ∃ W2, (wr.alloc (.cells #[.slice A1 nv c1, .slice A2 nv c2, .int .i64 0] 74)).drew = W2 := ⟨_, rfl⟩
          have hb2 : Below wr.heap.size wr W2 := hW2 ▸ (bl_al (Below.refl _ _) _).drew
          have HN2 := Lib.hid (show ∀ j u, [Value.slice A1 nv c1, .slice A2 nv c2, .int .i64 0][j]? = some u → W2.cell? ((⟨wr.heap.size, 0, none⟩ : Addr).add j) = some u from hW2 ▸ news_newN wr 74 [.slice A1 nv c1, .slice A2 nv c2, .int .i64 0])
          have hrF : W2.ownsRow n0 74 3 (.slice AF L cF) L (flatF P 0 S.calls) := by
            have := own_later (HS1.out.rws.row .calls) hb2
            have e1 : (rows P S .calls).v = .slice AF L cF := by show P.vF = _; rw [HVF.out, HLL.out]
            rw [e1] at this
            rw [← HLL.out] at this ⊢
            exact this
          have hs2 := hb2.size
          have hsr := HBL.out.size
          have d0 := cell_bl hb2 b0
          have d1 := cell_bl hb2 b1
          have d2 := cell_bl hb2 b2
          have HF2 := Lib.hid (fun w3 v' => HFIN.out W2 w3 hb2 v')
          have hvFo : P.vF = .slice AF L cF := by rw [HVF.out, HLL.out]
          have HBX := Lib.hid (show ∀ b, (Value.slice AF L cF).ownBlock = some b → b ≠ W.heap.size from fun b hb e => by
            have := (HS.out.rws.lt .calls b (by show P.vF.ownBlock = _; rw [hvFo]; exact hb)).2
            omega)
          rw [HLL.out, hvFo] at HF2
          rw [hW2]
          clear hW2 b0 b1 b2 x3 hb2 HFIN hvFo
          refine wpG_past (i := 7) (by kernel_rfl) rfl (by kernel_rfl) (fun K hK => ?_)
          refine step_append_own (by rfl) (.tmp 80) (.tmp 82) 75 (by rfl) n0 74 i1 _ 3 56 Try.underlying75 hi1 hz0 hz1 hz2 rfl (by decide) (.slice AF L cF) L (flatF P 0 S.calls) (by rfl) hrF ⟨wr.heap.size, 0, none⟩ 1 1 [.slice A1 nv c1, .slice A2 nv c2, .int .i64 0] (by rfl) rfl HN2.out (by intro u hu; simp at hu; rcases hu with rfl | rfl | rfl <;> rfl) (by unfold maxLen; omega) (by omega) (by omega) ?_
          intro v' w3 h2 h3 h5
          obtain ⟨g8, cap8, rfl⟩ := ownsRow_succ h2
          obtain ⟨z0, zf, hfin⟩ := HF2.out w3 _ h2 h3 h5
          have keyc : ∀ i u, W2.cell? ⟨W.heap.size, i, none⟩ = some u → w3.cell? ⟨W.heap.size, i, none⟩ = some u := fun i u hu => (World.cell?_of_block (a := ⟨W.heap.size, i, none⟩) (h3.block _ (World.block_lt_of_cell? W2 _ hu) (fun e => HBX.out _ e.symm rfl))).trans hu
          have HY := Lib.hid (show (fun w' : World => w'.cell? ⟨W.heap.size, 0, none⟩ = some (.slice A1 nv c1) ∧ w'.cell? ⟨W.heap.size, 1, none⟩ = some (.slice A2 nv c2) ∧ w'.cell? ⟨W.heap.size, 2, none⟩ = some (.int .i64 0)) w3 from ⟨keyc _ _ d0, keyc _ _ d1, keyc _ _ d2⟩)
          have HY2 := Lib.hid (show (fun w' : World => w'.cell? ⟨W.heap.size, 0, none⟩ = some (.slice A1 nv c1) ∧ w'.cell? ⟨W.heap.size, 1, none⟩ = some (.slice A2 nv c2) ∧ w'.cell? ⟨W.heap.size, 2, none⟩ = some (.int .i64 0)) (w3.setCell ⟨P.sb, 3, none⟩ (.slice (some ⟨g8, 0, none⟩) (L + 1) cap8)) from by
            have key : ∀ i u, w3.cell? ⟨W.heap.size, i, none⟩ = some u → (w3.setCell ⟨P.sb, 3, none⟩ (.slice (some ⟨g8, 0, none⟩) (L + 1) cap8)).cell? ⟨W.heap.size, i, none⟩ = some u := fun i u hu => (World.cell?_of_block (a := ⟨W.heap.size, i, none⟩) (Below.heap_setCell _ _ _ _ (show P.sb ≠ W.heap.size by omega).symm)).trans hu
            exact ⟨key _ _ (keyc _ _ d0), key _ _ (keyc _ _ d1), key _ _ (keyc _ _ d2)⟩)
          have HFN := Lib.hid hfin
          refine hK.out _ _ HY.out ?_
          clear hK K h2 h3 h5 hfin d0 d1 d2 hrF HN2 HF2 keyc
          (try simp only [Act.put, List.getElem_toArray, List.getElem_cons_succ, List.getElem_cons_zero, List.setIfInBounds_toArray, List.set_cons_zero, List.set_cons_succ])
          refine wpG_past (i := 8) (by kernel_rfl) rfl (by kernel_rfl) (fun K hK => ?_)
          (try simp only [List.getElem_toArray, List.getElem_cons_succ, List.getElem_cons_zero])
          go_simp
          refine hK.out _ _ HY.out ?_
          clear hK K
          (try simp only [Act.put, List.getElem_toArray, List.getElem_cons_succ, List.getElem_cons_zero, List.setIfInBounds_toArray, List.set_cons_zero, List.set_cons_succ])
          refine wpG_past (i := 9) (by kernel_rfl) rfl (by kernel_rfl) (fun K hK => ?_)
          (try simp only [List.getElem_toArray, List.getElem_cons_succ, List.getElem_cons_zero])
          go_simp
          refine hK.out _ _ HY.out ?_
          clear hK K
          (try simp only [Act.put, List.getElem_toArray, List.getElem_cons_succ, List.getElem_cons_zero, List.setIfInBounds_toArray, List.set_cons_zero, List.set_cons_succ])
          refine wpG_past (i := 10) (by kernel_rfl) rfl (by kernel_rfl) (fun K hK => ?_)
          (try simp only [List.getElem_toArray, List.getElem_cons_succ, List.getElem_cons_zero])
          go_simp
          refine hK.out _ _ HY2.out ?_
          clear hK K
          (try simp only [Act.put, List.getElem_toArray, List.getElem_cons_succ, List.getElem_cons_zero, List.setIfInBounds_toArray, List.set_cons_zero, List.set_cons_succ])
          refine wpG_done (by kernel_rfl) ?_
          refine NoPanic.normal ?_
          clear HY HY2 z0 zf
          go_wp2_with fail
          go_ret
          refine ⟨by rw [HX.out]; rfl, P.enter L (.slice (some ⟨g8, 0, none⟩) (L + 1) cap8) (.slice A1 nv c1) (.slice A2 nv c2), ?_, rfl⟩
          rw [HX.out]
          exact HFN.out
  · have HX := Lib.hid (show R = (7, S) by rw [← HRR.out, enterE, if_pos (by simpa using hlen)])
    have e1 : ((ps.length : Int) == (ss.length : Int)) = false := by simp; omega
    have e2 : ((ps.length : Int) != (ss.length : Int)) = true := by simp; omega
    go_enter Try.func17, Try.ntmps17
    go_wp2_with fail
    go_ret
    exact ⟨by rw [HX.out]; rfl, P, by rw [HX.out]; exact SStp.refl HS.out (Below.refl _ _), rfl⟩

end Go.Proofs.Ytekjfbnggfbfhaa
