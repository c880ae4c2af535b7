/-
  Texts of the proof, put together without their remarks: Nz, Ib, Fw, If, Lfp, Tof, Taw, Ltf, Lift, LiftV, LiftS, LiftC, LiftP.
-/
import Derived.Test.YtckhofdinldhpaaGreatT11
import Derived.Test.YtckhofdinldhpaaGreatRows
import Derived.ProofKit
import Derived.SizedLaws
import Derived.Deep.Slices
import Derived.Deep.Fields
import Derived.Lib.SmallJoins
import Derived.ChangeSlices
set_option linter.unusedSimpArgs false
set_option linter.unusedVariables false
set_option maxHeartbeats 8000000
set_option maxRecDepth 100000
namespace Go.Proofs.YtckhofdinldhpaaGreat
open Go Go.RowKit
def Nz (o:Out):Prop:=o ≠ .err 0
theorem Nz.bind {o:Out} {f:RS->Out} (h:Nz o) (hf:∀ r,Nz (f r)):Nz (o.bind f):=by
 cases o with
 | gas=>exact fun e=>by cases e
 | err x=>exact h
 | ok r=>exact hf r
theorem Nz.ok (r:RS):Nz (.ok r):=fun e=>by cases e
theorem Nz.gas:Nz .gas:=fun e=>by cases e
theorem Nz.step (F:Int) (r:RS):Nz (stepO F r):=by
 unfold stepO
 split
 ·intro e; injection e with e; omega
 ·exact Nz.ok _
theorem Nz.store (r:RS) (R:Int×ST):Nz (storeO r R):=by
 unfold storeO
 split
 ·rename_i h; intro e; injection e with e; exact h e
 ·exact Nz.ok _
theorem Nz.val {t:T} {r:RS} {f:Int->RS->Out} (hf:∀ x,Nz (f x r)):Nz (valO t r f):=by
 unfold valO
 split
 ·rename_i h; intro e; injection e with e; exact h e
 ·exact hf _
theorem Nz.holds {F:Int} {t:T} {r:RS} {f:Bool->RS->Out} (hf:∀ b r,Nz (f b r)):Nz (holdsO F t r f):=(Nz.step F r).bind fun r=>Nz.val fun x=>hf _ _
theorem Nz.assert (F:Int) (t:T) (b:Bool) (r:RS):Nz (assertO F t b r):=Nz.holds fun b' r=>by
 split
 ·exact Nz.ok _
 ·intro e; injection e with e; omega
theorem Nz.body {f:T->RS->Out}:∀ (l:List T) (r:RS),(∀ t∈l,∀ r,Nz (f t r))->Nz (bodyO f l r)
 | [],r,_=>Nz.ok r
 | t::ts,r,h=>(h t (List.mem_cons_self ..) r).bind fun r=>Nz.body ts r fun u hu=>h u (List.mem_cons_of_mem _ hu)
theorem Nz.loop {F:Int} {f:T->RS->Out} {entry test:T} {l1 l2:List T} (h1:∀ t∈l1,∀ r,Nz (f t r)) (h2:∀ t∈l2,∀ r,Nz (f t r)):∀ (m:Nat) (r:RS),Nz (loopO F f entry test l1 l2 m r)
 | 0,_=>Nz.gas
 | m+1,r=>by
  rw [loopO]
  refine (Nz.body l1 r h1).bind fun r=>Nz.holds fun b r=>?_
  split
  ·exact Nz.ok _
  ·exact (Nz.body l2 r h2).bind fun r=>(Nz.assert F entry false r).bind fun r=>Nz.loop h1 h2 m r
theorem execO_nz {G:List PR->T->Prop} (hG:GC G) {prs:List PR} {F:Int}:∀ (g:Nat) (back:Bool) (t:T) (r:RS),G prs t->Nz (execO prs F g back t r)
 | 0,_,_,_,_=>Nz.gas
 | g+1,back,t,r,h=>by
  have hb:∀ back (b:T) r,(∀ u∈b.ks,G prs u)->Nz (bodyO (execO prs F g back) (blkL back b) r):=fun back b r hu=>Nz.body _ r fun u hm r=>execO_nz hG g back u r (hu u (blkL_mem hm))
  rw [execO]
  split
  ·rename_i hk
   obtain ⟨-,h1,h2⟩:=hG.two _ _ h (.inl hk)
   refine Nz.holds fun yes r=>Nz.bind ?_ fun r=>Nz.assert _ _ _ _
   split
   ·exact hb _ _ _ h1
   ·exact hb _ _ _ h2
  ·split
   ·rename_i hk
    obtain ⟨-,h1,h2⟩:=hG.two _ _ h (.inr hk)
    exact (Nz.assert _ _ _ _).bind fun r=>Nz.loop (fun u hm r=>execO_nz hG g back u r (h1 u (blkL_mem hm))) (fun u hm r=>execO_nz hG g back u r (h2 u (blkL_mem hm))) g r
   ·split
    ·rename_i hk
     obtain ⟨-,h1⟩:=hG.loc _ _ h hk
     exact (Nz.step _ _).bind fun r=>Nz.val fun x=>(Nz.store _ _).bind fun r=>(hb _ _ _ h1).bind fun r=>(Nz.step _ _).bind fun r=>Nz.val fun x=>Nz.store _ _
    ·split
     ·rename_i hk
      obtain ⟨-,h1⟩:=hG.stk _ _ h hk
      exact (Nz.step _ _).bind fun r=>(Nz.store _ _).bind fun r=>(hb _ _ _ h1).bind fun r=>(Nz.step _ _).bind fun r=>Nz.store _ _
     ·split
      ·rename_i hk
       obtain ⟨i,q,hi,hq,h1⟩:=hG.cal _ _ h hk
       rw [hi]
       dsimp only
       rw [getD_some hq]
       exact (Nz.step _ _).bind fun r=>(Nz.store _ _).bind fun r=>(hb _ _ _ h1).bind fun r=>(Nz.step _ _).bind fun r=>Nz.store _ _
      ·exact (Nz.step _ _).bind fun r=>Nz.store _ _
theorem runO_nz {G:List PR->T->Prop} (hG:GC G) {prs:List PR} {F:Int} {g:Nat} {back:Bool} {b:T} {r:RS} (h:∀ u∈b.ks,G prs u):Nz (runO prs F g back b r):=Nz.body _ r fun u hm r=>execO_nz hG g back u r (h u (blkL_mem hm))
theorem RI.chgK {C:RC} {lo hi:Nat} {W W':World} {r:RS} (hC:(C.plus lo hi).Ok) (h:RI (C.plus lo hi) W r) (hc:Chg (fun b=>lo<=b/\b<hi) W W') (hlo:C.w.heap.size<=lo):RI (C.plus lo hi) W' r:=by
 have hkb:∀ b,lo<=b/\b<hi->(C.plus lo hi).kb b:=fun b hb=>.inr hb
 refine ⟨h.ks.chg hc fun b _ hb=>⟨Nat.le_trans hlo hb.1,.inr (.inl (hkb b hb))⟩,hc.keep h.box fun hb=>hC.rb.2 (hkb _ hb),own_chg h.ent fun b hb=>?_,h.el,h.en,h.n,h.fb⟩
 exact hc.block b (h.ent.lt b hb).2 fun hb'=>hC.ev.2 b hb (hkb _ hb')
theorem start1_any {C:RC} (hC:C.Ok) {W:World} {r:RS} (h:RI C W r) (hG:∀ u∈C.p.m.ks,GP C.p.prs u) (g:Nat) (back:Bool) (hg:runO C.p.prs C.F g back C.p.m r ≠ .gas) (pb qb bb:Nat)
  (h0:W.cell? ⟨pb,0,none⟩=some (.pointer (some ⟨C.rb,0,none⟩))) (hq:W.heap[qb]?=some (.cells #[.slice C.A1 C.p.vs.length C.c1,.slice C.A2 C.p.prs.length C.c2,.int .u8 C.p.m.k,.int .i64 C.p.m.n,.string C.p.m.s,.slice C.A3 C.p.m.ks.length C.c3] 35 (0,0))) (hb:W.cell? ⟨bb,0,none⟩=some (.bool back)) :
  Calls Tryz.prog 117 #[.pointer (some ⟨pb,0,none⟩),.pointer (some ⟨qb,0,none⟩),.pointer (some ⟨bb,0,none⟩)] W (RunP C W (runO C.p.prs C.F g back C.p.m r)):=by
 have HBK:=zh (block_all GP_GC g hC h C.p.m _ back hC.pg.main hG hg)
 have q2:W.cell? ⟨qb,2,none⟩=some (.int .u8 C.p.m.k):=zc hq rfl
 have q3:W.cell? ⟨qb,3,none⟩=some (.int .i64 C.p.m.n):=zc hq rfl
 have q4:W.cell? ⟨qb,4,none⟩=some (.string C.p.m.s):=zc hq rfl
 have q5:W.cell? ⟨qb,5,none⟩=some (.slice C.A3 C.p.m.ks.length C.c3):=zc hq rfl
 obtain ⟨o,ho⟩:∃ o,runO C.p.prs C.F g back C.p.m r=o:=⟨_,rfl⟩
 rw [ho] at HBK hg ⊢
 clear hC h hG hq ho
 go_enter Tryz.func117,Tryz.ntmps117
 go_wp2_with fail
 refine HBK.out.mono ?_
 rintro e w1 ⟨hk1,hb1,ho1⟩
 cases o with
 | gas=>exact absurd rfl hg
 | err x =>
  subst ho1
  exact ⟨rfl,hk1,hb1,rfl⟩
 | ok r1 =>
  obtain ⟨⟨u,rfl⟩,hr1⟩:=ho1
  have HR:=zh hr1
  have HK1:=zh hk1
  have HB1:=zh hb1
  clear h0 q2 q3 q4 q5 hb hr1 hk1 hb1
  go_wp2_with fail
  go_end0
  exact ⟨HK1.out,HB1.out,⟨_,rfl⟩,HR.out⟩
def outR (s:SS):Out->SS×Nat×Int×List Nat
 | .ok r=>(r.S.state,r.n,0,r.ent)
 | .err e=>(s,0,e,[])
 | .gas=>(s,0,0,[])
def resO (p:PG) (s:SS) (F:Int) (g:Nat) (back:Bool):SS×Nat×Int×List Nat :=
 if validB p=false\/chkN p≠0 then (s,0,3,[]) else if fitB p.vs s=false then (s,0,20,[]) else outR s (runO p.prs F g back p.m ⟨newS p.vs s,0,List.replicate p.prs.length 0⟩)
def LimR (R:SS×Nat×Int×List Nat):Prop:=R.1.Lim/\(R.2.2.1=0->R.1.cells.length<=1000+R.2.1/\(∀ l∈R.1.cells,l.length<=1000)/\R.1.tin.length<=4096/\R.1.tout.length<=4096)
theorem LimR.run {r:RS} (h:r.S.WF) (hf:FB r.n r.S) (e:List Nat):LimR (r.S.state,r.n,0,e):=by
 obtain ⟨-,h1,h2⟩:=state_I h
 obtain ⟨kd,hb,-⟩:=h.ex
 refine ⟨h1,fun _=>⟨?_,h2,h.tin.1,h.tout.1⟩⟩
 have:=hb.len
 have:=hf.1
 simp only [ST.state,List.length_map,List.length_take]
 omega
def ResP (W:World) (R:SS×Nat×Int×List Nat) (e:Ending) (W':World):Prop:=∃ A c v1 v2 v3,e=.returned (.tuple #[.slice A R.2.2.2.length c,.agg #[v1,v2,v3,.int .i64 (R.2.1:Int),.int .i64 R.2.2.1]]) /\
 OwnS W' W.heap.size R.1 (.agg #[v1,v2,v3])/\RowI W' (fun b=>W.heap.size<=b) A (R.2.2.2.map Int.ofNat)/\R.2.2.2.length<=c/\Below W.heap.size W W'/\LimR R
theorem OwnS.slices {W:World} {n0:Nat} {s:SS} {v:Value} (h:OwnS W n0 s v):∃ A c B d D e,v=.agg #[.slice A s.cells.length c,.slice B s.tin.length d,.slice D s.tout.length e]:=by
 obtain ⟨vc,vi,vo,fc,rfl,hr,-⟩:=h
 obtain ⟨A,c,e1,-⟩:=row_slice (hr.row .all)
 obtain ⟨B,d,e2,-⟩:=row_slice (hr.row .inp)
 obtain ⟨D,e,e3,-⟩:=row_slice (hr.row .out)
 change vc=.slice A s.cells.length c at e1
 change vi=.slice B s.tin.length d at e2
 change vo=.slice D s.tout.length e at e3
 exact ⟨A,c,B,d,D,e,by rw [e1,e2,e3]⟩
theorem OwnS.chg {W W':World} {n0:Nat} {s:SS} {v:Value} {Cc:Nat->Prop} (h:OwnS W n0 s v) (hc:Chg Cc W W') (hC:∀ b,Cc b->b<n0):OwnS W' n0 s v:=by
 obtain ⟨vc,vi,vo,fc,rfl,hr,hi⟩:=h
 exact ⟨vc,vi,vo,fc,rfl,hr.chg hc fun i b hb hcb=>by have:=(hr.lt i b hb).1; have:=hC b hcb; omega,hi⟩
theorem OwnS.lower {W:World} {n0 n1:Nat} {s:SS} {v:Value} (h:OwnS W n1 s v) (hn:n0<=n1):OwnS W n0 s v:=by
 obtain ⟨vc,vi,vo,fc,rfl,hr,hi⟩:=h
 exact ⟨vc,vi,vo,fc,rfl,hr.mono hn,hi⟩
theorem set5 {W:World} {b:Nat} {x0 x1 x2 x3 x4 u0 u1 u2 u3 u4:Value} {E:TypeId} (h:W.heap[b]?=some (.cells #[x0,x1,x2,x3,x4] E (0,0))) :
  (((((W.setCell ⟨b,0,none⟩ u0).setCell ⟨b,1,none⟩ u1).setCell ⟨b,2,none⟩ u2).setCell ⟨b,3,none⟩ u3).setCell ⟨b,4,none⟩ u4).heap[b]?=some (.cells #[u0,u1,u2,u3,u4] E (0,0)) /\
   Chg (fun q=>q=b) W (((((W.setCell ⟨b,0,none⟩ u0).setCell ⟨b,1,none⟩ u1).setCell ⟨b,2,none⟩ u2).setCell ⟨b,3,none⟩ u3).setCell ⟨b,4,none⟩ u4):=by
 refine ⟨?_,(((((Chg.refl (fun q=>q=b) W).setCell (p:=⟨b,0,none⟩) (.inl rfl) _).setCell (p:=⟨b,1,none⟩) (.inl rfl) _).setCell (p:=⟨b,2,none⟩) (.inl rfl) _).setCell (p:=⟨b,3,none⟩) (.inl rfl) _).setCell (p:=⟨b,4,none⟩) (.inl rfl) _⟩
 rw [heap_setCell_same _ b 4 _ _ u4 (heap_setCell_same _ b 3 _ _ u3 (heap_setCell_same _ b 2 _ _ u2 (heap_setCell_same _ b 1 _ _ u1 (heap_setCell_same W b 0 _ _ u0 h))))]
 simp
theorem bRes (A B D:Option Addr) (l c m d n e:Nat) (x:Int) (w:World):(Instr.build 50 #[(0,.agg #[.slice A l c,.slice B m d,.slice D n e]),(2,.int .i64 x)]).run Tryz.prog w=.ok (.agg #[.slice A l c,.slice B m d,.slice D n e,.int .i64 0,.int .i64 x]) w:=by kernel_rfl
theorem bRes1 (A B D:Option Addr) (l c m d n e:Nat) (x:Int) (w:World):(Instr.build 50 #[(0,.agg #[.slice A l c,.slice B m d,.slice D n e]),(1,.int .i64 x)]).run Tryz.prog w=.ok (.agg #[.slice A l c,.slice B m d,.slice D n e,.int .i64 x,.int .i64 0]) w:=by kernel_rfl
theorem made_intI (n:Nat):madeCells (Value.int .i64 0).cells (n*1)=(flatI (List.replicate n 0)).toArray:=by
 apply Array.ext'
 apply List.ext_getElem
 ·rw [Array.length_toList,size_madeCells]; simp [flatI]
 ·intro i h1 h2
  have e:i % 1=0:=by omega
  simp [madeCells,flatI,Value.cells,e]
theorem bMkI (n:Nat) (hn:n<=4096) (w:World):(Instr.makeSlice 24 (.int .i64 (n:Int)) (.int .i64 (n:Int))).run Tryz.prog w=.ok (.slice (some ⟨w.heap.size,0,none⟩) n n) (w.alloc (.cells (flatI (List.replicate n 0)).toArray 3)):=by
 have h:=intInfo
 obtain ⟨i,hi,hz⟩:=Option.map_eq_some_iff.1 h
 injection hz with h1 h2
 injection h2 with h2 h3
 have hsc:(4096:Nat)<=9223372036854775807:=by decide
 have:=run_make_rowN (P:=Tryz.prog) 24 3 i (.int .i64 0) Tryz.underlying24 hi h1 .i64 .i64 n n (Nat.le_refl _) (by rw [h3]; omega) (Nat.le_trans hn hsc) w
 rw [h2,made_intI] at this
 exact this
theorem bRun (A1 A2 A3 E:Option Addr) (l1 c1 l2 c2 l3 c3 m d:Nat) (k n F:Int) (s:ByteArray) (sb:Nat) (w:World):(Instr.build 174 #[(0,pv A1 l1 c1 A2 l2 c2 k n s A3 l3 c3),(1,.pointer (some ⟨sb,0,none⟩)),(3,.int .i64 F),(4,.slice E m d)]).run Tryz.prog w =
  .ok (.agg #[.slice A1 l1 c1,.slice A2 l2 c2,.int .u8 k,.int .i64 n,.string s,.slice A3 l3 c3,.pointer (some ⟨sb,0,none⟩),.int .i64 0,.int .i64 F,.slice E m d]) w:=by kernel_rfl
theorem blk_ne {W:World} {a b:Nat} {x y:Array Value} {E F:TypeId} (ha:W.heap[a]?=some (.cells x E (0,0))) (hb:W.heap[b]?=some (.cells y F (0,0))) (hne:E≠F):a≠b:=by
 rintro rfl
 rw [ha] at hb
 injection hb with hb
 injection hb with h1 h2
 exact hne h2
theorem below_kpt {W w4 w8 w11:World} {n0:Nat} {kb:Nat->Prop} (h4:Below W.heap.size W w4) (h11:Below W.heap.size W w11) (h48:Below w4.heap.size w4 w8) (hk:Kpt n0 kb w8 w11) (hn:w4.heap.size<=n0):Below w4.heap.size w4 w11 :=
 ⟨h11.os.trans h4.os.symm,h11.tape.trans h4.tape.symm,h11.output.trans h4.output.symm,Nat.le_trans h48.size hk.size,fun b hb=>(hk.kept b (Nat.lt_of_lt_of_le hb h48.size) (.inl (Nat.lt_of_lt_of_le hb hn))).trans (h48.block b hb)⟩
theorem fnStart1:IsFn Tryz.prog 117 Tryz.f117:=⟨Tryz.func117,by kernel_rfl,by kernel_rfl⟩
theorem fnStateI:IsFn Tryz.prog 22 Tryz.f22:=⟨Tryz.func22,by kernel_rfl,by kernel_rfl⟩
def OkR (C:RC) (lo hi:Nat) (o:Out) (w9 w':World):Prop:=∃ r,o=.ok r/\(C.plus lo hi).Ok/\RI (C.plus lo hi) w' r/\Kpt C.n0 C.kb w9 w'
def ErX (C:RC) (o:Out) (w9:World) (x:Int) (w':World):Prop:=o=.err x/\Kpt C.n0 C.kb w9 w'/\Below C.w.heap.size C.w w'
theorem attempt_run {C:RC} {w8 w9:World} {r:RS} {jb:Nat} (hC8:C.Ok) (h8:RI C w8 r) (hw9:w8.alloc (.cells #[.slice none 0 0,.bool false] 179)=w9) (hjb:w8.heap.size=jb) (hG:∀ u∈C.p.m.ks,GP C.p.prs u) (g:Nat) (back:Bool) (o:Out) (ho:runO C.p.prs C.F g back C.p.m r=o) (hg:o ≠ .gas) (pb qb bb:Nat)
  (h0:w8.cell? ⟨pb,0,none⟩=some (.pointer (some ⟨C.rb,0,none⟩))) (hq:w8.heap[qb]?=some (.cells #[.slice C.A1 C.p.vs.length C.c1,.slice C.A2 C.p.prs.length C.c2,.int .u8 C.p.m.k,.int .i64 C.p.m.n,.string C.p.m.s,.slice C.A3 C.p.m.ks.length C.c3] 35 (0,0))) (hb:w8.cell? ⟨bb,0,none⟩=some (.bool back)) :
  Calls Tryz.prog 116 #[.pointer (some ⟨jb,0,none⟩),.func (.func 117) #[] #[.pointer (some ⟨pb,0,none⟩),.pointer (some ⟨qb,0,none⟩),.pointer (some ⟨bb,0,none⟩)]] w9 (AttP w9 (OkR (C.plus jb w9.heap.size) w9.heap.size (w9.heap.size+3) o w9) (ErX (C.plus jb w9.heap.size) o w9)):=by
 have hbj:=bl_al (Below.refl w8.heap.size w8) (.cells #[.slice none 0 0,.bool false] 179)
 have kj:=heap_alloc_new w8 (.cells #[.slice none 0 0,.bool false] 179)
 obtain ⟨hC9,h9⟩:=h8.plus hC8 hbj
 rw [hw9,hjb] at kj hC9 h9
 rw [hw9] at hbj
 have hjl:=blk_lt kj
 refine Attempt_any jb _ _ fnStart1 _ w9 kj _ _ fun W1 hb1 hz1=>?_
 obtain ⟨hC1,h1⟩:=h9.plus hC9 hb1
 have hbt:=bl_tt hbj hb1
 have hrun:=start1_any hC1 h1 hG g back (show runO C.p.prs C.F g back C.p.m r ≠ .gas by rw [ho]; exact hg) pb qb bb (zb hbt h0) (blk_bl hq hbt) (zb hbt hb)
 refine hrun.mono ?_
 rintro e w' ⟨hk,hbl,hout⟩
 rw [show runO ((C.plus jb w9.heap.size).plus w9.heap.size W1.heap.size).p.prs ((C.plus jb w9.heap.size).plus w9.heap.size W1.heap.size).F g back ((C.plus jb w9.heap.size).plus w9.heap.size W1.heap.size).p.m r=o from ho] at hout
 refine ⟨fun b hb hlt=>hk.kept b hlt (.inr ?_),?_⟩
 ·rcases hb with hb|rfl
  ·exact .inr ⟨hb,hlt⟩
  ·exact .inl (.inr ⟨Nat.le_refl _,hjl⟩)
 ·have hkk:Kpt C.n0 (C.plus jb w9.heap.size).kb w9 w':=(Kpt.of_below hb1).trans (Kpt.less (C:=C.plus jb w9.heap.size) hk)
  cases o with
  | gas=>exact absurd rfl hg
  | err x=>exact .inr ⟨x,hout,rfl,hkk,hbl⟩
  | ok r1 =>
   rw [hz1] at hC1 hout
   exact .inl ⟨hout.1,r1,rfl,hC1,hout.2,hkk⟩
theorem start_any (p:PG) (s:SS) (F:Int) (g:Nat) (back:Bool) (v sv:Value) (W:World) (hp:PV W Any p v) (hs:SV W Any s sv) (hcl:s.cells.length<=5864062014800) (hF:I64 F) (hF6:F<=1000000) (hg:F.toNat*2000+2000<=g) :
  Calls Tryz.prog 66 #[v,sv,.int .i64 F,.bool back] W (ResP W (resO p s F g back)):=by
 have HP:=zh hp
 have HS:=zh hs
 obtain ⟨A1,c1,A2,c2,A3,c3,rfl,hpg⟩:=hp
 obtain ⟨A,c,B,d,D,e,rfl,hr1,hr2,hr3,hc1,hc2,hc3,hl1,hl2,hl3,hl4⟩:=hs
 have HPG:=zh hpg
 have HLM:=zh (show s.Lim from ⟨hl1,hl2,hl3,hl4⟩)
 have HV:=zh (fun w' (hb:Below W.heap.size W w')=>Valid_any p Any _ w' (HP.out.later hb))
 have HCK:=zh (fun w' (hb:Below W.heap.size W w')=>SCheck_any p Any _ w' (HP.out.later hb))
 have HCL:=zh (fun w' (hb:Below W.heap.size W w')=>Clone_st s _ w' (HS.out.later hb) hcl)
 have HNW:=zh (fun w' (hb:Below W.heap.size W w')=>New_any p.vs s A1 c1 _ w' (hpg.vars.later hb) hpg.lv (HS.out.later hb))
 obtain ⟨Re,hRe⟩:∃ R,resO p s F g back=R:=⟨_,rfl⟩
 have HRE:=zh hRe
 rw [hRe]
 have hb4:=bl_al (bl_al (bl_al (bl_al (Below.refl W.heap.size W) (.cells #[.slice A1 p.vs.length c1,.slice A2 p.prs.length c2,.int .u8 p.m.k,.int .i64 p.m.n,.string p.m.s,.slice A3 p.m.ks.length c3] 35)) (.cells #[.slice A s.cells.length c,.slice B s.tin.length d,.slice D s.tout.length e] 26)) (.cells #[.bool back] 4)) (.cells #[.slice none 0 0,.slice none 0 0,.slice none 0 0,.int .i64 0,.int .i64 0] 50)
 have k0:=blk_al (blk_al (blk_al (heap_alloc_new W (.cells #[.slice A1 p.vs.length c1,.slice A2 p.prs.length c2,.int .u8 p.m.k,.int .i64 p.m.n,.string p.m.s,.slice A3 p.m.ks.length c3] 35)) (.cells #[.slice A s.cells.length c,.slice B s.tin.length d,.slice D s.tout.length e] 26)) (.cells #[.bool back] 4)) (.cells #[.slice none 0 0,.slice none 0 0,.slice none 0 0,.int .i64 0,.int .i64 0] 50)
 have k1:=blk_al (blk_al (heap_alloc_new (W.alloc (.cells #[.slice A1 p.vs.length c1,.slice A2 p.prs.length c2,.int .u8 p.m.k,.int .i64 p.m.n,.string p.m.s,.slice A3 p.m.ks.length c3] 35)) (.cells #[.slice A s.cells.length c,.slice B s.tin.length d,.slice D s.tout.length e] 26)) (.cells #[.bool back] 4)) (.cells #[.slice none 0 0,.slice none 0 0,.slice none 0 0,.int .i64 0,.int .i64 0] 50)
 have k2:=blk_al (heap_alloc_new ((W.alloc (.cells #[.slice A1 p.vs.length c1,.slice A2 p.prs.length c2,.int .u8 p.m.k,.int .i64 p.m.n,.string p.m.s,.slice A3 p.m.ks.length c3] 35)).alloc (.cells #[.slice A s.cells.length c,.slice B s.tin.length d,.slice D s.tout.length e] 26)) (.cells #[.bool back] 4)) (.cells #[.slice none 0 0,.slice none 0 0,.slice none 0 0,.int .i64 0,.int .i64 0] 50)
 have k3:=heap_alloc_new (((W.alloc (.cells #[.slice A1 p.vs.length c1,.slice A2 p.prs.length c2,.int .u8 p.m.k,.int .i64 p.m.n,.string p.m.s,.slice A3 p.m.ks.length c3] 35)).alloc (.cells #[.slice A s.cells.length c,.slice B s.tin.length d,.slice D s.tout.length e] 26)).alloc (.cells #[.bool back] 4)) (.cells #[.slice none 0 0,.slice none 0 0,.slice none 0 0,.int .i64 0,.int .i64 0] 50)
 simp only [World.size_alloc] at k1 k2 k3
 have hz4:((((W.alloc (.cells #[.slice A1 p.vs.length c1,.slice A2 p.prs.length c2,.int .u8 p.m.k,.int .i64 p.m.n,.string p.m.s,.slice A3 p.m.ks.length c3] 35)).alloc (.cells #[.slice A s.cells.length c,.slice B s.tin.length d,.slice D s.tout.length e] 26)).alloc (.cells #[.bool back] 4)).alloc (.cells #[.slice none 0 0,.slice none 0 0,.slice none 0 0,.int .i64 0,.int .i64 0] 50)).heap.size=W.heap.size+4:=by simp
 obtain ⟨w4,hw4⟩:∃ x,((((W.alloc (.cells #[.slice A1 p.vs.length c1,.slice A2 p.prs.length c2,.int .u8 p.m.k,.int .i64 p.m.n,.string p.m.s,.slice A3 p.m.ks.length c3] 35)).alloc (.cells #[.slice A s.cells.length c,.slice B s.tin.length d,.slice D s.tout.length e] 26)).alloc (.cells #[.bool back] 4)).alloc (.cells #[.slice none 0 0,.slice none 0 0,.slice none 0 0,.int .i64 0,.int .i64 0] 50))=x:=⟨_,rfl⟩
 rw [hw4] at hb4 k0 k1 k2 k3 hz4
 have HB4:=zh hb4
 have HK0:=zh k0
 have HK1:=zh k1
 have HK2:=zh k2
 have HK3:=zh k3
 have HZ4:=zh hz4
 have p0:w4.cell? ⟨W.heap.size,0,none⟩=some (.slice A1 p.vs.length c1):=zc k0 rfl
 have p1:w4.cell? ⟨W.heap.size,1,none⟩=some (.slice A2 p.prs.length c2):=zc k0 rfl
 have p2:w4.cell? ⟨W.heap.size,2,none⟩=some (.int .u8 p.m.k):=zc k0 rfl
 have p3:w4.cell? ⟨W.heap.size,3,none⟩=some (.int .i64 p.m.n):=zc k0 rfl
 have p4:w4.cell? ⟨W.heap.size,4,none⟩=some (.string p.m.s):=zc k0 rfl
 have p5:w4.cell? ⟨W.heap.size,5,none⟩=some (.slice A3 p.m.ks.length c3):=zc k0 rfl
 obtain ⟨vb,hvb⟩:∃ b,validB p=b:=⟨_,rfl⟩
 have HVB:=zh hvb
 rw [hvb] at HV HCK
 clear hpg hr1 hr2 hr3 hRe hvb hb4 k0 k1 k2 k3 hz4 hl1 hl2 hl3 hl4 hc1 hc2 hc3
 go_enter Tryz.func66,Tryz.ntmps66
 go_wp2_with fail
 refine (HV.out w4 HB4.out).mono ?_
 rintro e5 w5 ⟨rfl,b5⟩
 clear hw4
 cases vb
 ·have HX:=zh (show Re=(s,0,3,[]) by rw [<-HRE.out,resO,if_pos (.inl HVB.out)])
  clear p0 p1 p2 p3 p4 p5
  have hSB:=blk_bl HK1.out b5
  have hRB:=blk_bl HK3.out b5
  have s0:w5.cell? ⟨W.heap.size+1,0,none⟩=some (.slice A s.cells.length c):=zc hSB rfl
  have s1:w5.cell? ⟨W.heap.size+1,1,none⟩=some (.slice B s.tin.length d):=zc hSB rfl
  have s2:w5.cell? ⟨W.heap.size+1,2,none⟩=some (.slice D s.tout.length e):=zc hSB rfl
  have HCC:=zh (HCL.out w5 (bl_tt HB4.out b5))
  have HRB:=zh hRB
  have hbq:=b5
  clear hSB hRB
  go_wp2_with fail
  refine HCC.out.mono ?_
  rintro e9 w9 ⟨v9,rfl,ho9,hb9⟩
  obtain ⟨A9,c9,B9,d9,D9,e9,rfl⟩:=ho9.slices
  have HO9:=zh ho9
  have HB9:=zh (bl_tt hbq hb9)
  have hk9:=blk_bl HRB.out hb9
  have x0:w9.cell? ⟨W.heap.size+3,0,none⟩=some (.slice none 0 0):=zc hk9 rfl
  have x1:w9.cell? ⟨W.heap.size+3,1,none⟩=some (.slice none 0 0):=zc hk9 rfl
  have x2:w9.cell? ⟨W.heap.size+3,2,none⟩=some (.slice none 0 0):=zc hk9 rfl
  have x3:w9.cell? ⟨W.heap.size+3,3,none⟩=some (.int .i64 0):=zc hk9 rfl
  have x4:w9.cell? ⟨W.heap.size+3,4,none⟩=some (.int .i64 0):=zc hk9 rfl
  have xf:∀ o,w9.frozen? ⟨W.heap.size+3,o,none⟩=false:=fun _=>zf hk9
  have HK9:=zh hk9
  have hbr:=bRes
  have hsz9:W.heap.size+4<=w5.heap.size:=by have:=hbq.size; rw [HZ4.out] at this; exact this
  clear s0 s1 s2 hk9 ho9 hb9 hbq HCC
  go_wp2_with fail
  obtain ⟨hh,hch⟩:=set5 (u0:=.slice A9 s.cells.length c9) (u1:=.slice B9 s.tin.length d9) (u2:=.slice D9 s.tout.length e9) (u3:=.int .i64 0) (u4:=.int .i64 3) HK9.out
  obtain ⟨w10,hw10⟩:∃ zz,(((((w9.setCell ⟨W.heap.size+3,0,none⟩ (.slice A9 s.cells.length c9)).setCell ⟨W.heap.size+3,1,none⟩ (.slice B9 s.tin.length d9)).setCell ⟨W.heap.size+3,2,none⟩ (.slice D9 s.tout.length e9)).setCell ⟨W.heap.size+3,3,none⟩ (.int .i64 0)).setCell ⟨W.heap.size+3,4,none⟩ (.int .i64 3))=zz:=⟨_,rfl⟩
  rw [hw10] at hh hch ⊢
  have t0:w10.cell? ⟨W.heap.size+3,0,none⟩=some (.slice A9 s.cells.length c9):=zc hh rfl
  have t1:w10.cell? ⟨W.heap.size+3,1,none⟩=some (.slice B9 s.tin.length d9):=zc hh rfl
  have t2:w10.cell? ⟨W.heap.size+3,2,none⟩=some (.slice D9 s.tout.length e9):=zc hh rfl
  have t3:w10.cell? ⟨W.heap.size+3,3,none⟩=some (.int .i64 0):=zc hh rfl
  have t4:w10.cell? ⟨W.heap.size+3,4,none⟩=some (.int .i64 3):=zc hh rfl
  refine bodyPost_ret (v:=.tuple #[.slice none 0 0,.agg #[.slice A9 s.cells.length c9,.slice B9 s.tin.length d9,.slice D9 s.tout.length e9,.int .i64 0,.int .i64 3]]) (by simp [results,Tryz.results66,go_sem,t0,t1,t2,t3,t4]) rfl ?_
  rw [HX.out]
  exact ⟨none,0,_,_,_,rfl,(HO9.out.chg hch fun b hb=>by omega).lower (by omega),fun i hi=>absurd hi (by simp),Nat.le_refl _,(bl_tt HB4.out HB9.out).trans (hch.below (bl_tt HB4.out HB9.out).size fun b hb=>by omega),HLM.out,fun h=>by first|(simp at h; done)|exact absurd h HXN.out⟩
 ·have q0:=zb b5 p0
  have q1:=zb b5 p1
  have q2:=zb b5 p2
  have q3:=zb b5 p3
  have q4:=zb b5 p4
  have q5:=zb b5 p5
  have HC5:=zh (show Calls Tryz.prog 53 #[pv A1 p.vs.length c1 A2 p.prs.length c2 p.m.k p.m.n p.m.s A3 p.m.ks.length c3] w5 (fun e w'=>∃ A c,e=Ending.returned (.slice A (chkN p) c)/\Below w5.heap.size w5 w') from (HCK.out w5 (bl_tt HB4.out b5)).mono (fun e w' ⟨A,c,h1,h2⟩=>⟨A,c,by rw [h1,if_pos rfl],h2⟩))
  clear p0 p1 p2 p3 p4 p5 HCK HV
  go_wp2_with fail
  refine HC5.out.mono ?_
  rintro e6 w6 ⟨AA,cc,rfl,b6⟩
  have b46:=bl_tt b5 b6
  clear q0 q1 q2 q3 q4 q5
  by_cases hn:chkN p=0
  ·obtain ⟨n,hnn⟩:∃ n,chkN p=n:=⟨_,rfl⟩
   rw [hnn]
   obtain rfl:n=0:=by omega
   have hng:¬ (0:Int)<((0:Nat):Int):=by omega
   have hPB:=blk_bl HK0.out b46
   have hSB:=blk_bl HK1.out b46
   have p0:w6.cell? ⟨W.heap.size,0,none⟩=some (.slice A1 p.vs.length c1):=zc hPB rfl
   have s0:w6.cell? ⟨W.heap.size+1,0,none⟩=some (.slice A s.cells.length c):=zc hSB rfl
   have s1:w6.cell? ⟨W.heap.size+1,1,none⟩=some (.slice B s.tin.length d):=zc hSB rfl
   have s2:w6.cell? ⟨W.heap.size+1,2,none⟩=some (.slice D s.tout.length e):=zc hSB rfl
   have HN0:=zh hnn
   clear hPB hSB hn hnn
   go_wp2_with fail
   refine (HNW.out w6 (bl_tt HB4.out b46)).mono ?_
   rintro e7 w7 ⟨b7,⟨hfit,rfl⟩|⟨hfit,P,rfl,hsr⟩⟩
   ·have HX:=zh (show Re=(s,0,20,[]) by rw [<-HRE.out,resO,if_neg (by rw [HVB.out,HN0.out]; simp),if_pos hfit])
    have b47:=bl_tt b46 b7
    clear p0 s0 s1 s2 hfit
    have hSB:=blk_bl HK1.out b47
    have hRB:=blk_bl HK3.out b47
    have s0:w7.cell? ⟨W.heap.size+1,0,none⟩=some (.slice A s.cells.length c):=zc hSB rfl
    have s1:w7.cell? ⟨W.heap.size+1,1,none⟩=some (.slice B s.tin.length d):=zc hSB rfl
    have s2:w7.cell? ⟨W.heap.size+1,2,none⟩=some (.slice D s.tout.length e):=zc hSB rfl
    have HCC:=zh (HCL.out w7 (bl_tt HB4.out b47))
    have HRB:=zh hRB
    have hbq:=b47
    clear hSB hRB
    go_wp2_with fail
    refine HCC.out.mono ?_
    rintro e9 w9 ⟨v9,rfl,ho9,hb9⟩
    obtain ⟨A9,c9,B9,d9,D9,e9,rfl⟩:=ho9.slices
    have HO9:=zh ho9
    have HB9:=zh (bl_tt hbq hb9)
    have hk9:=blk_bl HRB.out hb9
    have x0:w9.cell? ⟨W.heap.size+3,0,none⟩=some (.slice none 0 0):=zc hk9 rfl
    have x1:w9.cell? ⟨W.heap.size+3,1,none⟩=some (.slice none 0 0):=zc hk9 rfl
    have x2:w9.cell? ⟨W.heap.size+3,2,none⟩=some (.slice none 0 0):=zc hk9 rfl
    have x3:w9.cell? ⟨W.heap.size+3,3,none⟩=some (.int .i64 0):=zc hk9 rfl
    have x4:w9.cell? ⟨W.heap.size+3,4,none⟩=some (.int .i64 0):=zc hk9 rfl
    have xf:∀ o,w9.frozen? ⟨W.heap.size+3,o,none⟩=false:=fun _=>zf hk9
    have HK9:=zh hk9
    have hbr:=bRes
    have hsz9:W.heap.size+4<=w7.heap.size:=by have:=hbq.size; rw [HZ4.out] at this; exact this
    clear s0 s1 s2 hk9 ho9 hb9 hbq HCC
    go_wp2_with fail
    obtain ⟨hh,hch⟩:=set5 (u0:=.slice A9 s.cells.length c9) (u1:=.slice B9 s.tin.length d9) (u2:=.slice D9 s.tout.length e9) (u3:=.int .i64 0) (u4:=.int .i64 20) HK9.out
    obtain ⟨w10,hw10⟩:∃ zz,(((((w9.setCell ⟨W.heap.size+3,0,none⟩ (.slice A9 s.cells.length c9)).setCell ⟨W.heap.size+3,1,none⟩ (.slice B9 s.tin.length d9)).setCell ⟨W.heap.size+3,2,none⟩ (.slice D9 s.tout.length e9)).setCell ⟨W.heap.size+3,3,none⟩ (.int .i64 0)).setCell ⟨W.heap.size+3,4,none⟩ (.int .i64 20))=zz:=⟨_,rfl⟩
    rw [hw10] at hh hch ⊢
    have t0:w10.cell? ⟨W.heap.size+3,0,none⟩=some (.slice A9 s.cells.length c9):=zc hh rfl
    have t1:w10.cell? ⟨W.heap.size+3,1,none⟩=some (.slice B9 s.tin.length d9):=zc hh rfl
    have t2:w10.cell? ⟨W.heap.size+3,2,none⟩=some (.slice D9 s.tout.length e9):=zc hh rfl
    have t3:w10.cell? ⟨W.heap.size+3,3,none⟩=some (.int .i64 0):=zc hh rfl
    have t4:w10.cell? ⟨W.heap.size+3,4,none⟩=some (.int .i64 20):=zc hh rfl
    refine bodyPost_ret (v:=.tuple #[.slice none 0 0,.agg #[.slice A9 s.cells.length c9,.slice B9 s.tin.length d9,.slice D9 s.tout.length e9,.int .i64 0,.int .i64 20]]) (by simp [results,Tryz.results66,go_sem,t0,t1,t2,t3,t4]) rfl ?_
    rw [HX.out]
    exact ⟨none,0,_,_,_,rfl,(HO9.out.chg hch fun b hb=>by omega).lower (by omega),fun i hi=>absurd hi (by simp),Nat.le_refl _,(bl_tt HB4.out HB9.out).trans (hch.below (bl_tt HB4.out HB9.out).size fun b hb=>by omega),HLM.out,fun h=>by first|(simp at h; done)|exact absurd h HXN.out⟩
   ·have b47:=bl_tt b46 b7
    have HFT:=zh hfit
    have HSR:=zh hsr
    clear p0 s0 s1 s2 hfit hsr
    have hPB:=blk_bl HK0.out b47
    have p0:w7.cell? ⟨W.heap.size,0,none⟩=some (.slice A1 p.vs.length c1):=zc hPB rfl
    have p1:w7.cell? ⟨W.heap.size,1,none⟩=some (.slice A2 p.prs.length c2):=zc hPB rfl
    have p2:w7.cell? ⟨W.heap.size,2,none⟩=some (.int .u8 p.m.k):=zc hPB rfl
    have p3:w7.cell? ⟨W.heap.size,3,none⟩=some (.int .i64 p.m.n):=zc hPB rfl
    have p4:w7.cell? ⟨W.heap.size,4,none⟩=some (.string p.m.s):=zc hPB rfl
    have p5:w7.cell? ⟨W.heap.size,5,none⟩=some (.slice A3 p.m.ks.length c3):=zc hPB rfl
    obtain ⟨hvl,hpl,hpp,-,hpm⟩:=valid_bounds HVB.out
    have hmk:=bMkI p.prs.length (by omega)
    obtain ⟨np,hnp⟩:∃ n,p.prs.length=n:=⟨_,rfl⟩
    rw [hnp] at p1 hmk
    have HNP:=zh hnp
    obtain ⟨HH,hHH⟩:∃ H:World->Prop,H=fun w':World=>w'.cell? ⟨W.heap.size,0,none⟩=some (.slice A1 p.vs.length c1)/\w'.cell? ⟨W.heap.size,1,none⟩=some (.slice A2 np c2)/\w'.cell? ⟨W.heap.size,2,none⟩=some (.int .u8 p.m.k)/\w'.cell? ⟨W.heap.size,3,none⟩=some (.int .i64 p.m.n)/\w'.cell? ⟨W.heap.size,4,none⟩=some (.string p.m.s)/\w'.cell? ⟨W.heap.size,5,none⟩=some (.slice A3 p.m.ks.length c3):=⟨_,rfl⟩
    have HSS:=zh (show ∀ w',Below w7.heap.size w7 w'->HH w' by
     rw [hHH]
     exact fun w' hb=>⟨zb hb p0,zb hb p1,zb hb p2,zb hb p3,zb hb p4,zb hb p5⟩)
    rw [hnp]
    go_upto_region 6 with fail
    have hSS:HH w7.drew/\(fun _:World=>True) w7.drew:=⟨HSS.out _ (Below.refl _ _).drew,trivial⟩
    refine wp_region_noPanic ?_
    refine wp_region_G HH (fun _:World=>True) 10 (by kernel_rfl) ?_
    subst hHH
    refine zT 0 hSS ?_
    (try simp only [Act.put,zP])
    refine zT 1 hSS ?_
    (try simp only [Act.put,zP])
    refine zT 2 hSS ?_
    (try simp only [Act.put,zP])
    refine zT 3 hSS ?_
    (try simp only [Act.put,zP])
    refine zT 4 hSS ?_
    (try simp only [Act.put,zP])
    refine zT 5 hSS ?_
    (try simp only [Act.put,zP])
    clear p0 p1 p2 p3 p4 p5 hPB hnp
    refine wpG_invS (fun A f l a wr=>∃ (l6 l7 l8 l9:Bool) (v43 v44 v45 v12:Value) (eb rb pb:Nat),f=(!l6).toNat+(!l7).toNat+(!l8).toNat+(!l9).toNat+1/\l = #[true,true,true,true,true,true,l6,l7,l8,l9,false] /\
     a=(((A.put (some 43) v43).put (some 44) v44).put (some 45) v45).put (some 12) v12/\Hid (Below w7.heap.size w7 wr) /\
     Hid ((l7=true->l6=true)/\(l8=true->l7=true)/\(l6=true->v43=.slice (some ⟨eb,0,none⟩) np np/\wr.heap[eb]?=some (.cells (flatI (List.replicate np 0)).toArray 3 (0,0))/\w7.heap.size<=eb) /\
      (l7=true->v44=.agg #[.slice A1 p.vs.length c1,.slice A2 np c2,.int .u8 p.m.k,.int .i64 p.m.n,.string p.m.s,.slice A3 p.m.ks.length c3,.pointer (some ⟨P.sb,0,none⟩),.int .i64 0,.int .i64 F,.slice (some ⟨eb,0,none⟩) np np]) /\
      (l8=true->v45=.pointer (some ⟨rb,0,none⟩)/\wr.heap[rb]?=some (.cells #[.slice A1 p.vs.length c1,.slice A2 np c2,.int .u8 p.m.k,.int .i64 p.m.n,.string p.m.s,.slice A3 p.m.ks.length c3,.pointer (some ⟨P.sb,0,none⟩),.int .i64 0,.int .i64 F,.slice (some ⟨eb,0,none⟩) np np] 174 (0,0))/\w7.heap.size<=rb) /\
      (l9=true->v12=.pointer (some ⟨pb,0,none⟩)/\wr.heap[pb]?=some (.cells #[.pointer none] 172 (0,0))/\w7.heap.size<=pb)) /\
     Hid ((l6=false->v43=undef)/\(l7=false->v44=undef)/\(l8=false->v45=undef)/\(l9=false->v12=undef))) (fun A f l a wr h=>?_) ?_ ⟨false,false,false,false,undef,undef,undef,undef,0,0,0,rfl,rfl,(by simp only [Act.put,zD,zE,zF]),zh (Below.refl _ _).drew,zh ⟨fun h=>(by cases h),fun h=>(by cases h),fun h=>(by cases h),fun h=>(by cases h),fun h=>(by cases h),fun h=>(by cases h)⟩,zh ⟨fun _=>rfl,fun _=>rfl,fun _=>rfl,fun _=>rfl⟩⟩
    ·obtain ⟨_,_,_,_,_,_,_,_,_,_,_,_,_,_,hb,_⟩:=h
     exact ⟨HSS.out _ hb.out,trivial⟩
    rintro A' hA f l a wr ⟨l6,l7,l8,l9,v43,v44,v45,v12,eb,rb,pb,hf,rfl,ha,HBL,HC,HU⟩
    by_cases hall:(l6&&l7&&l8&&l9)=true
    ·left
     simp only [Bool.and_eq_true] at hall
     obtain ⟨⟨⟨rfl,rfl⟩,rfl⟩,rfl⟩:=hall
     obtain ⟨-,-,h6,h7,h8,h9⟩:=HC.out
     obtain ⟨rfl,he,hel⟩:=h6 rfl
     obtain rfl:=h7 rfl
     obtain ⟨rfl,hr,hrl⟩:=h8 rfl
     obtain ⟨rfl,hq,hql⟩:=h9 rfl
     subst hf ha hA
     have hner:eb≠rb:=blk_ne he hr (by decide)
     have hneq:eb≠pb:=blk_ne he hq (by decide)
     have hnrq:rb≠pb:=blk_ne hr hq (by decide)
     have c0:wr.cell? ⟨pb,0,none⟩=some (.pointer none):=zc hq rfl
     have cf:∀ j,wr.frozen? ⟨pb,j,none⟩=false:=fun j=>zf hq
     refine wpG_past (i:=10) (by kernel_rfl) rfl (by kernel_rfl) (fun K hK=>?_)
     (try simp only [Act.put,zP])
     go_simp
     have hch:Chg (fun b=>b=pb) wr (wr.setCell ⟨pb,0,none⟩ (.pointer (some ⟨rb,0,none⟩))):=(Chg.refl (fun b=>b=pb) wr).setCell (p:=⟨pb,0,none⟩) (.inl rfl) _
     have hh:(wr.setCell ⟨pb,0,none⟩ (.pointer (some ⟨rb,0,none⟩))).heap[pb]?=some (.cells #[.pointer (some ⟨rb,0,none⟩)] 172 (0,0)):=by
      rw [heap_setCell_same wr pb 0 _ _ (.pointer (some ⟨rb,0,none⟩)) hq]; rfl
     have HB8:=zh (show Below w7.heap.size w7 (wr.setCell ⟨pb,0,none⟩ (.pointer (some ⟨rb,0,none⟩))) from HBL.out.trans (hch.below HBL.out.size fun b e=>by omega))
     have HE8:=zh (hch.keep he hneq)
     have HR8:=zh (hch.keep hr hnrq)
     have HQ8:=zh hh
     obtain ⟨w8,hw8⟩:∃ x,wr.setCell ⟨pb,0,none⟩ (.pointer (some ⟨rb,0,none⟩))=x:=⟨_,rfl⟩
     rw [hw8] at HB8 HE8 HR8 HQ8 ⊢
     refine hK.out _ _ (HSS.out _ HB8.out) ?_
     clear hK K hSS hch hh hw8 c0 cf he hr hq h6 h7 h8 h9 HC HU HBL hmk HSS
     refine wpG_done (by kernel_rfl) ?_
     refine NoPanic.normal ?_
     (try simp only [Act.put,zP])
     have hlt_e:=blk_lt HE8.out
     have hlt_r:=blk_lt HR8.out
     have hlt_q:=blk_lt HQ8.out
     obtain ⟨C,hC⟩:∃ C:RC,C=⟨W,w6.heap.size,P.sb,rb,p,A1,c1,A2,c2,A3,c3,F,.slice (some ⟨eb,0,none⟩) np np,fun b=>b=pb⟩:=⟨_,rfl⟩
     have hs67:=b7.size
     have hs46:=b46.size
     have hz4:=HZ4.out
     have hbWw6:=bl_tt HB4.out b46
     have HCO:=zh (show C.Ok by
      rw [hC]
      exact ⟨HPG.out,hF,hF6,⟨by simp only; omega,by simp only; exact hnrq⟩,⟨by simp [Value.ownBlock]; exact hner,fun b hb hk=>by simp only [Value.ownBlock,Option.some.injEq] at hb; simp only at hk; omega⟩,fun q hq=>by have:=(hpp q hq).1; omega⟩)
     have HRI:=zh (show RI C w8 ⟨newS p.vs s,0,List.replicate np 0⟩ by
      rw [hC]
      have hks:=(KS.new hbWw6 b7 HSR.out).also HB8.out (kb':=fun b=>b=pb\/b=rb\/(Value.slice (some ⟨eb,0,none⟩) np np).ownBlock=some b) (fun b hb=>.inr (by
       rcases hb with rfl|rfl|hb
       ·exact ⟨hql,hlt_q⟩
       ·exact ⟨hrl,hlt_r⟩
       ·simp [Value.ownBlock] at hb
        subst hb
        exact ⟨hel,hlt_e⟩))
      refine ⟨hks,by rw [<-HNP.out] at HR8; simpa [RC.cells,HNP.out] using HR8.out,?_,by simp [HNP.out],fun c hc=>by simp at hc; omega,by simp,?_⟩
      ·refine ⟨by simp [flatI],.inr ⟨eb,np,_,by simp,Nat.le_trans hs67 hel,HE8.out,by simp,by unfold maxLen; have:=HNP.out; omega,by simp [flatI],by simp [flatI]⟩⟩
      ·exact ⟨by simp only [newS]; omega,fun f hf=>by simp [newS] at hf⟩)
     have HGP:=zh (GP_main HVB.out HN0.out)
     obtain ⟨o,ho⟩:∃ o,runO p.prs F g back p.m ⟨newS p.vs s,0,List.replicate np 0⟩=o:=⟨_,rfl⟩
     have hog:o ≠ .gas:=ho▸(run_good HVB.out hg back (newS p.vs s) (List.replicate np 0)).1
     have hon:Nz o:=ho▸runO_nz GP_GC HGP.out
     have HRR:=zh (show Re=outR s o by rw [<-HRE.out,resO,if_neg (by rw [HVB.out,HN0.out]; simp),if_neg (by rw [HFT.out]; simp),<-ho,<-HNP.out])
     have hHB48:=bl_tt b47 HB8.out
     obtain ⟨jb,hjb⟩:∃ x,w8.heap.size=x:=⟨_,rfl⟩
     obtain ⟨w9,hw9⟩:∃ x,w8.alloc (.cells #[.slice none 0 0,.bool false] 179)=x:=⟨_,rfl⟩
     have HAT:=zh (attempt_run HCO.out HRI.out hw9 hjb (by rw [hC]; exact HGP.out) g back o (by rw [hC]; exact ho) hog pb W.heap.size (W.heap.size+1+1) (by rw [hC]; exact zc HQ8.out rfl) (by rw [hC]; simp only; rw [HNP.out]; have:=blk_bl HK0.out hHB48; rw [HNP.out] at this; exact this) (zc (blk_bl HK2.out hHB48) rfl))
     have hz9:w9.heap.size=jb+1:=by rw [<-hw9]; simp [hjb]
     have HK89:=zh (show Kpt C.n0 C.kb w8 w9 from Kpt.of_below (hw9▸bl_al (Below.refl w8.heap.size w8) _))
     have hmf:∀ (fn:Fn) (first cap:Array Value) (w:World),(Instr.makeFunc fn first cap).run Tryz.prog w=.ok (.func fn first cap) w:=fun _ _ _ _=>rfl
     have HN0C:=zh (show C.n0=w6.heap.size/\C.w=W/\C.rb=rb/\C.ev=.slice (some ⟨eb,0,none⟩) np np/\(C.kb=fun b=>b=pb)/\C.sb=P.sb/\C.p=p by rw [hC]; exact ⟨rfl,rfl,rfl,rfl,rfl,rfl,rfl⟩)
     have HHB48:=zh hHB48
     have hbWw4:=HB4.out
     have hb4s:W.heap.size<=w6.heap.size:=hbWw6.size
     clear hC hHB48 ho hlt_e hlt_r
     go_wp2_with fail
     refine HAT.out.mono ?_
     rintro e10 w11 hat
     clear HAT hw9 hmf
     rcases hat with ⟨rfl,w10,⟨r,rfl,hok,hri,hkp⟩,hch⟩|⟨x,rfl,w10,⟨rfl,hkp,hbl⟩,hch⟩
     ·obtain ⟨hn0,hcw,hcrb,hcev,hckb,hcsb,hcp⟩:=HN0C.out
      have hri1:=RI.chgK (C:=C.plus jb w9.heap.size) hok hri hch (by show C.w.heap.size<=_; rw [hcw]; have:=HB8.out.size; omega)
      have hri2:RI C w11 r:=hri1.less.less
      have hkk:Kpt C.n0 C.kb w8 w11:=HK89.out.trans ((Kpt.less (C:=C) hkp).trans (Kpt.chg hch fun b hb=>⟨by rw [hn0]; omega,by rw [hckb]; intro e; subst e; omega⟩))
      have hb411:=below_kpt hbWw4 (by have:=hri2.below; rw [hcw] at this; exact this) HHB48.out hkk (by rw [hn0]; exact hs46)
      have HRI2:=zh hri2
      have HX:=zh (show Re=(r.S.state,r.n,0,r.ent) from HRR.out)
      obtain ⟨-,x7,-,x9,-⟩:=hri2.cells
      rw [hcrb] at x7 x9
      rw [hcev] at x9
      have xp:w11.cell? ⟨pb,0,none⟩=some (.pointer (some ⟨rb,0,none⟩)):=zc (hkk.blk (.inr (by rw [hckb])) HQ8.out) rfl
      have HKR:=zh (blk_bl HK3.out hb411)
      have HB411:=zh hb411
      have hls:=hri2.ks
      have HST:=zh (fun w' (hb:Below w11.heap.size w11 w')=>(hls.later hb).state)
      rw [hcsb] at HST
      have HNL:=zh (show r.ent.length=np by rw [hri2.el,hcp,HNP.out])
      have HEN:=zh hri2.ent
      rw [hn0,hcev] at HEN
      have hne0:(0:Int)=0:=rfl
      have HSS:=zh (show ∀ w',Below w11.heap.size w11 w'->(fun w':World=>w'.cell? ⟨pb,0,none⟩=some (.pointer (some ⟨rb,0,none⟩))/\w'.cell? ⟨rb,7,none⟩=some (.int .i64 r.n)/\w'.cell? ⟨rb,9,none⟩=some (.slice (some ⟨eb,0,none⟩) np np)) w' from fun w' hb=>⟨zb hb xp,zb hb x7,zb hb x9⟩)
      clear hri hri1 hri2 hkk hkp hls hn0 hcw hcrb hcev hckb hcsb hch x7 x9 xp hb411 hok
      go_upto_region 10 with fail
      have hSS:(fun w':World=>w'.cell? ⟨pb,0,none⟩=some (.pointer (some ⟨rb,0,none⟩))/\w'.cell? ⟨rb,7,none⟩=some (.int .i64 r.n)/\w'.cell? ⟨rb,9,none⟩=some (.slice (some ⟨eb,0,none⟩) np np)) w11.drew/\(fun _:World=>True) w11.drew:=⟨HSS.out _ (Below.refl _ _).drew,trivial⟩
      refine wp_region_noPanic ?_
      refine wp_region_G (fun w':World=>w'.cell? ⟨pb,0,none⟩=some (.pointer (some ⟨rb,0,none⟩))/\w'.cell? ⟨rb,7,none⟩=some (.int .i64 r.n)/\w'.cell? ⟨rb,9,none⟩=some (.slice (some ⟨eb,0,none⟩) np np)) (fun _:World=>True) 12 (by kernel_rfl) ?_
      refine zT 0 hSS ?_
      (try simp only [Act.put,zP])
      refine zT 1 hSS ?_
      (try simp only [Act.put,zP])
      refine zT 2 hSS ?_
      (try simp only [Act.put,zP])
      refine zT 3 hSS ?_
      (try simp only [Act.put,zP])
      refine zT 4 hSS ?_
      (try simp only [Act.put,zP])
      refine zT 6 hSS ?_
      (try simp only [Act.put,zP])
      refine zT 7 hSS ?_
      (try simp only [Act.put,zP])
      refine zT 8 hSS ?_
      (try simp only [Act.put,zP])
      refine zT 9 hSS ?_
      (try simp only [Act.put,zP])
      have had:Calls Tryz.prog 22 [.pointer (some ⟨P.sb,0,none⟩)].toArray w11.drew fun e W'=>∃ v,e=.returned v/\(OwnS W' w11.heap.size r.S.state v/\Below w11.heap.size w11 W') :=
       (HST.out _ (Below.refl _ _).drew).mono fun e w' ⟨v,h1,h2,h3⟩=>⟨v,h1,h2,bl_tt (Below.refl w11.heap.size w11).drew h3⟩
      refine wpG_one (i:=5) (by kernel_rfl) rfl (fun K hK=>?_)
      refine step_callL (by rfl) (.func 22) [.tmp 59] _ (by rfl) 22 _ fnStateI (by rfl) _ (by rfl) _ had ?_
      rintro v12 w12 ⟨ho12,hb12⟩
      obtain ⟨A9,c9,B9,d9,D9,e9,rfl⟩:=ho12.slices
      have HO12:=zh ho12
      have HB12:=zh hb12
      refine hK.out _ _ ⟨HSS.out _ hb12,trivial⟩ ?_
      have hSS2:(fun w':World=>w'.cell? ⟨pb,0,none⟩=some (.pointer (some ⟨rb,0,none⟩))/\w'.cell? ⟨rb,7,none⟩=some (.int .i64 r.n)/\w'.cell? ⟨rb,9,none⟩=some (.slice (some ⟨eb,0,none⟩) np np)) w12/\(fun _:World=>True) w12:=⟨HSS.out _ hb12,trivial⟩
      clear hK K hSS had ho12 hb12
      (try simp only [Act.put,zP])
      have hbr:=bRes1
      refine zT 10 hSS2 ?_
      (try simp only [Act.put,zP])
      refine wpG_one (i:=11) (by kernel_rfl) rfl (fun K hK=>?_)
      (try simp only [zA,zB,zC])
      go_simp
      refine hK.out _ _ ⟨HSS.out _ HB12.out,trivial⟩ ?_
      clear hK K
      (try simp only [Act.put,zP])
      have hk9:=blk_bl HKR.out HB12.out
      have x0:w12.cell? ⟨W.heap.size+3,0,none⟩=some (.slice none 0 0):=zc hk9 rfl
      have x1:w12.cell? ⟨W.heap.size+3,1,none⟩=some (.slice none 0 0):=zc hk9 rfl
      have x2:w12.cell? ⟨W.heap.size+3,2,none⟩=some (.slice none 0 0):=zc hk9 rfl
      have x3:w12.cell? ⟨W.heap.size+3,3,none⟩=some (.int .i64 0):=zc hk9 rfl
      have x4:w12.cell? ⟨W.heap.size+3,4,none⟩=some (.int .i64 0):=zc hk9 rfl
      have xf:∀ o,w12.frozen? ⟨W.heap.size+3,o,none⟩=false:=fun _=>zf hk9
      refine wpG_past (i:=12) (by kernel_rfl) rfl (by kernel_rfl) (fun K hK=>?_)
      (try simp only [Act.put,zP])
      go_simp
      obtain ⟨hh,hch⟩:=set5 (u0:=.slice A9 r.S.state.cells.length c9) (u1:=.slice B9 r.S.state.tin.length d9) (u2:=.slice D9 r.S.state.tout.length e9) (u3:=.int .i64 r.n) (u4:=.int .i64 0) hk9
      obtain ⟨w13,hw13⟩:∃ zz,(((((w12.setCell ⟨W.heap.size+3,0,none⟩ (.slice A9 r.S.state.cells.length c9)).setCell ⟨W.heap.size+3,1,none⟩ (.slice B9 r.S.state.tin.length d9)).setCell ⟨W.heap.size+3,2,none⟩ (.slice D9 r.S.state.tout.length e9)).setCell ⟨W.heap.size+3,3,none⟩ (.int .i64 r.n)).setCell ⟨W.heap.size+3,4,none⟩ (.int .i64 0))=zz:=⟨_,rfl⟩
      rw [hw13] at hh hch ⊢
      have HCH:=zh hch
      have t0:w13.cell? ⟨W.heap.size+3,0,none⟩=some (.slice A9 r.S.state.cells.length c9):=zc hh rfl
      have t1:w13.cell? ⟨W.heap.size+3,1,none⟩=some (.slice B9 r.S.state.tin.length d9):=zc hh rfl
      have t2:w13.cell? ⟨W.heap.size+3,2,none⟩=some (.slice D9 r.S.state.tout.length e9):=zc hh rfl
      have t3:w13.cell? ⟨W.heap.size+3,3,none⟩=some (.int .i64 r.n):=zc hh rfl
      have t4:w13.cell? ⟨W.heap.size+3,4,none⟩=some (.int .i64 0):=zc hh rfl
      have hszs:W.heap.size+4<=w11.heap.size:=by have:=HB411.out.size; omega
      have hplt:W.heap.size+3<w7.heap.size:=by have:=b47.size; omega
      refine hK.out _ _ ?_ ?_
      ·obtain ⟨q1,q2,q3⟩:=HSS.out _ HB12.out
       exact ⟨chg_cell hch q1 (by simp only; omega),chg_cell hch q2 (by simp only; omega),chg_cell hch q3 (by simp only; omega)⟩
      clear hK K hch hh hw13 x0 x1 x2 x3 x4 xf hk9 hSS2 HSS
      (try simp only [Act.put,zP])
      refine wpG_done (by kernel_rfl) ?_
      refine NoPanic.normal ?_
      go_wp2_with fail
      have hrow:=own_later HEN.out HB12.out
      have hrow2:=own_chg hrow (fun b hb=>HCH.out.block b (hrow.lt b hb).2 (by have:=(hrow.lt b hb).1; omega))
      have hI:∀ z∈r.ent.map Int.ofNat,I64 z:=fun z hz=>by
       obtain ⟨q,hq,rfl⟩:=List.mem_map.1 hz
       have h1:=HRI2.out.en q hq
       have h2:=HRI2.out.n
       exact ⟨by simp only [Int.ofNat_eq_natCast]; omega,by simp only [Int.ofNat_eq_natCast]; omega⟩
      obtain ⟨Ae,ce,he1,he2,he3⟩:=row_IR (l:=r.ent.map Int.ofNat) (by simpa using hrow2) hI
      injection he1 with he1 _ he4
      subst he1 he4
      refine bodyPost_ret (v:=.tuple #[.slice (some ⟨eb,0,none⟩) np np,.agg #[.slice A9 r.S.state.cells.length c9,.slice B9 r.S.state.tin.length d9,.slice D9 r.S.state.tout.length e9,.int .i64 r.n,.int .i64 0]]) (by simp [results,Tryz.results66,go_sem,t0,t1,t2,t3,t4]) rfl ?_
      rw [HX.out]
      refine ⟨_,_,_,_,_,by rw [HNL.out],(HO12.out.chg HCH.out fun b hb=>by omega).lower (by omega),he3.keep (fun b hb _=>by have:=hb4s; omega) (fun _ _ _=>rfl),by simpa using he2,?_⟩
      exact ⟨(bl_tt hbWw4 (bl_tt HB411.out HB12.out)).trans (HCH.out.below (bl_tt hbWw4 (bl_tt HB411.out HB12.out)).size fun b hb=>by omega),LimR.run HRI2.out.ks.wf HRI2.out.fb _⟩
     ·have hx:x≠0:=fun e=>hon (by rw [e])
      obtain ⟨hn0,hcw,hcrb,hcev,hckb,hcsb,-⟩:=HN0C.out
      have hkk:Kpt C.n0 C.kb w8 w11:=HK89.out.trans ((Kpt.less (C:=C) hkp).trans (Kpt.chg hch fun b hb=>⟨by rw [hn0]; omega,by rw [hckb]; intro e; subst e; omega⟩))
      have hblA:Below C.w.heap.size C.w w10:=hbl
      rw [hcw] at hblA
      have hs8:=HB8.out.size
      have hbl2:Below W.heap.size W w11:=hblA.trans (hch.below hblA.size fun b hb=>by omega)
      have hb411:=below_kpt hbWw4 hbl2 HHB48.out hkk (by rw [hn0]; exact hs46)
      have HX:=zh (show Re=(s,0,x,[]) from HRR.out)
      have e1:(x != 0)=true:=by simpa using hx
      have HXN:=zh hx
      clear hn0 hcw hcrb hcev hckb hcsb hkk hbl2 hkp hbl hblA hch hon
      have hSB:=blk_bl HK1.out hb411
      have hRB:=blk_bl HK3.out hb411
      have s0:w11.cell? ⟨W.heap.size+1,0,none⟩=some (.slice A s.cells.length c):=zc hSB rfl
      have s1:w11.cell? ⟨W.heap.size+1,1,none⟩=some (.slice B s.tin.length d):=zc hSB rfl
      have s2:w11.cell? ⟨W.heap.size+1,2,none⟩=some (.slice D s.tout.length e):=zc hSB rfl
      have HCC:=zh (HCL.out w11 (bl_tt HB4.out hb411))
      have HRB:=zh hRB
      have hbq:=hb411
      clear hSB hRB
      go_wp2_with fail
      refine HCC.out.mono ?_
      rintro e9 w9 ⟨v9,rfl,ho9,hb9⟩
      obtain ⟨A9,c9,B9,d9,D9,e9,rfl⟩:=ho9.slices
      have HO9:=zh ho9
      have HB9:=zh (bl_tt hbq hb9)
      have hk9:=blk_bl HRB.out hb9
      have x0:w9.cell? ⟨W.heap.size+3,0,none⟩=some (.slice none 0 0):=zc hk9 rfl
      have x1:w9.cell? ⟨W.heap.size+3,1,none⟩=some (.slice none 0 0):=zc hk9 rfl
      have x2:w9.cell? ⟨W.heap.size+3,2,none⟩=some (.slice none 0 0):=zc hk9 rfl
      have x3:w9.cell? ⟨W.heap.size+3,3,none⟩=some (.int .i64 0):=zc hk9 rfl
      have x4:w9.cell? ⟨W.heap.size+3,4,none⟩=some (.int .i64 0):=zc hk9 rfl
      have xf:∀ o,w9.frozen? ⟨W.heap.size+3,o,none⟩=false:=fun _=>zf hk9
      have HK9:=zh hk9
      have hbr:=bRes
      have hsz9:W.heap.size+4<=w11.heap.size:=by have:=hbq.size; rw [HZ4.out] at this; exact this
      clear s0 s1 s2 hk9 ho9 hb9 hbq HCC
      go_wp2_with fail
      obtain ⟨hh,hch⟩:=set5 (u0:=.slice A9 s.cells.length c9) (u1:=.slice B9 s.tin.length d9) (u2:=.slice D9 s.tout.length e9) (u3:=.int .i64 0) (u4:=.int .i64 x) HK9.out
      obtain ⟨w10,hw10⟩:∃ zz,(((((w9.setCell ⟨W.heap.size+3,0,none⟩ (.slice A9 s.cells.length c9)).setCell ⟨W.heap.size+3,1,none⟩ (.slice B9 s.tin.length d9)).setCell ⟨W.heap.size+3,2,none⟩ (.slice D9 s.tout.length e9)).setCell ⟨W.heap.size+3,3,none⟩ (.int .i64 0)).setCell ⟨W.heap.size+3,4,none⟩ (.int .i64 x))=zz:=⟨_,rfl⟩
      rw [hw10] at hh hch ⊢
      have t0:w10.cell? ⟨W.heap.size+3,0,none⟩=some (.slice A9 s.cells.length c9):=zc hh rfl
      have t1:w10.cell? ⟨W.heap.size+3,1,none⟩=some (.slice B9 s.tin.length d9):=zc hh rfl
      have t2:w10.cell? ⟨W.heap.size+3,2,none⟩=some (.slice D9 s.tout.length e9):=zc hh rfl
      have t3:w10.cell? ⟨W.heap.size+3,3,none⟩=some (.int .i64 0):=zc hh rfl
      have t4:w10.cell? ⟨W.heap.size+3,4,none⟩=some (.int .i64 x):=zc hh rfl
      refine bodyPost_ret (v:=.tuple #[.slice none 0 0,.agg #[.slice A9 s.cells.length c9,.slice B9 s.tin.length d9,.slice D9 s.tout.length e9,.int .i64 0,.int .i64 x]]) (by simp [results,Tryz.results66,go_sem,t0,t1,t2,t3,t4]) rfl ?_
      rw [HX.out]
      exact ⟨none,0,_,_,_,rfl,(HO9.out.chg hch fun b hb=>by omega).lower (by omega),fun i hi=>absurd hi (by simp),Nat.le_refl _,(bl_tt HB4.out HB9.out).trans (hch.below (bl_tt HB4.out HB9.out).size fun b hb=>by omega),HLM.out,fun h=>by first|(simp at h; done)|exact absurd h HXN.out⟩
    ·right
     have HC0:=HC.out
     have HU0:=HU.out
     have hcc:(l7=true->l6=true)/\(l8=true->l7=true):=⟨HC0.1,HC0.2.1⟩
     refine ⟨f-1,?_,?_,?_⟩
     ·clear HC HC0 HU HU0 ha HBL hcc
      subst hf
      revert hall
      revert l6 l7 l8 l9
      decide
     ·clear HC HC0 HU HU0 ha HBL hf
      revert hall hcc
      revert l6 l7 l8 l9
      decide +kernel
     intro i hi
     have hcase:(i=6/\l6=false/\l7=false/\l8=false)\/(i=7/\l7=false/\l6=true/\l8=false)\/(i=8/\l8=false/\l6=true/\l7=true)\/(i=9/\l9=false):=by
      refine of_decide_eq_true ((List.all_eq_true (p:=fun i=>decide ((i=6/\l6=false/\l7=false/\l8=false)\/(i=7/\l7=false/\l6=true/\l8=false)\/(i=8/\l8=false/\l6=true/\l7=true)\/(i=9/\l9=false)))).1 ?_ i hi)
      clear HC HC0 HU HU0 ha HBL hf hi
      revert hall hcc
      revert l6 l7 l8 l9
      decide +kernel
     clear hi hall
     subst ha hA
     rcases hcase with ⟨rfl,rfl,rfl,rfl⟩|⟨rfl,rfl,rfl,rfl⟩|⟨rfl,rfl,rfl,rfl⟩|⟨rfl,rfl⟩
     ·refine wpOp_step rfl (fun K' hK0=>?_)
      have hK:=zh hK0
      clear hK0
      have hU1:=HU0.1 rfl
      have hU2:=HU0.2.1 rfl
      have hU3:=HU0.2.2.1 rfl
      subst hU1 hU2 hU3
      (try simp only [Act.put,zP])
      go_simp
      have hsz:=HBL.out.size
      exact hK.out _ _ ⟨true,false,false,l9,_,undef,undef,v12,wr.heap.size,0,pb,(by subst hf; simp<;>omega),rfl,(by simp only [Act.put,zP]),zh (bl_al HBL.out _),zh ⟨fun h=>(by cases h),fun h=>(by cases h),fun _=>⟨rfl,heap_alloc_new wr _,hsz⟩,fun h=>(by cases h),fun h=>(by cases h),fun h=>⟨(HC0.2.2.2.2.2 h).1,blk_al (HC0.2.2.2.2.2 h).2.1 _,(HC0.2.2.2.2.2 h).2.2⟩⟩,zh ⟨fun h=>(by cases h),fun _=>rfl,fun _=>rfl,HU0.2.2.2⟩⟩
     ·refine wpOp_step rfl (fun K' hK0=>?_)
      have hK:=zh hK0
      clear hK0
      have hU2:=HU0.2.1 rfl
      have hU3:=HU0.2.2.1 rfl
      obtain ⟨hv6,he,hel⟩:=HC0.2.2.1 rfl
      subst hU2 hU3 hv6
      have hbn:=bRun
      (try simp only [Act.put,zP])
      go_simp
      exact hK.out _ _ ⟨true,true,false,l9,_,_,undef,v12,eb,0,pb,(by subst hf; simp<;>omega),rfl,(by simp only [Act.put,zP]),HBL,zh ⟨fun _=>rfl,fun h=>(by cases h),fun _=>⟨rfl,he,hel⟩,fun _=>rfl,fun h=>(by cases h),HC0.2.2.2.2.2⟩,zh ⟨fun h=>(by cases h),fun h=>(by cases h),fun _=>rfl,HU0.2.2.2⟩⟩
     ·refine wpOp_step rfl (fun K' hK0=>?_)
      have hK:=zh hK0
      clear hK0
      have hU3:=HU0.2.2.1 rfl
      obtain ⟨hv6,he,hel⟩:=HC0.2.2.1 rfl
      have hv7:=HC0.2.2.2.1 rfl
      subst hU3 hv6 hv7
      (try simp only [Act.put,zP])
      go_simp
      have hsz:=HBL.out.size
      exact hK.out _ _ ⟨true,true,true,l9,_,_,_,v12,eb,wr.heap.size,pb,(by subst hf; simp<;>omega),rfl,(by simp only [Act.put,zP]),zh (bl_al HBL.out _),zh ⟨fun _=>rfl,fun _=>rfl,fun _=>⟨rfl,blk_al he _,hel⟩,fun _=>rfl,fun _=>⟨rfl,heap_alloc_new wr _,hsz⟩,fun h=>⟨(HC0.2.2.2.2.2 h).1,blk_al (HC0.2.2.2.2.2 h).2.1 _,(HC0.2.2.2.2.2 h).2.2⟩⟩,zh ⟨fun h=>(by cases h),fun h=>(by cases h),fun h=>(by cases h),HU0.2.2.2⟩⟩
     ·refine wpOp_step rfl (fun K' hK0=>?_)
      have hK:=zh hK0
      clear hK0
      have hU4:=HU0.2.2.2 rfl
      subst hU4
      (try simp only [Act.put,zP])
      go_simp
      have hsz:=HBL.out.size
      exact hK.out _ _ ⟨l6,l7,l8,true,v43,v44,v45,_,eb,rb,wr.heap.size,(by subst hf; simp<;>omega),rfl,(by simp only [Act.put,zP]),zh (bl_al HBL.out _),zh ⟨HC0.1,HC0.2.1,fun h=>⟨(HC0.2.2.1 h).1,blk_al (HC0.2.2.1 h).2.1 _,(HC0.2.2.1 h).2.2⟩,HC0.2.2.2.1,fun h=>⟨(HC0.2.2.2.2.1 h).1,blk_al (HC0.2.2.2.2.1 h).2.1 _,(HC0.2.2.2.2.1 h).2.2⟩,fun _=>⟨rfl,heap_alloc_new wr _,hsz⟩⟩,zh ⟨HU0.1,HU0.2.1,HU0.2.2.1,fun h=>(by cases h)⟩⟩
  ·have HX:=zh (show Re=(s,0,3,[]) by rw [<-HRE.out,resO,if_pos (.inr hn)])
   obtain ⟨n,hnn⟩:∃ n,chkN p=n:=⟨_,rfl⟩
   rw [hnn]
   have hng:(0:Int)<(n:Int):=by omega
   clear hn hnn
   have hSB:=blk_bl HK1.out b46
   have hRB:=blk_bl HK3.out b46
   have s0:w6.cell? ⟨W.heap.size+1,0,none⟩=some (.slice A s.cells.length c):=zc hSB rfl
   have s1:w6.cell? ⟨W.heap.size+1,1,none⟩=some (.slice B s.tin.length d):=zc hSB rfl
   have s2:w6.cell? ⟨W.heap.size+1,2,none⟩=some (.slice D s.tout.length e):=zc hSB rfl
   have HCC:=zh (HCL.out w6 (bl_tt HB4.out b46))
   have HRB:=zh hRB
   have hbq:=b46
   clear hSB hRB
   go_wp2_with fail
   refine HCC.out.mono ?_
   rintro e9 w9 ⟨v9,rfl,ho9,hb9⟩
   obtain ⟨A9,c9,B9,d9,D9,e9,rfl⟩:=ho9.slices
   have HO9:=zh ho9
   have HB9:=zh (bl_tt hbq hb9)
   have hk9:=blk_bl HRB.out hb9
   have x0:w9.cell? ⟨W.heap.size+3,0,none⟩=some (.slice none 0 0):=zc hk9 rfl
   have x1:w9.cell? ⟨W.heap.size+3,1,none⟩=some (.slice none 0 0):=zc hk9 rfl
   have x2:w9.cell? ⟨W.heap.size+3,2,none⟩=some (.slice none 0 0):=zc hk9 rfl
   have x3:w9.cell? ⟨W.heap.size+3,3,none⟩=some (.int .i64 0):=zc hk9 rfl
   have x4:w9.cell? ⟨W.heap.size+3,4,none⟩=some (.int .i64 0):=zc hk9 rfl
   have xf:∀ o,w9.frozen? ⟨W.heap.size+3,o,none⟩=false:=fun _=>zf hk9
   have HK9:=zh hk9
   have hbr:=bRes
   have hsz9:W.heap.size+4<=w6.heap.size:=by have:=hbq.size; rw [HZ4.out] at this; exact this
   clear s0 s1 s2 hk9 ho9 hb9 hbq HCC
   go_wp2_with fail
   obtain ⟨hh,hch⟩:=set5 (u0:=.slice A9 s.cells.length c9) (u1:=.slice B9 s.tin.length d9) (u2:=.slice D9 s.tout.length e9) (u3:=.int .i64 0) (u4:=.int .i64 3) HK9.out
   obtain ⟨w10,hw10⟩:∃ zz,(((((w9.setCell ⟨W.heap.size+3,0,none⟩ (.slice A9 s.cells.length c9)).setCell ⟨W.heap.size+3,1,none⟩ (.slice B9 s.tin.length d9)).setCell ⟨W.heap.size+3,2,none⟩ (.slice D9 s.tout.length e9)).setCell ⟨W.heap.size+3,3,none⟩ (.int .i64 0)).setCell ⟨W.heap.size+3,4,none⟩ (.int .i64 3))=zz:=⟨_,rfl⟩
   rw [hw10] at hh hch ⊢
   have t0:w10.cell? ⟨W.heap.size+3,0,none⟩=some (.slice A9 s.cells.length c9):=zc hh rfl
   have t1:w10.cell? ⟨W.heap.size+3,1,none⟩=some (.slice B9 s.tin.length d9):=zc hh rfl
   have t2:w10.cell? ⟨W.heap.size+3,2,none⟩=some (.slice D9 s.tout.length e9):=zc hh rfl
   have t3:w10.cell? ⟨W.heap.size+3,3,none⟩=some (.int .i64 0):=zc hh rfl
   have t4:w10.cell? ⟨W.heap.size+3,4,none⟩=some (.int .i64 3):=zc hh rfl
   refine bodyPost_ret (v:=.tuple #[.slice none 0 0,.agg #[.slice A9 s.cells.length c9,.slice B9 s.tin.length d9,.slice D9 s.tout.length e9,.int .i64 0,.int .i64 3]]) (by simp [results,Tryz.results66,go_sem,t0,t1,t2,t3,t4]) rfl ?_
   rw [HX.out]
   exact ⟨none,0,_,_,_,rfl,(HO9.out.chg hch fun b hb=>by omega).lower (by omega),fun i hi=>absurd hi (by simp),Nat.le_refl _,(bl_tt HB4.out HB9.out).trans (hch.below (bl_tt HB4.out HB9.out).size fun b hb=>by omega),HLM.out,fun h=>by first|(simp at h; done)|exact absurd h HXN.out⟩
def FwP (W:World) (R:SS×Nat×Int×List Nat) (e:Ending) (W':World):Prop:=∃ v1 v2 v3,e=.returned (.agg #[v1,v2,v3,.int .i64 (R.2.1:Int),.int .i64 R.2.2.1]) /\
 OwnS W' W.heap.size R.1 (.agg #[v1,v2,v3])/\Below W.heap.size W W'/\LimR R
theorem Forward_any (p:PG) (s:SS) (F:Int) (g:Nat) (v sv:Value) (W:World) (hp:PV W Any p v) (hs:SV W Any s sv) (hcl:s.cells.length<=5864062014800) (hF:I64 F) (hF6:F<=1000000) (hg:F.toNat*2000+2000<=g) :
  Calls Tryz.prog 25 #[v,sv,.int .i64 F] W (FwP W (resO p s F g false)):=by
 have HPX:=zh hp
 have HSX:=zh hs
 obtain ⟨A1,c1,A2,c2,A3,c3,rfl,hpg⟩:=hp
 obtain ⟨A,c,B,d,D,e,rfl,hr1,hr2,hr3,hc1,hc2,hc3,hl1,hl2,hl3,hl4⟩:=hs
 have HST:=zh (fun w' (hb:Below W.heap.size W w')=>start_any p s F g false _ _ w' (HPX.out.later hb) (HSX.out.later hb) hcl hF hF6 hg)
 have hb3:=bl_al (bl_al (bl_al (Below.refl W.heap.size W) (.cells #[.slice A1 p.vs.length c1,.slice A2 p.prs.length c2,.int .u8 p.m.k,.int .i64 p.m.n,.string p.m.s,.slice A3 p.m.ks.length c3] 35)) (.cells #[.slice A s.cells.length c,.slice B s.tin.length d,.slice D s.tout.length e] 26)) (.cells #[.slice none 0 0,.slice none 0 0,.slice none 0 0,.int .i64 0,.int .i64 0] 50)
 have k2:=heap_alloc_new ((W.alloc (.cells #[.slice A1 p.vs.length c1,.slice A2 p.prs.length c2,.int .u8 p.m.k,.int .i64 p.m.n,.string p.m.s,.slice A3 p.m.ks.length c3] 35)).alloc (.cells #[.slice A s.cells.length c,.slice B s.tin.length d,.slice D s.tout.length e] 26)) (.cells #[.slice none 0 0,.slice none 0 0,.slice none 0 0,.int .i64 0,.int .i64 0] 50)
 simp only [World.size_alloc] at k2
 obtain ⟨Re,hRe⟩:∃ R,resO p s F g false=R:=⟨_,rfl⟩
 rw [hRe] at HST
 have HR:=zh hRe
 have HB3:=zh hb3
 have HK2:=zh k2
 have hz3:W.heap.size+3<=(((W.alloc (.cells #[.slice A1 p.vs.length c1,.slice A2 p.prs.length c2,.int .u8 p.m.k,.int .i64 p.m.n,.string p.m.s,.slice A3 p.m.ks.length c3] 35)).alloc (.cells #[.slice A s.cells.length c,.slice B s.tin.length d,.slice D s.tout.length e] 26)).alloc (.cells #[.slice none 0 0,.slice none 0 0,.slice none 0 0,.int .i64 0,.int .i64 0] 50)).heap.size:=by simp
 rw [hRe]
 clear hpg hr1 hr2 hr3 hRe hb3 k2 hl1 hl2 hl3 hl4 hc1 hc2 hc3
 go_enter Tryz.func25,Tryz.ntmps25
 go_wp2_with fail
 refine (HST.out _ HB3.out).mono ?_
 rintro e9 w9 ⟨A9,c9,v1,v2,v3,rfl,ho9,-,-,hb9,hlm9⟩
 have HLM:=zh hlm9
 clear hlm9
 obtain ⟨A4,c4,B5,d5,D6,e6,h6⟩:=ho9.slices
 injection h6 with h6
 injection h6 with h6
 injection h6 with h6 h7
 injection h7 with h7 h8
 injection h8 with h8 _
 subst h6 h7 h8
 have HO9:=zh ho9
 have HB9:=zh hb9
 have hk9:=blk_bl HK2.out hb9
 have x0:w9.cell? ⟨W.heap.size+1+1,0,none⟩=some (.slice none 0 0):=zc hk9 rfl
 have x1:w9.cell? ⟨W.heap.size+1+1,1,none⟩=some (.slice none 0 0):=zc hk9 rfl
 have x2:w9.cell? ⟨W.heap.size+1+1,2,none⟩=some (.slice none 0 0):=zc hk9 rfl
 have x3:w9.cell? ⟨W.heap.size+1+1,3,none⟩=some (.int .i64 0):=zc hk9 rfl
 have x4:w9.cell? ⟨W.heap.size+1+1,4,none⟩=some (.int .i64 0):=zc hk9 rfl
 have xf:∀ o,w9.frozen? ⟨W.heap.size+1+1,o,none⟩=false:=fun _=>zf hk9
 have y0:=fun o=>cell_al x0 o
 have y1:=fun o=>cell_al x1 o
 have y2:=fun o=>cell_al x2 o
 have y3:=fun o=>cell_al x3 o
 have y4:=fun o=>cell_al x4 o
 have hlt9:W.heap.size+1+1<w9.heap.size:=blk_lt hk9
 have HK9:=zh hk9
 clear ho9 hb9 hk9
 go_wp2_with fail
 obtain ⟨hh,hch⟩:=set5 (u0:=.slice A4 Re.1.cells.length c4) (u1:=.slice B5 Re.1.tin.length d5) (u2:=.slice D6 Re.1.tout.length e6) (u3:=.int .i64 (Re.2.1:Int)) (u4:=.int .i64 Re.2.2.1) HK9.out
 obtain ⟨w10,hw10⟩:∃ zz,(((((w9.setCell ⟨W.heap.size+1+1,0,none⟩ (.slice A4 Re.1.cells.length c4)).setCell ⟨W.heap.size+1+1,1,none⟩ (.slice B5 Re.1.tin.length d5)).setCell ⟨W.heap.size+1+1,2,none⟩ (.slice D6 Re.1.tout.length e6)).setCell ⟨W.heap.size+1+1,3,none⟩ (.int .i64 (Re.2.1:Int))).setCell ⟨W.heap.size+1+1,4,none⟩ (.int .i64 Re.2.2.1))=zz:=⟨_,rfl⟩
 rw [hw10] at hh hch ⊢
 obtain ⟨w11,hw11⟩:∃ zz,w10.alloc (.cells #[.slice A4 Re.1.cells.length c4,.slice B5 Re.1.tin.length d5,.slice D6 Re.1.tout.length e6,.int .i64 (Re.2.1:Int),.int .i64 Re.2.2.1] 50)=zz:=⟨_,rfl⟩
 rw [hw11]
 have t0:w11.cell? ⟨W.heap.size+1+1,0,none⟩=some (.slice A4 Re.1.cells.length c4):=hw11▸cell_al (zc hh rfl) _
 have t1:w11.cell? ⟨W.heap.size+1+1,1,none⟩=some (.slice B5 Re.1.tin.length d5):=hw11▸cell_al (zc hh rfl) _
 have t2:w11.cell? ⟨W.heap.size+1+1,2,none⟩=some (.slice D6 Re.1.tout.length e6):=hw11▸cell_al (zc hh rfl) _
 have t3:w11.cell? ⟨W.heap.size+1+1,3,none⟩=some (.int .i64 (Re.2.1:Int)):=hw11▸cell_al (zc hh rfl) _
 have t4:w11.cell? ⟨W.heap.size+1+1,4,none⟩=some (.int .i64 Re.2.2.1):=hw11▸cell_al (zc hh rfl) _
 refine bodyPost_ret (v:=.agg #[.slice A4 Re.1.cells.length c4,.slice B5 Re.1.tin.length d5,.slice D6 Re.1.tout.length e6,.int .i64 (Re.2.1:Int),.int .i64 Re.2.2.1]) (by simp [results,Tryz.results25,go_sem,t0,t1,t2,t3,t4]) rfl ?_
 have hz33:=hz3
 have hb39:Below W.heap.size W w9:=bl_tt HB3.out HB9.out
 have hc11:Chg (fun b=>b=W.heap.size+1+1) w9 w11:=hw11▸hch.alloc _
 have ho11:=HO9.out.chg hc11 fun b hb=>by omega
 have hb11:=hb39.trans (hc11.below hb39.size fun b hb=>by omega)
 exact ⟨_,_,_,rfl,ho11.lower (by omega),hb11,HLM.out⟩
def Fl (F':Int) (n:Nat) (o o':Out):Prop:=∀ r',o=.ok r'->n<=r'.n/\((r'.n:Int)<=F'\/r'.n=n->o'=.ok r')/\(F'<(r'.n:Int)->n<r'.n->o'=.err 18)
theorem Fl.bind {F':Int} {n:Nat} {o o':Out} {f f':RS->Out} (h:Fl F' n o o') (hf:∀ r,n<=r.n->Fl F' r.n (f r) (f' r)):Fl F' n (o.bind f) (o'.bind f'):=by
 intro r2 e
 cases o with
 | gas=>cases e
 | err x=>cases e
 | ok r1 =>
  obtain ⟨h1,h2,h3⟩:=h r1 rfl
  obtain ⟨g1,g2,g3⟩:=hf r1 h1 r2 e
  refine ⟨by omega,fun hc=>?_,fun a b=>?_⟩
  ·rw [h2 (by omega)]; exact g2 (by omega)
  ·by_cases hc:(r1.n:Int)<=F'\/r1.n=n
   ·rw [h2 hc]; exact g3 a (by omega)
   ·rw [h3 (by omega) (by omega)]; rfl
theorem Fl.err {F':Int} {n:Nat} {x:Int} {o':Out}:Fl F' n (.err x) o':=fun _ e=>by cases e
theorem Fl.gas {F':Int} {n:Nat} {o':Out}:Fl F' n .gas o':=fun _ e=>by cases e
theorem Fl.same {F':Int} {r:RS}:Fl F' r.n (.ok r) (.ok r):=fun r' e=>by
 injection e with e
 subst e
 exact ⟨Nat.le_refl _,fun _=>rfl,fun _ h=>absurd h (Nat.lt_irrefl _)⟩
theorem Fl.step (F F':Int) (r:RS):Fl F' r.n (stepO F r) (stepO F' r):=fun r' e=>by
 obtain ⟨rfl,-⟩:=stepO_ok e
 refine ⟨by simp only; omega,fun h=>?_,fun h _=>?_⟩
 ·unfold stepO; rw [if_neg (by simp only at h; omega)]
 ·unfold stepO; rw [if_pos (by simp only at h; omega)]
theorem Fl.store {F':Int} {r:RS} (R:Int×ST):Fl F' r.n (storeO r R) (storeO r R):=by
 unfold storeO
 split
 ·exact Fl.err
 ·intro r' e
  injection e with e
  subst e
  exact ⟨Nat.le_refl _,fun _=>rfl,fun _ h=>absurd h (Nat.lt_irrefl _)⟩
theorem Fl.val {F':Int} {n:Nat} {t:T} {r:RS} {f f':Int->RS->Out} (h:∀ x,Fl F' n (f x r) (f' x r)):Fl F' n (valO t r f) (valO t r f'):=by
 unfold valO
 split
 ·exact Fl.err
 ·exact h _
theorem Fl.holds {F F':Int} {t:T} {r:RS} {f f':Bool->RS->Out} (h:∀ b r1,r.n<=r1.n->Fl F' r1.n (f b r1) (f' b r1)):Fl F' r.n (holdsO F t r f) (holdsO F' t r f'):=by
 unfold holdsO
 exact (Fl.step F F' r).bind fun r1 h1=>Fl.val fun x=>h _ _ h1
theorem Fl.assert {F F':Int} {t:T} {b:Bool} {r:RS}:Fl F' r.n (assertO F t b r) (assertO F' t b r):=by
 unfold assertO
 refine Fl.holds fun b1 r1 _=>?_
 split
 ·exact Fl.same
 ·exact Fl.err
theorem Fl.body {F':Int} {f f':T->RS->Out}:∀ (l:List T) (r:RS),(∀ t∈l,∀ r',Fl F' r'.n (f t r') (f' t r'))->Fl F' r.n (bodyO f l r) (bodyO f' l r)
 | [],r,_=>Fl.same
 | t::ts,r,h=>by
  rw [bodyO,bodyO]
  exact (h t (List.mem_cons_self ..) r).bind fun r1 _=>Fl.body ts r1 fun u hu r'=>h u (List.mem_cons_of_mem _ hu) r'
theorem Fl.loop {F F':Int} {f f':T->RS->Out} {entry test:T} {l1 l2:List T} (h1:∀ t∈l1,∀ r',Fl F' r'.n (f t r') (f' t r')) (h2:∀ t∈l2,∀ r',Fl F' r'.n (f t r') (f' t r')):∀ (m:Nat) (r:RS),Fl F' r.n (loopO F f entry test l1 l2 m r) (loopO F' f' entry test l1 l2 m r)
 | 0,r=>Fl.gas
 | m+1,r=>by
  rw [loopO,loopO]
  refine (Fl.body l1 r h1).bind fun r1 _=>Fl.holds fun b r2 _=>?_
  split
  ·exact Fl.same
  ·exact (Fl.body l2 r2 h2).bind fun r3 _=>Fl.assert.bind fun r4 _=>Fl.loop h1 h2 m r4
theorem execO_fuel {prs:List PR} {F F':Int}:∀ (g:Nat) (back:Bool) (t:T) (r:RS),Fl F' r.n (execO prs F g back t r) (execO prs F' g back t r)
 | 0,_,_,_=>Fl.gas
 | g+1,back,t,r=>by
  have hb:∀ back (l:List T) r1,Fl F' r1.n (bodyO (execO prs F g back) l r1) (bodyO (execO prs F' g back) l r1):=fun back l r1=>Fl.body l r1 fun u _ r'=>execO_fuel g back u r'
  rw [execO,execO]
  split
  ·exact Fl.holds fun yes r1 _=>(hb _ _ r1).bind fun r2 _=>Fl.assert
  ·split
   ·exact Fl.assert.bind fun r1 _=>Fl.loop (fun u _ r'=>execO_fuel g back u r') (fun u _ r'=>execO_fuel g back u r') g r1
   ·split
    ·refine (Fl.step F F' r).bind fun r1 _=>Fl.val fun x=>(Fl.store _).bind fun r2 _=>(hb _ _ r2).bind fun r3 _=>(Fl.step F F' r3).bind fun r4 _=>Fl.val fun x=>Fl.store _
    ·split
     ·exact (Fl.step F F' r).bind fun r1 _=>(Fl.store _).bind fun r2 _=>(hb _ _ r2).bind fun r3 _=>(Fl.step F F' r3).bind fun r4 _=>Fl.store _
     ·split
      ·split
       ·exact Fl.err
       ·exact (Fl.step F F' r).bind fun r1 _=>(Fl.store _).bind fun r2 _=>Fl.bind (hb _ _ { r2 with ent:=_ }) fun r3 _=>(Fl.step F F' r3).bind fun r4 _=>Fl.store _
      ·exact (Fl.step F F' r).bind fun r1 _=>Fl.store _
theorem runO_fuel {prs:List PR} {F F':Int} (g:Nat) (back:Bool) (b:T) (r:RS):Fl F' r.n (runO prs F g back b r) (runO prs F' g back b r):=Fl.body _ _ fun u _ r'=>execO_fuel g back u r'
theorem resO_ok {p:PG} {s:SS} {F:Int} {g:Nat} {back:Bool} (hg:F.toNat*2000+2000<=g) (h:(resO p s F g back).2.2.1=0) :
  validB p=true/\chkN p=0/\fitB p.vs s=true/\∃ r,runO p.prs F g back p.m ⟨newS p.vs s,0,List.replicate p.prs.length 0⟩=.ok r/\resO p s F g back=(r.S.state,r.n,0,r.ent):=by
 unfold resO at h ⊢
 split at h
 ·simp at h
 ·rename_i h1
  rw [if_neg h1]
  simp only [not_or,Bool.not_eq_false,Decidable.not_not] at h1
  split at h
  ·simp at h
  ·rename_i h2
   rw [if_neg h2]
   simp only [Bool.not_eq_false] at h2
   refine ⟨h1.1,by simpa using h1.2,h2,?_⟩
   have hz:Nz (runO p.prs F g back p.m ⟨newS p.vs s,0,List.replicate p.prs.length 0⟩):=runO_nz GP_GC (GP_main h1.1 (by simpa using h1.2))
   have hg0:=(run_good (F:=F) (g:=g) h1.1 hg back (newS p.vs s) (List.replicate p.prs.length 0)).1
   cases ho:runO p.prs F g back p.m ⟨newS p.vs s,0,List.replicate p.prs.length 0⟩ with
   | gas=>exact absurd ho hg0
   | err e =>
    rw [ho] at h hz
    simp only [outR] at h
    rw [h] at hz
    exact absurd rfl hz
   | ok r=>exact ⟨r,rfl,rfl⟩
theorem resO_run {p:PG} {s:SS} {F:Int} {g:Nat} {back:Bool} (h1:validB p=true) (h2:chkN p=0) (h3:fitB p.vs s=true) :
  resO p s F g back=outR s (runO p.prs F g back p.m ⟨newS p.vs s,0,List.replicate p.prs.length 0⟩):=by
 unfold resO
 rw [if_neg (by rw [h1,h2]; simp),if_neg (by rw [h3]; simp)]
theorem fuel_law {p:PG} {s:SS} {F:Int} {g:Nat} {back:Bool} (hg:F.toNat*2000+2000<=g) (h:(resO p s F g back).2.2.1=0) :
  ((resO p s F g back).2.1:Int)<=max F 0/\(∀ F':Int,((resO p s F g back).2.1:Int)<=F'->resO p s F' g back=resO p s F g back) /\
   ∀ F':Int,F'<((resO p s F g back).2.1:Int)->0<(resO p s F g back).2.1->(resO p s F' g back).2.2.1=18:=by
 obtain ⟨h1,h2,h3,r,hr,he⟩:=resO_ok hg h
 rw [he]
 simp only
 have key:=fun F'=>runO_fuel (prs:=p.prs) (F:=F) (F':=F') g back p.m ⟨newS p.vs s,0,List.replicate p.prs.length 0⟩ r hr
 refine ⟨?_,fun F' hF=>?_,fun F' hF h0=>?_⟩
 ·rcases Int.lt_or_le (max F 0) (r.n:Int) with hlt|hle
  ·have:=(key F).2.2 (by omega) (by simp only; omega)
   rw [hr] at this
   cases this
  ·exact hle
 ·rw [resO_run h1 h2 h3,(key F').2.1 (.inl hF)]; rfl
 ·rw [resO_run h1 h2 h3,(key F').2.2 hF h0]; rfl
theorem EvR.lower {w:World} {n0 n1:Nat} {O O':Nat->Prop} {v:Value} {es:List (List CH)} (h:EvR w n0 O v es) (hn:n1<=n0) (hO:∀ b,O b->O' b):EvR w n1 O' v es:=by
 obtain ⟨xs,h1,h2,h3⟩:=h
 refine ⟨xs,own_lower h1 hn,fun b hb=>hO b (h2 b hb),fun i hi=>?_⟩
 obtain ⟨A,c,f1,f2,f3⟩:=h3 i hi
 exact ⟨A,c,f1,f2,f3.keep (fun b hb _=>⟨hO b hb.1,hb.2⟩) fun b hb _=>rfl⟩
theorem bTrc (A1 A2 A3 AX BX DX:Option Addr) (l1 c1 l2 c2 l3 c3 x1 cX x2 dX x3 gX:Nat) (k n:Int) (s:ByteArray) (sb:Nat) (w:World):(Instr.build 119 #[(0,.agg #[.slice A1 l1 c1,.slice A2 l2 c2,.int .u8 k,.int .i64 n,.string s,.slice A3 l3 c3]),(1,.pointer (some ⟨sb,0,none⟩)),(2,.agg #[.slice AX x1 cX,.slice BX x2 dX,.slice DX x3 gX])]).run Tryz.prog w =
  .ok (.agg #[.slice A1 l1 c1,.slice A2 l2 c2,.int .u8 k,.int .i64 n,.string s,.slice A3 l3 c3,.pointer (some ⟨sb,0,none⟩),.slice AX x1 cX,.slice BX x2 dX,.slice DX x3 gX,.slice none 0 0]) w:=by kernel_rfl
def OfP (W:World) (p:PG) (s:SS) (R:SS×Nat×Int×List Nat) (e:Ending) (W':World):Prop:=Below W.heap.size W W' /\
 ((R.2.2.1≠0/\e=.returned (.tuple #[.slice none 0 0,.int .i64 R.2.2.1])) \/
  (R.2.2.1=0/\∃ (S':ST) (L:List SS) (ev:Value),Tg p.prs (.blk false (blkL false p.m)) (newS p.vs s) L S'/\S'.state=R.1/\R.2.1=L.length/\fitB p.vs s=true/\e=.returned (.tuple #[ev,.int .i64 0])/\EvR W' W.heap.size (fun b=>W.heap.size<=b) ev (evsE s L)/\L.length<=900000))
theorem Of_any (p:PG) (s:SS) (F:Int) (g:Nat) (v sv:Value) (W:World) (hp:PV W Any p v) (hs:SV W Any s sv) (hcl:s.cells.length<=5864062014800) (hF:I64 F) (hF6:F<=900000) (hg:F.toNat*2000+2000<=g) :
  Calls Tryz.prog 24 #[v,sv,.int .i64 F] W (OfP W p s (resO p s F g false)):=by
 have HP:=zh hp
 have HS:=zh hs
 obtain ⟨A1,c1,A2,c2,A3,c3,rfl,hpg⟩:=hp
 obtain ⟨A,c,B,d,D,e,rfl,hr1,hr2,hr3,hc1,hc2,hc3,hl1,hl2,hl3,hl4⟩:=hs
 have HPG:=zh hpg
 have HFW:=zh (fun w' (hb:Below W.heap.size W w')=>Forward_any p s F g _ _ w' (HP.out.later hb) (HS.out.later hb) hcl hF (by omega) hg)
 have HNW:=zh (fun w' (hb:Below W.heap.size W w')=>New_any p.vs s A1 c1 _ w' (HPG.out.vars.later hb) HPG.out.lv (HS.out.later hb))
 have HOK:=zh (fun h=>resO_ok (p:=p) (s:=s) (F:=F) (g:=g) (back:=false) hg h)
 have HFL:=zh (fun h=>fuel_law (p:=p) (s:=s) (F:=F) (g:=g) (back:=false) hg h)
 obtain ⟨R,hR⟩:∃ R,resO p s F g false=R:=⟨_,rfl⟩
 rw [hR] at HFW HOK HFL
 rw [hR]
 have hb2:=bl_al (bl_al (Below.refl W.heap.size W) (.cells #[.slice A1 p.vs.length c1,.slice A2 p.prs.length c2,.int .u8 p.m.k,.int .i64 p.m.n,.string p.m.s,.slice A3 p.m.ks.length c3] 35)) (.cells #[.slice A s.cells.length c,.slice B s.tin.length d,.slice D s.tout.length e] 26)
 have k0:=blk_al (heap_alloc_new W (.cells #[.slice A1 p.vs.length c1,.slice A2 p.prs.length c2,.int .u8 p.m.k,.int .i64 p.m.n,.string p.m.s,.slice A3 p.m.ks.length c3] 35)) (.cells #[.slice A s.cells.length c,.slice B s.tin.length d,.slice D s.tout.length e] 26)
 have k1:=heap_alloc_new (W.alloc (.cells #[.slice A1 p.vs.length c1,.slice A2 p.prs.length c2,.int .u8 p.m.k,.int .i64 p.m.n,.string p.m.s,.slice A3 p.m.ks.length c3] 35)) (.cells #[.slice A s.cells.length c,.slice B s.tin.length d,.slice D s.tout.length e] 26)
 rw [World.size_alloc] at k1
 obtain ⟨w2,hw2⟩:∃ x,(W.alloc (.cells #[.slice A1 p.vs.length c1,.slice A2 p.prs.length c2,.int .u8 p.m.k,.int .i64 p.m.n,.string p.m.s,.slice A3 p.m.ks.length c3] 35)).alloc (.cells #[.slice A s.cells.length c,.slice B s.tin.length d,.slice D s.tout.length e] 26)=x:=⟨_,rfl⟩
 rw [hw2] at hb2 k0 k1
 have HB2:=zh hb2
 have K0:=zh k0
 have K1:=zh k1
 have p0:w2.cell? ⟨W.heap.size,0,none⟩=some (.slice A1 p.vs.length c1):=zc k0 rfl
 have p1:w2.cell? ⟨W.heap.size,1,none⟩=some (.slice A2 p.prs.length c2):=zc k0 rfl
 have p2:w2.cell? ⟨W.heap.size,2,none⟩=some (.int .u8 p.m.k):=zc k0 rfl
 have p3:w2.cell? ⟨W.heap.size,3,none⟩=some (.int .i64 p.m.n):=zc k0 rfl
 have p4:w2.cell? ⟨W.heap.size,4,none⟩=some (.string p.m.s):=zc k0 rfl
 have p5:w2.cell? ⟨W.heap.size,5,none⟩=some (.slice A3 p.m.ks.length c3):=zc k0 rfl
 have s0:w2.cell? ⟨W.heap.size+1,0,none⟩=some (.slice A s.cells.length c):=zc k1 rfl
 have s1:w2.cell? ⟨W.heap.size+1,1,none⟩=some (.slice B s.tin.length d):=zc k1 rfl
 have s2:w2.cell? ⟨W.heap.size+1,2,none⟩=some (.slice D s.tout.length e):=zc k1 rfl
 clear hpg hr1 hr2 hr3 hR hb2 k0 k1 hl1 hl2 hl3 hl4 hc1 hc2 hc3
 go_enter Tryz.func24,Tryz.ntmps24
 go_wp2_with fail
 (try rw [hw2])
 refine (HFW.out w2 HB2.out).mono ?_
 rintro e3 w3 ⟨v1,v2,v3,rfl,ho3,hb3,hlm3⟩
 obtain ⟨A5,c5,B5,d5,D5,g5,h6⟩:=ho3.slices
 injection h6 with h6
 injection h6 with h6
 injection h6 with h6 h7
 injection h7 with h7 h8
 injection h8 with h8 _
 subst h6 h7 h8
 have hb4:=bl_al hb3 (.cells #[.slice A5 R.1.cells.length c5,.slice B5 R.1.tin.length d5,.slice D5 R.1.tout.length g5,.int .i64 (R.2.1:Int),.int .i64 R.2.2.1] 50)
 have k2:=heap_alloc_new w3 (.cells #[.slice A5 R.1.cells.length c5,.slice B5 R.1.tin.length d5,.slice D5 R.1.tout.length g5,.int .i64 (R.2.1:Int),.int .i64 R.2.2.1] 50)
 obtain ⟨w4,hw4⟩:∃ x,w3.alloc (.cells #[.slice A5 R.1.cells.length c5,.slice B5 R.1.tin.length d5,.slice D5 R.1.tout.length g5,.int .i64 (R.2.1:Int),.int .i64 R.2.2.1] 50)=x:=⟨_,rfl⟩
 obtain ⟨rb,hrb⟩:∃ x,w3.heap.size=x:=⟨_,rfl⟩
 rw [hw4] at hb4 k2
 rw [hrb] at k2
 have HB4:=zh hb4
 have K2:=zh k2
 clear p0 p1 p2 p3 p4 p5 s0 s1 s2 hw2 ho3 hlm3 hb3 hb4
 go_upto_region 2 with fail
 (try rw [hw4])
 (try rw [hrb])
 clear hw4 hrb
 have y2:w4.cell? ⟨rb,4,none⟩=some (.int .i64 R.2.2.1):=zc k2 rfl
 clear k2
 have HB24:=zh (bl_tt HB2.out HB4.out)
 by_cases he:R.2.2.1≠0
 ·have e1:(R.2.2.1 != 0)=true:=by simpa using he
  clear HOK HFL HNW HFW
  go_upto_region 3 with fail
  go_quiet (fail)
  go_wp2_with fail
  go_ret2
  exact ⟨bl_tt HB24.out (drewN_below (Below.refl _ _) nq),.inl ⟨he,rfl⟩⟩
 ·have he:=Decidable.not_not.1 he
  obtain ⟨S0,n0,e0,l0⟩:=R
  change e0=0 at he
  subst he
  obtain ⟨hvb,hch,hft,r,hrun,hres⟩:=HOK.out rfl
  simp only [Prod.mk.injEq] at hres
  obtain ⟨rfl,rfl,-,rfl⟩:=hres
  have hfl:(r.n:Int)<=max F 0:=(HFL.out rfl).1
  obtain ⟨L,htg,hn⟩:=runO_tg hrun
  simp only [Nat.zero_add] at hn
  have hLL:L.length<=900000:=by omega
  have HTG:=zh htg
  have HN:=zh hn
  have HV:=zh hvb
  have HC:=zh hch
  have HFT:=zh hft
  have HLL:=zh hLL
  have k0:=blk_bl K0.out HB4.out
  have k1:=blk_bl K1.out HB4.out
  have p0:w4.cell? ⟨W.heap.size,0,none⟩=some (.slice A1 p.vs.length c1):=zc k0 rfl
  have s0:w4.cell? ⟨W.heap.size+1,0,none⟩=some (.slice A s.cells.length c):=zc k1 rfl
  have s1:w4.cell? ⟨W.heap.size+1,1,none⟩=some (.slice B s.tin.length d):=zc k1 rfl
  have s2:w4.cell? ⟨W.heap.size+1,2,none⟩=some (.slice D s.tout.length e):=zc k1 rfl
  clear htg hn hvb hch hft hLL k0 k1 HOK HFL hrun hfl HFW
  go_wp2_with fail
  refine (HNW.out w4 HB24.out).mono ?_
  rintro e7 w7 ⟨b7,⟨hfit,rfl⟩|⟨hfit,P,rfl,hsr⟩⟩
  ·have:=HFT.out
   rw [hfit] at this
   cases this
  have HSR:=zh hsr
  have HB7:=zh b7
  have HB27:=zh (bl_tt HB4.out b7)
  have HW7:=zh (bl_tt HB24.out b7)
  clear p0 s0 s1 s2 hfit hsr y2 HNW
  go_upto_region 7 with fail
  have HSS:=zh (show ∀ w',Below w7.heap.size w7 w'->(fun w':World=>w'.cell? ⟨W.heap.size,0,none⟩=some (.slice A1 p.vs.length c1)/\w'.cell? ⟨W.heap.size,1,none⟩=some (.slice A2 p.prs.length c2)/\w'.cell? ⟨W.heap.size,2,none⟩=some (.int .u8 p.m.k)/\w'.cell? ⟨W.heap.size,3,none⟩=some (.int .i64 p.m.n)/\w'.cell? ⟨W.heap.size,4,none⟩=some (.string p.m.s)/\w'.cell? ⟨W.heap.size,5,none⟩=some (.slice A3 p.m.ks.length c3)) w' from fun w' hb=>by
   have k0:=blk_bl (blk_bl K0.out HB27.out) hb
   exact ⟨zc k0 rfl,zc k0 rfl,zc k0 rfl,zc k0 rfl,zc k0 rfl,zc k0 rfl⟩)
  have hSS:(fun w':World=>w'.cell? ⟨W.heap.size,0,none⟩=some (.slice A1 p.vs.length c1)/\w'.cell? ⟨W.heap.size,1,none⟩=some (.slice A2 p.prs.length c2)/\w'.cell? ⟨W.heap.size,2,none⟩=some (.int .u8 p.m.k)/\w'.cell? ⟨W.heap.size,3,none⟩=some (.int .i64 p.m.n)/\w'.cell? ⟨W.heap.size,4,none⟩=some (.string p.m.s)/\w'.cell? ⟨W.heap.size,5,none⟩=some (.slice A3 p.m.ks.length c3)) w7.drew/\(fun _:World=>True) w7.drew:=⟨HSS.out _ (Below.refl _ _).drew,trivial⟩
  refine wp_region_noPanic ?_
  refine wp_region_G (fun w':World=>w'.cell? ⟨W.heap.size,0,none⟩=some (.slice A1 p.vs.length c1)/\w'.cell? ⟨W.heap.size,1,none⟩=some (.slice A2 p.prs.length c2)/\w'.cell? ⟨W.heap.size,2,none⟩=some (.int .u8 p.m.k)/\w'.cell? ⟨W.heap.size,3,none⟩=some (.int .i64 p.m.n)/\w'.cell? ⟨W.heap.size,4,none⟩=some (.string p.m.s)/\w'.cell? ⟨W.heap.size,5,none⟩=some (.slice A3 p.m.ks.length c3)) (fun _:World=>True) 4 (by kernel_rfl) ?_
  refine zT 0 hSS ?_
  (try simp only [Act.put,zP])
  refine zT 1 hSS ?_
  (try simp only [Act.put,zP])
  refine zT 2 hSS ?_
  (try simp only [Act.put,zP])
  have hks:=KS.new HB24.out b7 HSR.out
  have had:Calls Tryz.prog 22 [.pointer (some ⟨P.sb,0,none⟩)].toArray w7.drew fun e W'=>∃ v,e=.returned v/\(OwnS W' w7.heap.size s v/\Below w7.heap.size w7 W') :=
   ((hks.later (Below.refl _ _).drew).state).mono fun e W' ⟨v,h1,h2,h3⟩=>⟨v,h1,by rw [newS_state HFT.out] at h2; exact h2,(Below.refl _ _).drew.trans h3⟩
  clear hSS b7 hks
  refine wpG_one (i:=3) (by kernel_rfl) rfl (fun K hK=>?_)
  refine step_callG (by rfl) (.func 22) [.tmp 34] _ (by rfl) 22 _ fnStateI (by rfl) _ (by rfl) _ had ?_
  rintro v8 w8 ⟨ho8,hb8⟩
  obtain ⟨AX,cX,BX,dX,DX,gX,rfl⟩:=ho8.slices
  refine hK.out _ _ ⟨HSS.out _ hb8,trivial⟩ ?_
  have HO8:=zh ho8
  have HB8:=zh hb8
  clear hK K had ho8 hb8
  obtain ⟨x1,hx1⟩:∃ x,s.cells.length=x:=⟨_,rfl⟩
  obtain ⟨x2,hx2⟩:∃ x,s.tin.length=x:=⟨_,rfl⟩
  obtain ⟨x3,hx3⟩:∃ x,s.tout.length=x:=⟨_,rfl⟩
  rw [hx1,hx2,hx3]
  have HX1:=zh hx1
  have HX2:=zh hx2
  have HX3:=zh hx3
  clear hx1 hx2 hx3
  have hbt:=bTrc A1 A2 A3 AX BX DX p.vs.length c1 p.prs.length c2 p.m.ks.length c3 x1 cX x2 dX x3 gX p.m.k p.m.n p.m.s P.sb
  (try simp only [Act.put,zP])
  refine wpG_past (i:=4) (by kernel_rfl) rfl (by kernel_rfl) (fun K hK=>?_)
  (try simp only [zA,zB,zC])
  go_simp
  refine hK.out _ _ (HSS.out _ HB8.out) ?_
  clear hK K
  (try simp only [Act.put,zP])
  refine wpG_past (i:=5) (by kernel_rfl) rfl (by kernel_rfl) (fun K hK=>?_)
  (try simp only [zA,zB,zC])
  go_simp
  have hb9:=bl_al HB8.out (.cells #[.slice A1 p.vs.length c1,.slice A2 p.prs.length c2,.int .u8 p.m.k,.int .i64 p.m.n,.string p.m.s,.slice A3 p.m.ks.length c3,.pointer (some ⟨P.sb,0,none⟩),.slice AX x1 cX,.slice BX x2 dX,.slice DX x3 gX,.slice none 0 0] 119)
  have kt:=heap_alloc_new w8 (.cells #[.slice A1 p.vs.length c1,.slice A2 p.prs.length c2,.int .u8 p.m.k,.int .i64 p.m.n,.string p.m.s,.slice A3 p.m.ks.length c3,.pointer (some ⟨P.sb,0,none⟩),.slice AX x1 cX,.slice BX x2 dX,.slice DX x3 gX,.slice none 0 0] 119)
  obtain ⟨w9,hw9⟩:∃ x,w8.alloc (.cells #[.slice A1 p.vs.length c1,.slice A2 p.prs.length c2,.int .u8 p.m.k,.int .i64 p.m.n,.string p.m.s,.slice A3 p.m.ks.length c3,.pointer (some ⟨P.sb,0,none⟩),.slice AX x1 cX,.slice BX x2 dX,.slice DX x3 gX,.slice none 0 0] 119)=x:=⟨_,rfl⟩
  have hz9:w9.heap.size=w8.heap.size+1:=by rw [<-hw9]; simp
  have HX89:=zh (show Below w8.heap.size w8 w9 from hw9▸bl_al (Below.refl _ _) _)
  obtain ⟨tb,htb⟩:∃ x,w8.heap.size=x:=⟨_,rfl⟩
  rw [hw9] at hb9 kt ⊢
  rw [htb] at kt hz9 ⊢
  have HB9:=zh hb9
  have KT:=zh kt
  have HTB:=zh (show w7.heap.size<=tb by rw [<-htb]; exact HB8.out.size)
  refine hK.out _ _ (HSS.out _ hb9) ?_
  clear hK K hw9 hb9 kt hbt
  (try simp only [Act.put,zP])
  refine wpG_past (i:=6) (by kernel_rfl) rfl (by kernel_rfl) (fun K hK=>?_)
  (try simp only [zA,zB,zC])
  go_simp
  refine hK.out _ _ (HSS.out _ HB9.out) ?_
  clear hK K
  (try simp only [Act.put,zP])
  refine wpG_done (by kernel_rfl) ?_
  refine NoPanic.normal ?_
  obtain ⟨C,hC⟩:∃ C:TC,C=⟨W,w4.heap.size,P.sb,tb,p,A1,c1,A2,c2,A3,c3,s,fun _=>False⟩:=⟨_,rfl⟩
  obtain ⟨hvl,hpl,hpp,-,hpm⟩:=valid_bounds HV.out
  have h47:=HB7.out.size
  have h7t:=HTB.out
  have HCO:=zh (show C.Ok by
   rw [hC]
   exact ⟨HPG.out,⟨by simp only; omega,fun h=>h⟩,fun q hq=>by have:=(hpp q hq).1; omega⟩)
  have HTI:=zh (show TI C w9 (newS p.vs s) [] by
   have hks:=(KS.new HB24.out HB7.out HSR.out).also HB9.out (kb':=fun b=>False\/b=tb\/(w7.heap.size<=b/\b<tb)) (fun b hb=>.inr (by
    rcases hb with hb|rfl|hb
    ·exact hb.elim
    ·exact ⟨h7t,by rw [hz9]; omega⟩
    ·exact ⟨hb.1,by rw [hz9]; omega⟩))
   have hfb:FB 0 (newS p.vs s):=⟨by simp only [newS]; omega,fun f hf=>by simp [newS] at hf⟩
   have hsm:s.Sm:=by
    have:=st_sm hks.wf hfb (by omega)
    rw [newS_state HFT.out] at this
    exact this
   rw [hC]
   refine ⟨⟨fun b=>w7.heap.size<=b/\b<tb,.slice AX x1 cX,.slice BX x2 dX,.slice DX x3 gX,.slice none 0 0,hks,fun b hb=>⟨by simp only; omega,fun h=>h,by simp only; omega⟩,KT.out,?_,⟨[],World.ownsRow_nil _ _ _ _,fun b hb=>(by cases hb),fun i hi=>(by cases hi)⟩,hsm,by simp⟩,hfb⟩
   have:=(HO8.out.svR hsm.lim)
   rw [HX1.out,HX2.out,HX3.out] at this
   exact this.keep (fun b hb hlt=>⟨⟨hb,by rw [<-htb]; exact hlt⟩,fun e=>(by cases e)⟩) fun b hb hlt=>HX89.out.block b hlt)
  have HBK:=zh (tblock_any (G:=fun q t=>q=p.prs/\GP q t) HCO.out HTI.out p.m (nv p.m.k p.m.n p.m.s A3 p.m.ks.length c3) false (tr_all GP_GC HTG.out) (by simpa using HLL.out) (by rw [hC]; exact HPG.out.main) (by rw [hC]; exact fun u hu=>⟨rfl,GP_main HV.out HC.out u hu⟩))
  rw [show C.tb=tb by rw [hC]] at HBK
  have q2:w9.cell? ⟨W.heap.size,2,none⟩=some (.int .u8 p.m.k):=zc (blk_bl (blk_bl K0.out HB27.out) HB9.out) rfl
  have q3:w9.cell? ⟨W.heap.size,3,none⟩=some (.int .i64 p.m.n):=zc (blk_bl (blk_bl K0.out HB27.out) HB9.out) rfl
  have q4:w9.cell? ⟨W.heap.size,4,none⟩=some (.string p.m.s):=zc (blk_bl (blk_bl K0.out HB27.out) HB9.out) rfl
  have q5:w9.cell? ⟨W.heap.size,5,none⟩=some (.slice A3 p.m.ks.length c3):=zc (blk_bl (blk_bl K0.out HB27.out) HB9.out) rfl
  have HCC:=zh hC
  clear hvl hpl hpp hpm h47 hC htb HTI HCO HSS
  go_wp2_with fail
  refine HBK.out.mono ?_
  rintro e10 w10 ⟨rfl,hk10,hb10,hr10⟩
  clear q2 q3 q4 q5 HBK hk10
  rw [HCC.out] at hb10 hr10
  simp only [List.nil_append] at hr10
  obtain ⟨⟨O,y1,y2,y3,ev,-,hO,hT,-,hE,-,-⟩,-⟩:=hr10
  have z10:w10.cell? ⟨tb,10,none⟩=some ev:=zc hT rfl
  have HE:=zh (hE.lower (n1:=W.heap.size) (O':=fun b=>W.heap.size<=b) (by simp only; have:=HB24.out.size; omega) (fun b hb=>by have:=(hO b hb).1; simp only at this; have:=HB24.out.size; omega))
  have HB10:=zh (show Below W.heap.size W w10 from hb10)
  clear hO hT hE hb10
  go_wp2_with fail
  go_ret2
  exact ⟨HB10.out,.inr ⟨rfl,_,L,ev,HTG.out,rfl,by simp only; exact HN.out,HFT.out,rfl,HE.out,HLL.out⟩⟩
def xTt:T:=.nd 2 0 ⟨#[120]⟩ []
def oTt:T:=.nd 1 1 ⟨#[]⟩ []
def plTt:T:=.nd 40 0 ⟨#[]⟩ [xTt,oTt]
def miTt:T:=.nd 41 0 ⟨#[]⟩ [xTt,oTt]
def pgT:PG:=⟨[⟨⟨#[120]⟩,1,0⟩],[],.nd 57 0 ⟨#[]⟩ [plTt,miTt]⟩
theorem awT:(resO pgT ⟨[[0]],[],[]⟩ 9 20000 false).2.2.1=0:=by decide +kernel
theorem Tg.bas_inv {prs:List PR} {back:Bool} {t:T} {S S':ST} {L:List SS} (h:Tg prs (.stm back t) S L S') (hk:¬ (50<=t.k/\t.k<=55)):S'=(if back=true then undoE S t else doE S t).2/\L=[(if back=true then undoE S t else doE S t).2.state]:=by
 cases h<;>first|exact ⟨rfl,rfl⟩|(exfalso; omega)
theorem evT:evsE ⟨[[0]],[],[]⟩ ([(doE (newS pgT.vs ⟨[[0]],[],[]⟩) plTt).2.state]++([(doE (doE (newS pgT.vs ⟨[[0]],[],[]⟩) plTt).2 miTt).2.state]++[]))=[[⟨0,0,0,1⟩],[⟨0,0,1,0⟩]]:=by decide +kernel
theorem TgT {S':ST} {L:List SS} (h:Tg pgT.prs (.blk false (blkL false pgT.m)) (newS pgT.vs ⟨[[0]],[],[]⟩) L S'):evsE ⟨[[0]],[],[]⟩ L=[[⟨0,0,0,1⟩],[⟨0,0,1,0⟩]]:=by
 have h:Tg pgT.prs (.blk false [plTt,miTt]) (newS pgT.vs ⟨[[0]],[],[]⟩) L S':=h
 cases h with
 | cons h1 h2 =>
  obtain ⟨rfl,rfl⟩:=h1.bas_inv (by decide)
  cases h2 with
  | cons h3 h4 =>
   obtain ⟨rfl,rfl⟩:=h3.bas_inv (by decide)
   cases h4
   exact evT
theorem EvR.nd {w:World} {n0:Nat} {O:Nat->Prop} {v:Value} {es:List (List CH)} (h:EvR w n0 O v es) (hl:0<es.length):∃ g cap,v=.slice (some ⟨g,0,none⟩) es.length cap/\∀ i (hi:i<es.length),∃ A c,w.cell? ⟨g,i,none⟩=some (.slice A es[i].length c)/\RowC w O A es[i]:=by
 obtain ⟨xs,h1,h2,h3⟩:=h
 rcases h1.2 with ⟨e1,e2⟩|⟨g,cap,cur,e,hb,hg,-⟩
 ·omega
 ·subst e
  refine ⟨g,cap,rfl,fun i hi=>?_⟩
  obtain ⟨A,c,f1,f2,f3⟩:=h3 i hi
  refine ⟨A,c,?_,f3.keep (fun b hb _=>hb.1) fun _ _ _=>rfl⟩
  rw [h1.cellAt i (by omega)]
  exact f1
theorem leafT {W:World} {k n:Int} {s:ByteArray} (hf:Fld k n s):NV W Any (.nd k n s []) (nv k n s none 0 0):=NV.shut (ks:=[]) hf (by simp [LK]) (by simp) fun i hi=>by simp at hi
theorem fldT (k n:Int) (hk:0<=k/\k<256) (hn:I64 n):Fld k n ⟨#[]⟩:=⟨hk,hn,by decide⟩
theorem bSVwT (a0 a1 a2:Value) (w:World):(Instr.buildSlice 22 1 #[(0,.agg #[a0,a1,a2])]).run Tryz.prog w=.ok (.slice (some ⟨w.heap.size,0,none⟩) 1 1) (w.alloc (.cells #[a0,a1,a2] 83)):=by kernel_rfl
theorem bPgAT (A B:Option Addr) (l c m d:Nat) (k n:Int) (s:ByteArray) (w:World):(Instr.build 35 #[(0,.slice A l c),(2,nv k n s B m d)]).run Tryz.prog w=.ok (.agg #[.slice A l c,.slice none 0 0,.int .u8 k,.int .i64 n,.string s,.slice B m d]) w:=by kernel_rfl
theorem bII1T (A:Option Addr) (l c:Nat) (w:World):(Instr.buildSlice 23 1 #[(0,.slice A l c)]).run Tryz.prog w=.ok (.slice (some ⟨w.heap.size,0,none⟩) 1 1) (w.alloc (.cells #[.slice A l c] 24)):=by kernel_rfl
theorem bSN2T (a0 a1 a2 a3 b0 b1 b2 b3:Value) (w:World):(Instr.buildSlice 27 2 #[(0,.agg #[a0,a1,a2,a3]),(1,.agg #[b0,b1,b2,b3])]).run Tryz.prog w=.ok (.slice (some ⟨w.heap.size,0,none⟩) 2 2) (w.alloc (.cells #[a0,a1,a2,a3,b0,b1,b2,b3] 29)):=by kernel_rfl
theorem bNkT (k:Int) (A:Option Addr) (l c:Nat) (w:World):(Instr.build 29 #[(0,.int .u8 k),(3,.slice A l c)]).run Tryz.prog w=.ok (nv k 0 ⟨#[]⟩ A l c) w:=by kernel_rfl
theorem bNx (w:World):(Instr.build 29 #[(0,.int .u8 2),(2,.string ⟨#[120]⟩)]).run Tryz.prog w=.ok (nv 2 0 ⟨#[120]⟩ none 0 0) w:=by kernel_rfl
theorem bNo (w:World):(Instr.build 29 #[(0,.int .u8 1),(1,.int .i64 1)]).run Tryz.prog w=.ok (nv 1 1 ⟨#[]⟩ none 0 0) w:=by kernel_rfl
theorem bCh3 (w:World):(Instr.build 64 #[(3,.int .i64 1)]).run Tryz.prog w=.ok (.agg #[.int .i64 0,.int .i64 0,.int .i64 0,.int .i64 1]) w:=by kernel_rfl
theorem bCh2 (w:World):(Instr.build 64 #[(2,.int .i64 1)]).run Tryz.prog w=.ok (.agg #[.int .i64 0,.int .i64 0,.int .i64 1,.int .i64 0]) w:=by kernel_rfl
theorem add_z (a:Addr):a.add 0=a:=by unfold Addr.add; split<;>simp_all
theorem sv_oneT (W:World) (x:Int) (hx:I64 x):SV ((W.alloc (.cells #[.int .i64 x] 3)).alloc (.cells #[.slice (some ⟨W.heap.size,0,none⟩) 1 1] 24)) Any ⟨[[x]],[],[]⟩ (.agg #[.slice (some ⟨W.heap.size+1,0,none⟩) 1 1,.slice none 0 0,.slice none 0 0]):=by
 have k0:=blk_al (heap_alloc_new W (.cells #[.int .i64 x] 3)) (.cells #[.slice (some ⟨W.heap.size,0,none⟩) 1 1] 24)
 have k1:=heap_alloc_new (W.alloc (.cells #[.int .i64 x] 3)) (.cells #[.slice (some ⟨W.heap.size,0,none⟩) 1 1] 24)
 rw [World.size_alloc] at k1
 refine ⟨_,1,none,0,none,0,rfl,fun i hi=>?_,fun i hi=>by simp at hi,fun i hi=>by simp at hi,by simp,by simp,by simp,?_⟩
 ·have h0:i=0:=by simp at hi; exact hi
  subst h0
  exact ⟨⟨W.heap.size+1,0,none⟩,some ⟨W.heap.size,0,none⟩,1,rfl,trivial,zc k1 rfl,by simp,rowI_blk (xs:=[x]) k0 (by intro y hy; simp at hy; subst hy; exact hx)⟩
 ·exact ⟨by simp [LI],fun l hl=>by simp at hl; subst hl; simp [LI],by simp,by simp⟩
theorem pv_T (w2:World):PV ((((w2.alloc (.cells #[.string ⟨#[120]⟩,.int .u8 1,.int .i64 0] 83)).alloc (.cells #[.int .u8 2,.int .i64 0,.string ⟨#[120]⟩,.slice none 0 0,.int .u8 1,.int .i64 1,.string ⟨#[]⟩,.slice none 0 0] 29)).alloc (.cells #[.int .u8 2,.int .i64 0,.string ⟨#[120]⟩,.slice none 0 0,.int .u8 1,.int .i64 1,.string ⟨#[]⟩,.slice none 0 0] 29)).alloc (.cells #[.int .u8 40,.int .i64 0,.string ⟨#[]⟩,.slice (some ⟨w2.heap.size+1,0,none⟩) 2 2,.int .u8 41,.int .i64 0,.string ⟨#[]⟩,.slice (some ⟨w2.heap.size+1+1,0,none⟩) 2 2] 29)) Any pgT (.agg #[.slice (some ⟨w2.heap.size,0,none⟩) 1 1,.slice none 0 0,.int .u8 57,.int .i64 0,.string ⟨#[]⟩,.slice (some ⟨w2.heap.size+1+1+1,0,none⟩) 2 2]):=by
 have n1:=NV_two (w2.alloc (.cells #[.string ⟨#[120]⟩,.int .u8 1,.int .i64 0] 83)) 29 (S:=Any) trivial (fldT 40 0 (by decide) ⟨by decide,by decide⟩) (leafT (W:=w2.alloc (.cells #[.string ⟨#[120]⟩,.int .u8 1,.int .i64 0] 83)) (k:=2) (n:=0) (s:=⟨#[120]⟩) ⟨by decide,⟨by decide,by decide⟩,by decide⟩) (leafT (W:=w2.alloc (.cells #[.string ⟨#[120]⟩,.int .u8 1,.int .i64 0] 83)) (k:=1) (n:=1) (s:=⟨#[]⟩) (fldT 1 1 (by decide) ⟨by decide,by decide⟩))
 have n2:=NV_two ((w2.alloc (.cells #[.string ⟨#[120]⟩,.int .u8 1,.int .i64 0] 83)).alloc (.cells #[.int .u8 2,.int .i64 0,.string ⟨#[120]⟩,.slice none 0 0,.int .u8 1,.int .i64 1,.string ⟨#[]⟩,.slice none 0 0] 29)) 29 (S:=Any) trivial (fldT 41 0 (by decide) ⟨by decide,by decide⟩) (leafT (W:=(w2.alloc (.cells #[.string ⟨#[120]⟩,.int .u8 1,.int .i64 0] 83)).alloc (.cells #[.int .u8 2,.int .i64 0,.string ⟨#[120]⟩,.slice none 0 0,.int .u8 1,.int .i64 1,.string ⟨#[]⟩,.slice none 0 0] 29)) (k:=2) (n:=0) (s:=⟨#[120]⟩) ⟨by decide,⟨by decide,by decide⟩,by decide⟩) (leafT (W:=(w2.alloc (.cells #[.string ⟨#[120]⟩,.int .u8 1,.int .i64 0] 83)).alloc (.cells #[.int .u8 2,.int .i64 0,.string ⟨#[120]⟩,.slice none 0 0,.int .u8 1,.int .i64 1,.string ⟨#[]⟩,.slice none 0 0] 29)) (k:=1) (n:=1) (s:=⟨#[]⟩) (fldT 1 1 (by decide) ⟨by decide,by decide⟩))
 have n3:=NV_two (((w2.alloc (.cells #[.string ⟨#[120]⟩,.int .u8 1,.int .i64 0] 83)).alloc (.cells #[.int .u8 2,.int .i64 0,.string ⟨#[120]⟩,.slice none 0 0,.int .u8 1,.int .i64 1,.string ⟨#[]⟩,.slice none 0 0] 29)).alloc (.cells #[.int .u8 2,.int .i64 0,.string ⟨#[120]⟩,.slice none 0 0,.int .u8 1,.int .i64 1,.string ⟨#[]⟩,.slice none 0 0] 29)) 29 (S:=Any) trivial (fldT 57 0 (by decide) ⟨by decide,by decide⟩) (n1.later (bl_al (Below.refl _ _) _)) n2
 have hk:=blk_al (blk_al (blk_al (heap_alloc_new w2 (.cells #[.string ⟨#[120]⟩,.int .u8 1,.int .i64 0] 83)) (.cells #[.int .u8 2,.int .i64 0,.string ⟨#[120]⟩,.slice none 0 0,.int .u8 1,.int .i64 1,.string ⟨#[]⟩,.slice none 0 0] 29)) (.cells #[.int .u8 2,.int .i64 0,.string ⟨#[120]⟩,.slice none 0 0,.int .u8 1,.int .i64 1,.string ⟨#[]⟩,.slice none 0 0] 29)) (.cells #[.int .u8 40,.int .i64 0,.string ⟨#[]⟩,.slice (some ⟨w2.heap.size+1,0,none⟩) 2 2,.int .u8 41,.int .i64 0,.string ⟨#[]⟩,.slice (some ⟨w2.heap.size+1+1,0,none⟩) 2 2] 29)
 simp only [World.size_alloc] at n1 n2 n3
 refine ⟨some ⟨w2.heap.size,0,none⟩,1,none,0,_,2,rfl,rowV_blk (vs:=[⟨⟨#[120]⟩,1,0⟩]) hk ?_,by decide,by decide,fun i hi=>by simp [pgT] at hi,by decide,by decide,n3⟩
 intro v hv
 simp at hv
 subst hv
 exact ⟨by decide,⟨by decide,by decide⟩,by decide,by decide⟩
theorem awakeT_any (w:World):Calls Tryz.prog 23 #[] w fun e w'=>e=.returned (.bool true)/\Below w.heap.size w w':=by
 have h1:=bNx
 have h2:=bNo
 have h3:=bV2
 have h4:=bSVwT
 have h5:=bSN2T
 have h6:=bNkT
 have h7:=bPgAT
 have h8:=buildI1x
 have h9:=bII1T
 have h10:=bS1
 go_enter Tryz.func23,Tryz.ntmps23
 go_upto_region 3 with fail
 have hb2:=bl_al (bl_al (Below.refl w.heap.size w) (.cells #[.int .u8 2,.int .i64 0,.string ⟨#[120]⟩,.slice none 0 0] 29)) (.cells #[.int .u8 1,.int .i64 1,.string ⟨#[]⟩,.slice none 0 0] 29)
 have kx:=blk_al (heap_alloc_new w (.cells #[.int .u8 2,.int .i64 0,.string ⟨#[120]⟩,.slice none 0 0] 29)) (.cells #[.int .u8 1,.int .i64 1,.string ⟨#[]⟩,.slice none 0 0] 29)
 have ko:=heap_alloc_new (w.alloc (.cells #[.int .u8 2,.int .i64 0,.string ⟨#[120]⟩,.slice none 0 0] 29)) (.cells #[.int .u8 1,.int .i64 1,.string ⟨#[]⟩,.slice none 0 0] 29)
 rw [World.size_alloc] at ko
 obtain ⟨w2,hw2⟩:∃ x,(w.alloc (.cells #[.int .u8 2,.int .i64 0,.string ⟨#[120]⟩,.slice none 0 0] 29)).alloc (.cells #[.int .u8 1,.int .i64 1,.string ⟨#[]⟩,.slice none 0 0] 29)=x:=⟨_,rfl⟩
 rw [hw2] at hb2 kx ko ⊢
 have HB2:=zh hb2
 obtain ⟨x0,x1,x2,x3⟩:=box4 kx
 obtain ⟨o0,o1,o2,o3⟩:=box4 ko
 have y0:=fun o=>cell_al x0 o
 have y1:=fun o=>cell_al x1 o
 have y2:=fun o=>cell_al x2 o
 have y3:=fun o=>cell_al x3 o
 have q0:=fun o=>cell_al o0 o
 have q1:=fun o=>cell_al o1 o
 have q2:=fun o=>cell_al o2 o
 have q3:=fun o=>cell_al o3 o
 have Y0:=fun o p=>cell_al (y0 o) p
 have Y1:=fun o p=>cell_al (y1 o) p
 have Y2:=fun o p=>cell_al (y2 o) p
 have Y3:=fun o p=>cell_al (y3 o) p
 have Q0:=fun o p=>cell_al (q0 o) p
 have Q1:=fun o p=>cell_al (q1 o) p
 have Q2:=fun o p=>cell_al (q2 o) p
 have Q3:=fun o p=>cell_al (q3 o) p
 clear hw2 hb2 kx ko x0 x1 x2 x3 o0 o1 o2 o3
 go_upto_region 4 with fail
 have hn:=pv_T w2
 have kp:=heap_alloc_new (((((w2.alloc (.cells #[.string ⟨#[120]⟩,.int .u8 1,.int .i64 0] 83)).alloc (.cells #[.int .u8 2,.int .i64 0,.string ⟨#[120]⟩,.slice none 0 0,.int .u8 1,.int .i64 1,.string ⟨#[]⟩,.slice none 0 0] 29)).alloc (.cells #[.int .u8 2,.int .i64 0,.string ⟨#[120]⟩,.slice none 0 0,.int .u8 1,.int .i64 1,.string ⟨#[]⟩,.slice none 0 0] 29)).alloc (.cells #[.int .u8 40,.int .i64 0,.string ⟨#[]⟩,.slice (some ⟨w2.heap.size+1,0,none⟩) 2 2,.int .u8 41,.int .i64 0,.string ⟨#[]⟩,.slice (some ⟨w2.heap.size+1+1,0,none⟩) 2 2] 29))) (.cells #[.slice (some ⟨w2.heap.size,0,none⟩) 1 1,.slice none 0 0,.int .u8 57,.int .i64 0,.string ⟨#[]⟩,.slice (some ⟨w2.heap.size+1+1+1,0,none⟩) 2 2] 35)
 simp only [World.size_alloc] at kp
 have hb3:=bl_al (bl_al (bl_al (bl_al (bl_al (Below.refl w2.heap.size w2) (.cells #[.string ⟨#[120]⟩,.int .u8 1,.int .i64 0] 83)) (.cells #[.int .u8 2,.int .i64 0,.string ⟨#[120]⟩,.slice none 0 0,.int .u8 1,.int .i64 1,.string ⟨#[]⟩,.slice none 0 0] 29)) (.cells #[.int .u8 2,.int .i64 0,.string ⟨#[120]⟩,.slice none 0 0,.int .u8 1,.int .i64 1,.string ⟨#[]⟩,.slice none 0 0] 29)) (.cells #[.int .u8 40,.int .i64 0,.string ⟨#[]⟩,.slice (some ⟨w2.heap.size+1,0,none⟩) 2 2,.int .u8 41,.int .i64 0,.string ⟨#[]⟩,.slice (some ⟨w2.heap.size+1+1,0,none⟩) 2 2] 29)) (.cells #[.slice (some ⟨w2.heap.size,0,none⟩) 1 1,.slice none 0 0,.int .u8 57,.int .i64 0,.string ⟨#[]⟩,.slice (some ⟨w2.heap.size+1+1+1,0,none⟩) 2 2] 35)
 obtain ⟨w3,hw3⟩:∃ x,(((((w2.alloc (.cells #[.string ⟨#[120]⟩,.int .u8 1,.int .i64 0] 83)).alloc (.cells #[.int .u8 2,.int .i64 0,.string ⟨#[120]⟩,.slice none 0 0,.int .u8 1,.int .i64 1,.string ⟨#[]⟩,.slice none 0 0] 29)).alloc (.cells #[.int .u8 2,.int .i64 0,.string ⟨#[120]⟩,.slice none 0 0,.int .u8 1,.int .i64 1,.string ⟨#[]⟩,.slice none 0 0] 29)).alloc (.cells #[.int .u8 40,.int .i64 0,.string ⟨#[]⟩,.slice (some ⟨w2.heap.size+1,0,none⟩) 2 2,.int .u8 41,.int .i64 0,.string ⟨#[]⟩,.slice (some ⟨w2.heap.size+1+1,0,none⟩) 2 2] 29))).alloc (.cells #[.slice (some ⟨w2.heap.size,0,none⟩) 1 1,.slice none 0 0,.int .u8 57,.int .i64 0,.string ⟨#[]⟩,.slice (some ⟨w2.heap.size+1+1+1,0,none⟩) 2 2] 35)=x:=⟨_,rfl⟩
 obtain ⟨pb,hpb⟩:∃ x,w2.heap.size+1+1+1+1=x:=⟨_,rfl⟩
 rw [hw3] at kp hb3 ⊢
 rw [hpb] at kp ⊢
 have HP:=zh (fun w' (hb:Below w3.heap.size w3 w')=>PV.later hn (bl_tt (hw3▸bl_al (Below.refl _ _) _) hb))
 have HB3:=zh (bl_tt HB2.out hb3)
 have z0:w3.cell? ⟨pb,0,none⟩=some (.slice (some ⟨w2.heap.size,0,none⟩) 1 1):=zc kp rfl
 have z1:w3.cell? ⟨pb,1,none⟩=some (.slice none 0 0):=zc kp rfl
 have z2:w3.cell? ⟨pb,2,none⟩=some (.int .u8 57):=zc kp rfl
 have z3:w3.cell? ⟨pb,3,none⟩=some (.int .i64 0):=zc kp rfl
 have z4:w3.cell? ⟨pb,4,none⟩=some (.string ⟨#[]⟩):=zc kp rfl
 have z5:w3.cell? ⟨pb,5,none⟩=some (.slice (some ⟨w2.heap.size+1+1+1,0,none⟩) 2 2):=zc kp rfl
 clear y0 y1 y2 y3 q0 q1 q2 q3 Y0 Y1 Y2 Y3 Q0 Q1 Q2 Q3 kp hw3 hpb hn hb3
 go_wp2_with fail
 have hbf:=bl_al (bl_al (Below.refl w3.heap.size w3) (.cells #[.int .i64 0] 3)) (.cells #[.slice (some ⟨w3.heap.size,0,none⟩) 1 1] 24)
 have HOF:=zh (Of_any pgT ⟨[[0]],[],[]⟩ 9 20000 _ _ _ (HP.out _ hbf) (sv_oneT w3 0 ⟨by decide,by decide⟩) (by decide) ⟨by decide,by decide⟩ (by decide) (by decide))
 refine HOF.out.mono ?_
 rintro e4 w4 ⟨hb4,⟨hne,-⟩|⟨-,S',L,ev,htg,-,-,-,rfl,hev,-⟩⟩
 ·exact absurd awT hne
 rw [TgT htg] at hev
 obtain ⟨g,cap,e4,he4⟩:=hev.nd (by decide)
 change ev=.slice (some ⟨g,0,none⟩) 2 cap at e4
 subst e4
 obtain ⟨A0,c0,f0,r0⟩:=he4 0 (by decide)
 obtain ⟨A1,c1,f1,r1⟩:=he4 1 (by decide)
 obtain ⟨a0,rfl,-,m0,m1,m2,m3⟩:=r0 0 (by decide)
 obtain ⟨a1,rfl,-,n0,n1,n2,n3⟩:=r1 0 (by decide)
 change w4.cell? ⟨g,0,none⟩=some (.slice (some a0) 1 c0) at f0
 change w4.cell? ⟨g,1,none⟩=some (.slice (some a1) 1 c1) at f1
 simp only [Nat.zero_mul,add_z] at m0 m1 m2 m3 n0 n1 n2 n3
 change w4.cell? a0=some (.int .i64 0) at m0
 change w4.cell? _=some (.int .i64 0) at m1
 change w4.cell? _=some (.int .i64 0) at m2
 change w4.cell? _=some (.int .i64 1) at m3
 change w4.cell? a1=some (.int .i64 0) at n0
 change w4.cell? _=some (.int .i64 0) at n1
 change w4.cell? _=some (.int .i64 1) at n2
 change w4.cell? _=some (.int .i64 0) at n3
 have hc3:=bCh3
 have hc2:=bCh2
 have HB4:=zh (bl_tt HB3.out (bl_tt hbf hb4))
 clear hev htg hb4 hbf HOF HP z0 z1 z2 z3 z4 z5 r0 r1 he4 h1 h2 h3 h4 h5 h6 h7 h8 h9 h10
 go_wp2_with fail
 go_ret
 exact ⟨rfl,HB4.out⟩
theorem EvR.len {w:World} {n0:Nat} {O:Nat->Prop} {v:Value} {s:SS} {L:List SS} (h:EvR w n0 O v (evsE s L)):∃ A c,v=.slice A L.length c:=by
 obtain ⟨xs,h1,-⟩:=h
 obtain ⟨A,c,e,-⟩:=row_slice h1
 exact ⟨A,c,by rw [e,evsE_len]⟩
theorem TFuel_walk (p:PG) (s:SS) (F:Int) (v sv:Value) (W:World) (hp:PV W Any p v) (hs:SV W Any s sv) (hcl:s.cells.length<=5864062014800) (hF:I64 F) :
  Calls Tryz.prog 4 #[v,sv,.int .i64 F] W fun e W'=>e=.returned (.bool true)/\Below W.heap.size W W':=by
 have HPV:=zh hp
 have HSV:=zh hs
 obtain ⟨A1,c1,A2,c2,A3,c3,rfl,hpg⟩:=hp
 obtain ⟨A,c,B,d,D,e,rfl,hr1,hr2,hr3,hc1,hc2,hc3,hl1,hl2,hl3,hl4⟩:=hs
 have hb2:=bl_al (bl_al (Below.refl W.heap.size W) (.cells #[.slice A1 p.vs.length c1,.slice A2 p.prs.length c2,.int .u8 p.m.k,.int .i64 p.m.n,.string p.m.s,.slice A3 p.m.ks.length c3] 35)) (.cells #[.slice A s.cells.length c,.slice B s.tin.length d,.slice D s.tout.length e] 26)
 have k0:=blk_al (heap_alloc_new W (.cells #[.slice A1 p.vs.length c1,.slice A2 p.prs.length c2,.int .u8 p.m.k,.int .i64 p.m.n,.string p.m.s,.slice A3 p.m.ks.length c3] 35)) (.cells #[.slice A s.cells.length c,.slice B s.tin.length d,.slice D s.tout.length e] 26)
 have k1:=heap_alloc_new (W.alloc (.cells #[.slice A1 p.vs.length c1,.slice A2 p.prs.length c2,.int .u8 p.m.k,.int .i64 p.m.n,.string p.m.s,.slice A3 p.m.ks.length c3] 35)) (.cells #[.slice A s.cells.length c,.slice B s.tin.length d,.slice D s.tout.length e] 26)
 rw [World.size_alloc] at k1
 obtain ⟨w2,hw2⟩:∃ x,(W.alloc (.cells #[.slice A1 p.vs.length c1,.slice A2 p.prs.length c2,.int .u8 p.m.k,.int .i64 p.m.n,.string p.m.s,.slice A3 p.m.ks.length c3] 35)).alloc (.cells #[.slice A s.cells.length c,.slice B s.tin.length d,.slice D s.tout.length e] 26)=x:=⟨_,rfl⟩
 rw [hw2] at hb2 k0 k1
 have HB2:=zh hb2
 have K0:=zh k0
 have K1:=zh k1
 have HAW:=zh (awakeT_any w2)
 clear hpg hr1 hr2 hr3 hb2 k0 k1 hl1 hl2 hl3 hl4 hc1 hc2 hc3
 have HFI:=zh hF
 go_enter Tryz.func4,Tryz.ntmps4
 go_wp2_with fail
 refine HAW.out.mono ?_
 rintro e3 w3 ⟨rfl,b3⟩
 clear hw2 HAW
 have k0:=blk_bl K0.out b3
 have k1:=blk_bl K1.out b3
 have p0:w3.cell? ⟨W.heap.size,0,none⟩=some (.slice A1 p.vs.length c1):=zc k0 rfl
 have p1:w3.cell? ⟨W.heap.size,1,none⟩=some (.slice A2 p.prs.length c2):=zc k0 rfl
 have p2:w3.cell? ⟨W.heap.size,2,none⟩=some (.int .u8 p.m.k):=zc k0 rfl
 have p3:w3.cell? ⟨W.heap.size,3,none⟩=some (.int .i64 p.m.n):=zc k0 rfl
 have p4:w3.cell? ⟨W.heap.size,4,none⟩=some (.string p.m.s):=zc k0 rfl
 have p5:w3.cell? ⟨W.heap.size,5,none⟩=some (.slice A3 p.m.ks.length c3):=zc k0 rfl
 have s0:w3.cell? ⟨W.heap.size+1,0,none⟩=some (.slice A s.cells.length c):=zc k1 rfl
 have s1:w3.cell? ⟨W.heap.size+1,1,none⟩=some (.slice B s.tin.length d):=zc k1 rfl
 have s2:w3.cell? ⟨W.heap.size+1,2,none⟩=some (.slice D s.tout.length e):=zc k1 rfl
 clear k0 k1
 have HB3:=zh (bl_tt HB2.out b3)
 by_cases hq:p.prs.length<=4
 rotate_left 1
 ·have hq1:(4:Int)<(p.prs.length:Int):=by omega
  go_wp2_with fail
  go_ret
  exact ⟨rfl,HB3.out⟩
 have hq1:¬ (4:Int)<(p.prs.length:Int):=by omega
 by_cases hF4:F<=400
 rotate_left 1
 ·have hq2:(400:Int)<F:=by omega
  go_wp2_with fail
  go_ret
  exact ⟨rfl,HB3.out⟩
 have hq2:¬ (400:Int)<F:=by omega
 have HOF:=zh (fun w' (hb:Below w2.heap.size w2 w') (F':Int) (h1:I64 F') (h2:F'<=400)=>Of_any p s F' 802000 _ _ w' (HPV.out.later (bl_tt HB2.out hb)) (HSV.out.later (bl_tt HB2.out hb)) hcl h1 (by omega) (by omega))
 have HFL:=zh (fun h=>fuel_law (p:=p) (s:=s) (F:=F) (g:=802000) (back:=false) (by omega) h)
 have HO3:=zh (HOF.out w3 b3 F hF hF4)
 obtain ⟨R,hR⟩:∃ R,resO p s F 802000 false=R:=⟨_,rfl⟩
 rw [hR] at HO3 HFL
 have HB23:=zh b3
 clear hF hR b3
 go_wp2_with fail
 refine HO3.out.mono ?_
 rintro e4 w4 ⟨hb4,⟨hne,rfl⟩|⟨he,S',L,ev,htg,hst,hn,-,rfl,hev,hL⟩⟩
 ·have e1:(R.2.2.1 != 0)=true:=by simpa using hne
  have HB4:=zh (bl_tt HB3.out hb4)
  clear p0 p1 p2 p3 p4 p5 s0 s1 s2 hb4 HO3 HOF HFL hne
  go_wp2_with fail
  go_ret
  exact ⟨rfl,HB4.out⟩
 obtain ⟨Ae,ce,rfl⟩:=hev.len
 obtain ⟨hf1,hf2,hf3⟩:=HFL.out he
 rw [hn] at hf1 hf2 hf3
 have hLF:(L.length:Int)<=400:=by omega
 have hli:I64 (L.length:Int):=⟨by omega,by omega⟩
 have b24:=bl_tt HB23.out hb4
 have HO4:=zh (HOF.out w4 b24 (L.length:Int) hli hLF)
 rw [hf2 _ (Int.le_refl _)] at HO4
 have HF3:=zh hf3
 have HN:=zh hn
 have HE:=zh he
 have HB24:=zh b24
 have HLF:=zh hLF
 clear p0 p1 p2 p3 p4 p5 s0 s1 s2 hb4 HO3 HFL hf1 hf2 hf3 hn he hst htg hev hli hLF
 have k0:=blk_bl K0.out b24
 have k1:=blk_bl K1.out b24
 have p0:w4.cell? ⟨W.heap.size,0,none⟩=some (.slice A1 p.vs.length c1):=zc k0 rfl
 have p1:w4.cell? ⟨W.heap.size,1,none⟩=some (.slice A2 p.prs.length c2):=zc k0 rfl
 have p2:w4.cell? ⟨W.heap.size,2,none⟩=some (.int .u8 p.m.k):=zc k0 rfl
 have p3:w4.cell? ⟨W.heap.size,3,none⟩=some (.int .i64 p.m.n):=zc k0 rfl
 have p4:w4.cell? ⟨W.heap.size,4,none⟩=some (.string p.m.s):=zc k0 rfl
 have p5:w4.cell? ⟨W.heap.size,5,none⟩=some (.slice A3 p.m.ks.length c3):=zc k0 rfl
 have s0:w4.cell? ⟨W.heap.size+1,0,none⟩=some (.slice A s.cells.length c):=zc k1 rfl
 have s1:w4.cell? ⟨W.heap.size+1,1,none⟩=some (.slice B s.tin.length d):=zc k1 rfl
 have s2:w4.cell? ⟨W.heap.size+1,2,none⟩=some (.slice D s.tout.length e):=zc k1 rfl
 clear k0 k1
 clear b24
 go_upto_region 8 with fail
 go_wp2_with fail
 refine HO4.out.mono ?_
 rintro e5 w5 ⟨hb5,⟨hne,-⟩|⟨-,S5,L5,ev5,-,-,hn5,-,rfl,hev5,-⟩⟩
 ·exact absurd HE.out hne
 obtain ⟨A5,c5,rfl⟩:=hev5.len
 rw [HN.out] at hn5
 rw [<-hn5]
 have b25:=bl_tt HB24.out hb5
 have HB5:=zh (bl_tt HB2.out b25)
 clear p0 p1 p2 p3 p4 p5 s0 s1 s2 hb5 HO4 hn5 hev5
 by_cases hz:L.length=0
 ·rw [hz]
  go_wp2_with fail
  go_ret
  exact ⟨rfl,HB5.out⟩
 have hz1:¬ (L.length:Int)=0:=by omega
 have hwm:IntKind.i64.wrap ((L.length:Int)-1)=(L.length:Int)-1:=IntWalk.i64_in _ (by omega)
 have HO5:=zh (HOF.out w5 b25 ((L.length:Int)-1) ⟨by omega,by omega⟩ (by have:=HLF.out; omega))
 have H18:=zh (HF3.out ((L.length:Int)-1) (by omega) (by omega))
 obtain ⟨R3,hR3⟩:∃ R,resO p s ((L.length:Int)-1) 802000 false=R:=⟨_,rfl⟩
 rw [hR3] at HO5 H18
 have k0:=blk_bl K0.out b25
 have k1:=blk_bl K1.out b25
 have p0:w5.cell? ⟨W.heap.size,0,none⟩=some (.slice A1 p.vs.length c1):=zc k0 rfl
 have p1:w5.cell? ⟨W.heap.size,1,none⟩=some (.slice A2 p.prs.length c2):=zc k0 rfl
 have p2:w5.cell? ⟨W.heap.size,2,none⟩=some (.int .u8 p.m.k):=zc k0 rfl
 have p3:w5.cell? ⟨W.heap.size,3,none⟩=some (.int .i64 p.m.n):=zc k0 rfl
 have p4:w5.cell? ⟨W.heap.size,4,none⟩=some (.string p.m.s):=zc k0 rfl
 have p5:w5.cell? ⟨W.heap.size,5,none⟩=some (.slice A3 p.m.ks.length c3):=zc k0 rfl
 have s0:w5.cell? ⟨W.heap.size+1,0,none⟩=some (.slice A s.cells.length c):=zc k1 rfl
 have s1:w5.cell? ⟨W.heap.size+1,1,none⟩=some (.slice B s.tin.length d):=zc k1 rfl
 have s2:w5.cell? ⟨W.heap.size+1,2,none⟩=some (.slice D s.tout.length e):=zc k1 rfl
 clear k0 k1
 clear b25 hR3
 go_upto_region 13 with fail
 go_wp2_with fail
 refine HO5.out.mono ?_
 rintro e6 w6 ⟨hb6,⟨-,rfl⟩|⟨he6,-⟩⟩
 ·rw [H18.out]
  have HB6:=zh (bl_tt HB5.out hb6)
  clear p0 p1 p2 p3 p4 p5 s0 s1 s2 hb6 HO5
  go_wp2_with fail
  go_ret
  exact ⟨rfl,HB6.out⟩
 ·rw [H18.out] at he6
  cases he6
end Go.Proofs.YtckhofdinldhpaaGreat
namespace Go.Proofs.YtckhofdinldhpaaGreat
open Go.RowKit Go.ChangeShapes Go.WideShapes Go.ChangeAt Go.Deep
theorem cellsNode:Tryz.prog.cellsOf 29=4:=by kernel_rfl
theorem bytesNode:Tryz.prog.bytesOf 29=56:=by kernel_rfl
theorem cellsU8:Tryz.prog.cellsOf 5=1:=by kernel_rfl
theorem cellsI64:Tryz.prog.cellsOf 3=1:=by kernel_rfl
theorem cellsStr:Tryz.prog.cellsOf 9=1:=by kernel_rfl
theorem cellsKids:Tryz.prog.cellsOf 27=1:=by kernel_rfl
theorem weightsAll_mem {H:Type} {P:Program} {e:TypeId}:∀ {l:List (DataW H)} {d:DataW H},d∈l->∀ n∈d.weights P e,n∈DataW.weightsAll P e l
 | d0::l,d,hd,n,hn=>by
  simp only [DataW.weightsAll,List.mem_append]
  rcases List.mem_cons.1 hd with rfl|hd
  ·exact .inl hn
  ·exact .inr (weightsAll_mem hd n hn)
theorem sizes_le_bulk {H:Type}:∀ (ks:List T) (ds:List (DataW H)),ks.length=ds.length->(∀ i (h:i<ks.length) (h':i<ds.length),size ks[i]<=Rows.uptoBulk ds[i])->sizes ks<=Rows.uptoBulkAll ds
 | [],[],_,_=>by simp [sizes]
 | t::ts,d::ds,hl,h=>by
  have h0:=h 0 (Nat.zero_lt_succ _) (Nat.zero_lt_succ _)
  have h1:=sizes_le_bulk ts ds (by simpa using hl) (fun i hi hi'=>h (i+1) (Nat.succ_lt_succ hi) (Nat.succ_lt_succ hi'))
  simp only [List.getElem_cons_zero] at h0
  simp only [sizes,Rows.uptoBulkAll]
  omega
 | [],_::_,hl,_=>by simp at hl
 | _::_,[],hl,_=>by simp at hl
section
variable {H:Type} {enc:TypeId×Value->H} {w:World} {held:Bool}
def zeroT':T:=.nd 0 0 ⟨#[]⟩ []
theorem open_node:∀ (fuel:Nat) (cs:List Value) (x:DataW H×List MemPlace),DataW.trod enc Tryz.prog w 0 (fun _=>true) held fuel 29 cs=some x ->
  (∀ n∈x.1.weights Tryz.prog 29,n<=reachBytes) ->
  ∃ t u0 u1 u2 u3,cs=[u0,u1,u2,u3]/\NV w Any t (.agg #[u0,u1,u2,u3])/\t.ks.length*56<=reachBytes/\size t<=Rows.uptoBulk x.1:=by
 intro fuel
 induction fuel using Nat.strongRecOn with
 | _ fuel ih =>
 intro cs x h hw
 have hts:=DataW.trod_struct Tryz.underlying29 h
 obtain ⟨xs,n,hfu,hx,hcl,hxl,hg⟩:=hts
 subst hx
 rw [cellsNode] at hcl
 match cs,hcl with
 | [c0,c1,c2,c3],_ =>
 match xs,hxl with
 | [y0,y1,y2,y3],_ =>
 have g0:=hg 0 _ rfl
 have g1:=hg 1 _ rfl
 have g2:=hg 2 _ rfl
 have g3:=hg 3 _ rfl
 simp only [cellsU8,cellsI64,cellsStr,cellsKids,List.drop_zero,List.take_succ_cons,List.take_zero,List.drop_succ_cons,List.getElem?_cons_zero,List.getElem?_cons_succ] at g0 g1 g2 g3
 obtain ⟨k,e0,e0',wk⟩:=DataW.trod_int Tryz.underlying5 g0
 obtain ⟨m,e1,e1',wm⟩:=DataW.trod_int Tryz.underlying3 g1
 obtain ⟨s,e2,e2',ws⟩:=DataW.trod_string Tryz.underlying9 g2
 injection e0 with e0
 injection e1 with e1
 injection e2 with e2
 subst e0 e1 e2 e0' e1' e2'
 have hf:Fld k m s:=by
  refine ⟨?_,?_,ws⟩
  ·have:=wk; simp [Lit.wf,IntKind.min,IntKind.max,IntKind.signed,IntKind.bits] at this; omega
  ·have:=wm; simp [Lit.wf,IntKind.min,IntKind.max,IntKind.signed,IntKind.bits] at this; omega
 have hsl:=DataW.trod_slice Tryz.underlying27 g3
 rcases hsl with ⟨e3,e3'⟩|⟨a,len,cap,elems,rest,n',hn',e3,e3',_,hl,hm,hel,hat,hsp,_⟩
 ·injection e3 with e3
  subst e3 e3'
  refine ⟨.nd k m s [],_,_,_,_,rfl,NV.shut (ks:=[]) hf (Nat.zero_le _) (Nat.zero_le _) RowAt.nil,by simp,?_⟩
  simp only [size,sizes,List.map_cons,List.map_nil,Rows.uptoBulk]
  omega
 ·injection e3 with e3
  subst e3 e3'
  obtain ⟨hrl,_⟩:=hsp rfl
  rw [cellsNode] at hat
  -- what the reach says of this slice,and of its elements
  have hws:∀ q∈DataW.weights Tryz.prog 27 (.slice (elems.map (·.1)) (rest.map (·.1)):DataW H),q<=reachBytes:=by
   intro q hq
   refine hw q ?_
   simp only [List.map_cons,List.map_nil,DataW.weights,Tryz.underlying29]
   simp only [DataW.weightsEach,List.map_cons,List.map_nil,List.mem_append]
   exact .inr (.inr (.inr (.inl hq)))
  simp only [DataW.weights,Tryz.underlying27,bytesNode] at hws
  have hcap:cap*56<=reachBytes:=by
   have:=hws _ (List.mem_cons_self ..)
   simp only [List.length_map] at this
   rw [hel,hrl] at this
   rw [show cap=len+(cap-len) by omega]
   exact this
  have hwe:∀ y∈elems,∀ q∈y.1.weights Tryz.prog 29,q<=reachBytes:=fun y hy q hq =>
   hws q (List.mem_cons_of_mem _ (List.mem_append_left _ (weightsAll_mem (List.mem_map_of_mem hy) q hq)))
  have key:∀ i (hi:i<elems.length),∃ t u0 u1 u2 u3,w.cells? 0 (a.add (i*4)) 4=some [u0,u1,u2,u3]/\NV w Any t (.agg #[u0,u1,u2,u3])/\size t<=Rows.uptoBulk elems[i].1:=by
   intro i hi
   have h1:=hat i (by omega)
   rw [List.getElem?_eq_getElem hi] at h1
   obtain ⟨cs',hcs,ht⟩:=Option.bind_eq_some_iff.1 h1
   obtain ⟨t,u0,u1,u2,u3,rfl,hn,_,hb⟩:=ih n' (by omega) cs' elems[i] ht (hwe _ (List.getElem_mem hi))
   exact ⟨t,u0,u1,u2,u3,hcs,hn,hb⟩
  have hex:∃ ks:List T,ks.length=elems.length/\∀ i (h:i<ks.length) (h':i<elems.length),(∃ u0 u1 u2 u3,w.cells? 0 (a.add (i*4)) 4=some [u0,u1,u2,u3]/\NV w Any ks[i] (.agg #[u0,u1,u2,u3]))/\size ks[i]<=Rows.uptoBulk elems[i].1:=by
   classical
   refine ⟨(List.range elems.length).map fun i=>if h:i<elems.length then (key i h).choose else zeroT',by simp,fun i h h'=>?_⟩
   simp only [List.getElem_map,List.getElem_range,h',dif_pos]
   obtain ⟨u0,u1,u2,u3,h1,h2,h3⟩:=(key i h').choose_spec
   exact ⟨⟨u0,u1,u2,u3,h1,h2⟩,h3⟩
  obtain ⟨ks,hkl,hks⟩:=hex
  have hlen:ks.length=len:=by omega
  have hLK:ks.length<=LK:=by unfold LK; unfold reachBytes at hcap; omega
  refine ⟨.nd k m s ks,_,_,_,_,rfl,?_,?_,?_⟩
  ·rw [<-hlen]
   refine NV.shut hf hLK (by omega) fun i hi=>?_
   obtain ⟨⟨u0,u1,u2,u3,hc,hn⟩,_⟩:=hks i hi (by omega)
   obtain ⟨_,_,hcell⟩:=World.cells?_some hc
   refine ⟨a,u0,u1,u2,u3,rfl,trivial,⟨?_,?_,?_,?_⟩,hn⟩
   ·have:=hcell 0 (by omega); simpa [Addr.add] using this
   ·have:=hcell 1 (by omega); simpa [Addr.add] using this
   ·have:=hcell 2 (by omega); simpa [Addr.add] using this
   ·have:=hcell 3 (by omega); simpa [Addr.add] using this
  ·simp only [T.ks_nd]; omega
  ·have hb:=sizes_le_bulk ks (elems.map (·.1)) (by simp [hkl]) (fun i h h'=>by
    have:=(hks i h (by simpa using h')).2
    simpa using this)
   simp only [size,List.map_cons,List.map_nil,Rows.uptoBulk,Rows.uptoBulkAll]
   omega
end
theorem Tryz.own:ownKnob Tryz.prog.godebug=none:=by kernel_rfl
theorem Tryz.laidOut:laidOutB Tryz.prog=true:=by kernel_rfl
theorem cellsVd:Tryz.prog.cellsOf 83=3:=by kernel_rfl
theorem bytesVd:Tryz.prog.bytesOf 83=32:=by kernel_rfl
section
variable {H:Type} {enc:TypeId×Value->H} {w:World} {held:Bool}
theorem open_row {ty E:TypeId} {n b:Nat} (ht:Tryz.prog.underlying ty=some (.slice E)) (hc:Tryz.prog.cellsOf E=n) (hb:Tryz.prog.bytesOf E=b) {fuel:Nat} {cs:List Value} {x:DataW H×List MemPlace}
  (h:DataW.trod enc Tryz.prog w 0 (fun _=>true) held fuel ty cs=some x) (hw:∀ q∈x.1.weights Tryz.prog ty,q<=reachBytes) :
  cs=[.slice none 0 0]\/∃ a len cap,cs=[.slice (some a) len cap]/\len<=cap/\cap*b<=reachBytes/\∀ i,i<len->∃ cs' y n',w.cells? 0 (a.add (i*n)) n=some cs'/\DataW.trod enc Tryz.prog w 0 (fun _=>true) held n' E cs'=some y/\∀ q∈y.1.weights Tryz.prog E,q<=reachBytes:=by
 have hsl:=DataW.trod_slice ht h
 rcases hsl with ⟨e3,e3'⟩|⟨a,len,cap,elems,rest,n',hn',e3,e3',_,hl,hm,hel,hat,hsp,_⟩
 ·exact .inl e3
 ·refine .inr ⟨a,len,cap,e3,hl,?_,?_⟩
  ·obtain ⟨hrl,_⟩:=hsp rfl
   subst e3'
   simp only [DataW.weights,ht,hb] at hw
   have:=hw _ (List.mem_cons_self ..)
   simp only [List.length_map] at this
   rw [hel,hrl] at this
   rw [show cap=len+(cap-len) by omega]
   exact this
  ·intro i hi
   subst e3'
   simp only [DataW.weights,ht,hb] at hw
   have hi':i<elems.length:=by omega
   have h1:=hat i (by omega)
   rw [List.getElem?_eq_getElem hi',hc] at h1
   obtain ⟨cs',hcs,ht'⟩:=Option.bind_eq_some_iff.1 h1
   exact ⟨cs',elems[i],n',hcs,ht',fun q hq=>hw q (List.mem_cons_of_mem _ (List.mem_append_left _ (weightsAll_mem (List.mem_map_of_mem (List.getElem_mem hi')) q hq)))⟩
theorem open_vd {fuel:Nat} {cs:List Value} {x:DataW H×List MemPlace} (h:DataW.trod enc Tryz.prog w 0 (fun _=>true) held fuel 83 cs=some x) :
  ∃ v:VD,cs=[.string v.s,.int .u8 v.k,.int .i64 v.n]/\FldV v:=by
 have hts:=DataW.trod_struct Tryz.underlying83 h
 obtain ⟨xs,n,hfu,hx,hcl,hxl,hg⟩:=hts
 rw [cellsVd] at hcl
 match cs,hcl with
 | [c0,c1,c2],_ =>
 match xs,hxl with
 | [y0,y1,y2],_ =>
 have g0:=hg 0 _ rfl
 have g1:=hg 1 _ rfl
 have g2:=hg 2 _ rfl
 obtain ⟨s,e2,e2',ws⟩:=DataW.trod_string Tryz.underlying9 g0
 obtain ⟨k,e0,e0',wk⟩:=DataW.trod_int Tryz.underlying5 g1
 obtain ⟨m,e1,e1',wm⟩:=DataW.trod_int Tryz.underlying3 g2
 injection e0 with e0
 injection e1 with e1
 injection e2 with e2
 subst e0 e1 e2
 refine ⟨⟨s,k,m⟩,rfl,ws,?_,?_⟩
 ·have:=wk; simp [Lit.wf,IntKind.min,IntKind.max,IntKind.signed,IntKind.bits] at this; constructor<;>simp only<;>omega
 ·have:=wm; simp [Lit.wf,IntKind.min,IntKind.max,IntKind.signed,IntKind.bits] at this; constructor<;>simp only<;>omega
theorem choose_list {α:Type} [Inhabited α] {n:Nat} {P:Nat->α->Prop} (h:∀ i,i<n->∃ x,P i x):∃ l:List α,l.length=n/\∀ i (hi:i<l.length),P i l[i]:=by
 obtain ⟨f,hf⟩:=choose_lt h
 exact ⟨(List.range n).map f,by simp,fun i hi=>by simp only [List.getElem_map,List.getElem_range]; exact hf i (by simpa using hi)⟩
instance:Inhabited VD:=⟨⟨⟨#[]⟩,0,0⟩⟩
theorem open_varsW {fuel:Nat} {cs:List Value} {x:DataW H×List MemPlace} (h:DataW.trod enc Tryz.prog w 0 (fun _=>true) held fuel 22 cs=some x) (hw:∀ q∈x.1.weights Tryz.prog 22,q<=reachBytes) :
  ∃ (A:Option Addr) (vs:List VD) (c:Nat),cs=[.slice A vs.length c]/\RowV w Any A vs/\vs.length<=4398046510976/\vs.length<=c:=by
 rcases open_row Tryz.underlying22 cellsVd bytesVd h hw with rfl|⟨a,len,cap,rfl,hl,hcap,hat⟩
 ·exact ⟨none,[],0,rfl,fun i hi=>absurd hi (by simp),Nat.zero_le _,Nat.zero_le _⟩
 ·obtain ⟨vs,hvl,hvs⟩:=choose_list (n:=len) (P:=fun i (v:VD)=>w.cells? 0 (a.add (i*3)) 3=some [.string v.s,.int .u8 v.k,.int .i64 v.n]/\FldV v) fun i hi=>by
   obtain ⟨cs',y,n',hcs,ht,_⟩:=hat i hi
   obtain ⟨v,rfl,hf⟩:=open_vd ht
   exact ⟨v,hcs,hf⟩
  refine ⟨some a,vs,cap,by rw [hvl],fun i hi=>?_,by unfold reachBytes at hcap; omega,by omega⟩
  obtain ⟨hc,hf⟩:=hvs i hi
  obtain ⟨_,_,hcell⟩:=World.cells?_some hc
  refine ⟨a,rfl,trivial,⟨?_,?_,?_⟩,hf⟩
  ·have:=hcell 0 (by omega); simpa [Addr.add] using this
  ·have:=hcell 1 (by omega); simpa [Addr.add] using this
  ·have:=hcell 2 (by omega); simpa [Addr.add] using this
theorem open_vars {fuel:Nat} {cs:List Value} {x:DataW H×List MemPlace} (h:DataW.trod enc Tryz.prog w 0 (fun _=>true) held fuel 22 cs=some x) (hw:∀ q∈x.1.weights Tryz.prog 22,q<=reachBytes) :
  ∃ (A:Option Addr) (vs:List VD) (c:Nat),cs=[.slice A vs.length c]/\RowV w Any A vs/\vs.length<=LV/\vs.length<=c:=by
 obtain ⟨A,vs,c,h1,h2,h3,h4⟩:=open_varsW h hw
 exact ⟨A,vs,c,h1,h2,by unfold LV; omega,h4⟩
instance:Inhabited T:=⟨zeroT'⟩
theorem nv_parts {t:T} {u0 u1 u2 u3:Value} (h:NV w Any t (.agg #[u0,u1,u2,u3])):∃ A c,u0=.int .u8 t.k/\u1=.int .i64 t.n/\u2=.string t.s/\u3=.slice A t.ks.length c/\NV w Any t (nv t.k t.n t.s A t.ks.length c):=by
 obtain ⟨A,c,e,_⟩:=h.open_
 have e':=e
 simp only [nv,Value.agg.injEq,Array.mk.injEq,List.cons.injEq,and_true] at e
 exact ⟨A,c,e.1,e.2.1,e.2.2.1,e.2.2.2,e'▸h⟩
end
theorem cellsI:Tryz.prog.cellsOf 24=1:=by kernel_rfl
theorem bytesI64:Tryz.prog.bytesOf 3=8:=by kernel_rfl
theorem bytesI:Tryz.prog.bytesOf 24=24:=by kernel_rfl
theorem cellsState:Tryz.prog.cellsOf 26=3:=by kernel_rfl
section
variable {H:Type} {enc:TypeId×Value->H} {w:World} {held:Bool}
theorem cell0 {a:Addr} {u:Value} (h:w.cells? 0 a 1=some [u]):w.cell? a=some u:=by
 obtain ⟨_,_,hcell⟩:=World.cells?_some h
 have:=hcell 0 (by omega)
 have e:a.add 0=a:=by
  obtain ⟨b,o,l⟩:=a
  rcases l with _|⟨l1,l2⟩<;>simp [Addr.add]
 rw [e] at this
 simpa using this
theorem open_rowI {fuel:Nat} {cs:List Value} {x:DataW H×List MemPlace} (h:DataW.trod enc Tryz.prog w 0 (fun _=>true) held fuel 24 cs=some x) (hw:∀ q∈x.1.weights Tryz.prog 24,q<=reachBytes) :
  ∃ (A:Option Addr) (l:List Int) (c:Nat),cs=[.slice A l.length c]/\RowI w Any A l/\l.length<=LI/\l.length<=c:=by
 rcases open_row Tryz.underlying24 cellsI64 bytesI64 h hw with rfl|⟨a,len,cap,rfl,hl,hcap,hat⟩
 ·exact ⟨none,[],0,rfl,fun i hi=>absurd hi (by simp),Nat.zero_le _,Nat.zero_le _⟩
 ·obtain ⟨l,hvl,hvs⟩:=choose_list (n:=len) (P:=fun i (x:Int)=>w.cells? 0 (a.add (i*1)) 1=some [.int .i64 x]/\I64 x) fun i hi=>by
   obtain ⟨cs',y,n',hcs,ht,_⟩:=hat i hi
   obtain ⟨m,e1,e1',wm⟩:=DataW.trod_int Tryz.underlying3 ht
   refine ⟨m,by rw [hcs,e1],?_⟩
   have:=wm
   simp [Lit.wf,IntKind.min,IntKind.max,IntKind.signed,IntKind.bits] at this
   constructor<;>omega
  refine ⟨some a,l,cap,by rw [hvl],fun i hi=>?_,by unfold LI; unfold reachBytes at hcap; omega,by omega⟩
  obtain ⟨hc,hf⟩:=hvs i hi
  rw [Nat.mul_one] at hc
  exact ⟨a,rfl,trivial,cell0 hc,hf⟩
instance:Inhabited (List Int):=⟨[]⟩
end
section
variable {H:Type} {enc:TypeId×Value->H} {w:World} {held:Bool}
theorem open_rowIIc {fuel:Nat} {cs:List Value} {x:DataW H×List MemPlace} (h:DataW.trod enc Tryz.prog w 0 (fun _=>true) held fuel 23 cs=some x) (hw:∀ q∈x.1.weights Tryz.prog 23,q<=reachBytes) :
  ∃ (A:Option Addr) (ls:List (List Int)) (c:Nat),cs=[.slice A ls.length c]/\RowII w Any A ls/\(ls.length<=LI/\ls.length<=5864062014800)/\(∀ l∈ls,l.length<=LI)/\ls.length<=c:=by
 rcases open_row Tryz.underlying23 cellsI bytesI h hw with rfl|⟨a,len,cap,rfl,hl,hcap,hat⟩
 ·exact ⟨none,[],0,rfl,fun i hi=>absurd hi (by simp),⟨Nat.zero_le _,Nat.zero_le _⟩,by simp,Nat.zero_le _⟩
 ·obtain ⟨ls,hvl,hvs⟩:=choose_list (n:=len) (P:=fun i (l:List Int)=>∃ A' c',w.cells? 0 (a.add (i*1)) 1=some [.slice A' l.length c']/\RowI w Any A' l/\l.length<=LI/\l.length<=c') fun i hi=>by
   obtain ⟨cs',y,n',hcs,ht,hwy⟩:=hat i hi
   obtain ⟨A',l,c',e,hr,h1,h2⟩:=open_rowI ht hwy
   exact ⟨l,A',c',by rw [hcs,e],hr,h1,h2⟩
  refine ⟨some a,ls,cap,by rw [hvl],fun i hi=>?_,⟨by unfold LI; unfold reachBytes at hcap; omega,by unfold reachBytes at hcap; omega⟩,fun l hl=>?_,by omega⟩
  ·obtain ⟨A',c',hc,hr,h1,h2⟩:=hvs i hi
   rw [Nat.mul_one] at hc
   exact ⟨a,A',c',rfl,trivial,cell0 hc,h2,hr⟩
  ·obtain ⟨i,hi,rfl⟩:=List.mem_iff_getElem.1 hl
   obtain ⟨A',c',hc,hr,h1,h2⟩:=hvs i hi
   exact h1
theorem open_statec {fuel:Nat} {cs:List Value} {x:DataW H×List MemPlace} (h:DataW.trod enc Tryz.prog w 0 (fun _=>true) held fuel 26 cs=some x) (hw:∀ q∈x.1.weights Tryz.prog 26,q<=reachBytes) :
  ∃ (s:SS) (u0 u1 u2:Value),cs=[u0,u1,u2]/\SV w Any s (.agg #[u0,u1,u2])/\s.cells.length<=5864062014800:=by
 have hts:=DataW.trod_struct Tryz.underlying26 h
 obtain ⟨xs,n,hfu,hx,hcl,hxl,hg⟩:=hts
 subst hx
 rw [cellsState] at hcl
 match cs,hcl with
 | [c0,c1,c2],_ =>
 match xs,hxl with
 | [y0,y1,y2],_ =>
 have g0:=hg 0 _ rfl
 have g1:=hg 1 _ rfl
 have g2:=hg 2 _ rfl
 have hw0:∀ q∈y0.1.weights Tryz.prog 23,q<=reachBytes:=fun q hq=>by
  refine hw q ?_
  simp only [List.map_cons,List.map_nil,DataW.weights,Tryz.underlying26]
  simp only [DataW.weightsEach,List.mem_append]
  exact .inl hq
 have hw1:∀ q∈y1.1.weights Tryz.prog 24,q<=reachBytes:=fun q hq=>by
  refine hw q ?_
  simp only [List.map_cons,List.map_nil,DataW.weights,Tryz.underlying26]
  simp only [DataW.weightsEach,List.mem_append]
  exact .inr (.inl hq)
 have hw2:∀ q∈y2.1.weights Tryz.prog 24,q<=reachBytes:=fun q hq=>by
  refine hw q ?_
  simp only [List.map_cons,List.map_nil,DataW.weights,Tryz.underlying26]
  simp only [DataW.weightsEach,List.mem_append]
  exact .inr (.inr (.inl hq))
 obtain ⟨A0,ls,k0,e0,hr0,hl0,hl0',hc0⟩:=open_rowIIc g0 hw0
 obtain ⟨A1,l1,k1,e1,hr1,hl1,hc1⟩:=open_rowI g1 hw1
 obtain ⟨A2,l2,k2,e2,hr2,hl2,hc2⟩:=open_rowI g2 hw2
 injection e0 with e0
 injection e1 with e1
 injection e2 with e2
 subst e0 e1 e2
 exact ⟨⟨ls,l1,l2⟩,_,_,_,rfl,⟨A0,k0,A1,k1,A2,k2,rfl,hr0,hr1,hr2,hc0,hc1,hc2,hl0.1,hl0',hl1,hl2⟩,hl0.2⟩
theorem state_inc {W:World} {base:Nat} {v:Value} {d:DataW H} {p:List MemPlace} (hok:Value.okWide Tryz.prog W .any base 26 v)
  (h:DataW.Trod enc Tryz.prog W 0 (fun _=>true) true 26 v d p) (hw:∀ n∈d.weights Tryz.prog 26,n<=reachBytes):∃ s,SV W Any s v/\s.cells.length<=5864062014800:=by
 obtain ⟨cs,rfl,hcs⟩:=okWide_struct Tryz.underlying26 hok
 obtain ⟨fuel,hf⟩:=h
 obtain ⟨s,u0,u1,u2,e,hs,hlc⟩:=open_statec hf hw
 refine ⟨s,?_,hlc⟩
 have:cs = #[u0,u1,u2]:=by
  apply Array.ext'
  simpa [Value.cells] using e
 rw [this]
 exact hs
end
theorem cellsPr:Tryz.prog.cellsOf 103=6:=by kernel_rfl
theorem bytesPr:Tryz.prog.bytesOf 103=96:=by kernel_rfl
theorem cellsPg:Tryz.prog.cellsOf 35=6:=by kernel_rfl
section
variable {H:Type} {enc:TypeId×Value->H} {w:World} {held:Bool}
instance:Inhabited PR:=⟨⟨⟨#[]⟩,[],zeroT'⟩⟩
theorem open_proc {fuel:Nat} {cs:List Value} {x:DataW H×List MemPlace} (h:DataW.trod enc Tryz.prog w 0 (fun _=>true) held fuel 103 cs=some x) (hw:∀ q∈x.1.weights Tryz.prog 103,q<=reachBytes) :
  ∃ (r:PR) (A1:Option Addr) (c1:Nat) (A2:Option Addr) (c2:Nat),cs=[.string r.s,.slice A1 r.ps.length c1,.int .u8 r.b.k,.int .i64 r.b.n,.string r.b.s,.slice A2 r.b.ks.length c2]/\PrR w Any r A1 c1 A2 c2:=by
 have hts:=DataW.trod_struct Tryz.underlying103 h
 obtain ⟨xs,n,hfu,hx,hcl,hxl,hg⟩:=hts
 subst hx
 rw [cellsPr] at hcl
 match cs,hcl with
 | [c0,c1,c2,c3,c4,c5],_ =>
 match xs,hxl with
 | [y0,y1,y2],_ =>
 have g0:=hg 0 _ rfl
 have g1:=hg 1 _ rfl
 have g2:=hg 2 _ rfl
 have hw1:∀ q∈y1.1.weights Tryz.prog 22,q<=reachBytes:=fun q hq=>by
  refine hw q ?_
  simp only [List.map_cons,List.map_nil,DataW.weights,Tryz.underlying103]
  simp only [DataW.weightsEach,List.map_cons,List.map_nil,List.mem_append]
  exact .inr (.inl hq)
 have hw2:∀ q∈y2.1.weights Tryz.prog 29,q<=reachBytes:=fun q hq=>by
  refine hw q ?_
  simp only [List.map_cons,List.map_nil,DataW.weights,Tryz.underlying103]
  simp only [DataW.weightsEach,List.map_cons,List.map_nil,List.mem_append]
  exact .inr (.inr (.inl hq))
 obtain ⟨s,e0,_,ws⟩:=DataW.trod_string Tryz.underlying9 g0
 obtain ⟨A1,ps,k1,e1,hrow,hlp,hlc⟩:=open_vars g1 hw1
 obtain ⟨t,u0,u1,u2,u3,e2,hn,_,_⟩:=open_node _ _ _ g2 hw2
 obtain ⟨A2,k2,rfl,rfl,rfl,rfl,hn'⟩:=nv_parts hn
 injection e0 with e0
 injection e1 with e1
 change List.take (Tryz.prog.cellsOf 29) [c2,c3,c4,c5]=_ at e2
 rw [cellsNode] at e2
 simp only [List.take_succ_cons,List.take_zero,List.cons.injEq,and_true] at e2
 obtain ⟨rfl,rfl,rfl,rfl⟩:=e2
 subst e0 e1
 exact ⟨⟨s,ps,t⟩,A1,k1,A2,k2,rfl,ws,hrow,hlp,hlc,hn'⟩
theorem open_procs {fuel:Nat} {cs:List Value} {x:DataW H×List MemPlace} (h:DataW.trod enc Tryz.prog w 0 (fun _=>true) held fuel 33 cs=some x) (hw:∀ q∈x.1.weights Tryz.prog 33,q<=reachBytes) :
  ∃ (A:Option Addr) (ps:List PR) (c:Nat),cs=[.slice A ps.length c]/\RowP w Any A ps/\ps.length<=LV/\ps.length<=c:=by
 rcases open_row Tryz.underlying33 cellsPr bytesPr h hw with rfl|⟨a,len,cap,rfl,hl,hcap,hat⟩
 ·exact ⟨none,[],0,rfl,fun i hi=>absurd hi (by simp),Nat.zero_le _,Nat.zero_le _⟩
 ·obtain ⟨ps,hvl,hvs⟩:=choose_list (n:=len) (P:=fun i (r:PR)=>∃ A1 c1 A2 c2,w.cells? 0 (a.add (i*6)) 6=some [.string r.s,.slice A1 r.ps.length c1,.int .u8 r.b.k,.int .i64 r.b.n,.string r.b.s,.slice A2 r.b.ks.length c2]/\PrR w Any r A1 c1 A2 c2) fun i hi=>by
   obtain ⟨cs',y,n',hcs,ht,hwy⟩:=hat i hi
   obtain ⟨r,A1,c1,A2,c2,rfl,hr⟩:=open_proc ht hwy
   exact ⟨r,A1,c1,A2,c2,hcs,hr⟩
  refine ⟨some a,ps,cap,by rw [hvl],fun i hi=>?_,by unfold LV; unfold reachBytes at hcap; omega,by omega⟩
  obtain ⟨A1,c1,A2,c2,hc,hr⟩:=hvs i hi
  obtain ⟨_,_,hcell⟩:=World.cells?_some hc
  refine ⟨a,A1,c1,A2,c2,rfl,trivial,⟨?_,?_,?_,?_,?_,?_⟩,hr⟩
  ·have:=hcell 0 (by omega); simpa [Addr.add] using this
  ·have:=hcell 1 (by omega); simpa [Addr.add] using this
  ·have:=hcell 2 (by omega); simpa [Addr.add] using this
  ·have:=hcell 3 (by omega); simpa [Addr.add] using this
  ·have:=hcell 4 (by omega); simpa [Addr.add] using this
  ·have:=hcell 5 (by omega); simpa [Addr.add] using this
theorem open_prog {fuel:Nat} {cs:List Value} {x:DataW H×List MemPlace} (h:DataW.trod enc Tryz.prog w 0 (fun _=>true) held fuel 35 cs=some x) (hw:∀ q∈x.1.weights Tryz.prog 35,q<=reachBytes) :
  ∃ (p:PG) (A1:Option Addr) (c1:Nat) (A2:Option Addr) (c2:Nat) (A3:Option Addr) (c3:Nat),cs=[.slice A1 p.vs.length c1,.slice A2 p.prs.length c2,.int .u8 p.m.k,.int .i64 p.m.n,.string p.m.s,.slice A3 p.m.ks.length c3]/\PgR w Any p A1 c1 A2 c2 A3 c3:=by
 have hts:=DataW.trod_struct Tryz.underlying35 h
 obtain ⟨xs,n,hfu,hx,hcl,hxl,hg⟩:=hts
 subst hx
 rw [cellsPg] at hcl
 match cs,hcl with
 | [c0,c1,c2,c3,c4,c5],_ =>
 match xs,hxl with
 | [y0,y1,y2],_ =>
 have g0:=hg 0 _ rfl
 have g1:=hg 1 _ rfl
 have g2:=hg 2 _ rfl
 have hw0:∀ q∈y0.1.weights Tryz.prog 22,q<=reachBytes:=fun q hq=>by
  refine hw q ?_
  simp only [List.map_cons,List.map_nil,DataW.weights,Tryz.underlying35]
  simp only [DataW.weightsEach,List.map_cons,List.map_nil,List.mem_append]
  exact .inl hq
 have hw1:∀ q∈y1.1.weights Tryz.prog 33,q<=reachBytes:=fun q hq=>by
  refine hw q ?_
  simp only [List.map_cons,List.map_nil,DataW.weights,Tryz.underlying35]
  simp only [DataW.weightsEach,List.map_cons,List.map_nil,List.mem_append]
  exact .inr (.inl hq)
 have hw2:∀ q∈y2.1.weights Tryz.prog 29,q<=reachBytes:=fun q hq=>by
  refine hw q ?_
  simp only [List.map_cons,List.map_nil,DataW.weights,Tryz.underlying35]
  simp only [DataW.weightsEach,List.map_cons,List.map_nil,List.mem_append]
  exact .inr (.inr (.inl hq))
 obtain ⟨A1,vs,k1,e0,hrow,hlv,hlvc⟩:=open_vars g0 hw0
 obtain ⟨A2,ps,k2,e1,hrp,hlp,hlpc⟩:=open_procs g1 hw1
 obtain ⟨t,u0,u1,u2,u3,e2,hn,_,_⟩:=open_node _ _ _ g2 hw2
 obtain ⟨A3,k3,rfl,rfl,rfl,rfl,hn'⟩:=nv_parts hn
 injection e0 with e0
 injection e1 with e1
 change List.take (Tryz.prog.cellsOf 29) [c2,c3,c4,c5]=_ at e2
 rw [cellsNode] at e2
 simp only [List.take_succ_cons,List.take_zero,List.cons.injEq,and_true] at e2
 obtain ⟨rfl,rfl,rfl,rfl⟩:=e2
 subst e0 e1
 exact ⟨⟨vs,ps,t⟩,A1,k1,A2,k2,A3,k3,rfl,hrow,hlv,hlvc,hrp,hlp,hlpc,hn'⟩
end
theorem prog_in {H:Type} {enc:TypeId×Value->H} {W:World} {base:Nat} {v:Value} {d:DataW H} {p:List MemPlace} (hok:Value.okWide Tryz.prog W .any base 35 v)
  (h:DataW.Trod enc Tryz.prog W 0 (fun _=>true) true 35 v d p) (hw:∀ n∈d.weights Tryz.prog 35,n<=reachBytes):∃ g,PV W Any g v:=by
 obtain ⟨cs,rfl,hcs⟩:=okWide_struct Tryz.underlying35 hok
 obtain ⟨fuel,hf⟩:=h
 obtain ⟨g,A1,c1,A2,c2,A3,c3,e,hr⟩:=open_prog hf hw
 refine ⟨g,A1,c1,A2,c2,A3,c3,?_,hr⟩
 have:cs = #[.slice A1 g.vs.length c1,.slice A2 g.prs.length c2,.int .u8 g.m.k,.int .i64 g.m.n,.string g.m.s,.slice A3 g.m.ks.length c3]:=by
  apply Array.ext'
  simpa [Value.cells] using e
 rw [this]
end Go.Proofs.YtckhofdinldhpaaGreat
