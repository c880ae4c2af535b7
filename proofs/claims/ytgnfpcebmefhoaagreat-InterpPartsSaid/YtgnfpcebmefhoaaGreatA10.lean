/-
  Texts of the proof, put together without their remarks: Ib, Fw, Aw, Alt, Awk, Gr.
-/
import Derived.Test.YtgnfpcebmefhoaaGreatA9
set_option linter.unusedSimpArgs false
set_option linter.unusedVariables false
set_option maxHeartbeats 8000000
set_option maxRecDepth 100000
namespace Go.Proofs.YtgnfpcebmefhoaaGreat
open Go Go.RowKit
theorem start1_any {C:RC} (hC:C.Ok) {W:World} {r:RS} (h:RI C W r) (hG:∀ u∈C.p.m.ks,GP C.p.prs u) (g:Nat) (back:Bool) (hg:runO C.p.prs C.F g back C.p.m r ≠ .gas) (pb qb bb:Nat)
  (h0:W.cell? ⟨pb,0,none⟩=some (.pointer (some ⟨C.rb,0,none⟩))) (hq:W.heap[qb]?=some (.cells #[.slice C.A1 C.p.vs.length C.c1,.slice C.A2 C.p.prs.length C.c2,.int .u8 C.p.m.k,.int .i64 C.p.m.n,.string C.p.m.s,.slice C.A3 C.p.m.ks.length C.c3] 28 (0,0))) (hb:W.cell? ⟨bb,0,none⟩=some (.bool back)) :
  Calls Tryz.prog 49 #[.pointer (some ⟨pb,0,none⟩),.pointer (some ⟨qb,0,none⟩),.pointer (some ⟨bb,0,none⟩)] W (RunP C W (runO C.p.prs C.F g back C.p.m r)):=by
 have HBK:=zh (block_all GP_GC g hC h C.p.m _ back hC.pg.main hG hg)
 have q2:W.cell? ⟨qb,2,none⟩=some (.int .u8 C.p.m.k):=zc hq rfl
 have q3:W.cell? ⟨qb,3,none⟩=some (.int .i64 C.p.m.n):=zc hq rfl
 have q4:W.cell? ⟨qb,4,none⟩=some (.string C.p.m.s):=zc hq rfl
 have q5:W.cell? ⟨qb,5,none⟩=some (.slice C.A3 C.p.m.ks.length C.c3):=zc hq rfl
 obtain ⟨o,ho⟩:∃ o,runO C.p.prs C.F g back C.p.m r=o:=⟨_,rfl⟩
 rw [ho] at HBK hg ⊢
 clear hC h hG hq ho
 go_enter Tryz.func49,Tryz.ntmps49
 go_wp2_with fail
 refine HBK.out.mono ?_
 rintro e w1 ⟨hk1,hb1,ho1⟩
 cases o with
 | gas=>exact absurd rfl hg
 | err x =>
  subst ho1
  exact ⟨rfl,hk1,hb1,rfl⟩
 | ok r1 =>
  obtain ⟨⟨u,rfl⟩,hr1⟩:=ho1
  have HR:=zh hr1
  have HK1:=zh hk1
  have HB1:=zh hb1
  clear h0 q2 q3 q4 q5 hb hr1 hk1 hb1
  go_wp2_with fail
  go_end0
  exact ⟨HK1.out,HB1.out,⟨_,rfl⟩,HR.out⟩
def outR (s:SS):Out->SS×Nat×Int×List Nat
 | .ok r=>(r.S.state,r.n,0,r.ent)
 | .err e=>(s,0,e,[])
 | .gas=>(s,0,0,[])
def resO (p:PG) (s:SS) (F:Int) (g:Nat) (back:Bool):SS×Nat×Int×List Nat :=
 if validB p=false\/chkN p≠0 then (s,0,3,[]) else if fitB p.vs s=false then (s,0,20,[]) else outR s (runO p.prs F g back p.m ⟨newS p.vs s,0,List.replicate p.prs.length 0⟩)
def LimR (R:SS×Nat×Int×List Nat):Prop:=R.1.Lim/\(R.2.2.1=0->R.1.cells.length<=1000+R.2.1/\(∀ l∈R.1.cells,l.length<=1000)/\R.1.tin.length<=4096/\R.1.tout.length<=4096)
theorem LimR.run {r:RS} (h:r.S.WF) (hf:FB r.n r.S) (e:List Nat):LimR (r.S.state,r.n,0,e):=by
 obtain ⟨-,h1,h2⟩:=state_I h
 obtain ⟨kd,hb,-⟩:=h.ex
 refine ⟨h1,fun _=>⟨?_,h2,h.tin.1,h.tout.1⟩⟩
 have:=hb.len
 have:=hf.1
 simp only [ST.state,List.length_map,List.length_take]
 omega
def ResP (W:World) (R:SS×Nat×Int×List Nat) (e:Ending) (W':World):Prop:=∃ A c v1 v2 v3,e=.returned (.tuple #[.slice A R.2.2.2.length c,.agg #[v1,v2,v3,.int .i64 (R.2.1:Int),.int .i64 R.2.2.1]]) /\
 OwnS W' W.heap.size R.1 (.agg #[v1,v2,v3])/\RowI W' (fun b=>W.heap.size<=b) A (R.2.2.2.map Int.ofNat)/\R.2.2.2.length<=c/\Below W.heap.size W W'/\LimR R
theorem OwnS.slices {W:World} {n0:Nat} {s:SS} {v:Value} (h:OwnS W n0 s v):∃ A c B d D e,v=.agg #[.slice A s.cells.length c,.slice B s.tin.length d,.slice D s.tout.length e]:=by
 obtain ⟨vc,vi,vo,fc,rfl,hr,-⟩:=h
 obtain ⟨A,c,e1,-⟩:=row_slice (hr.row .all)
 obtain ⟨B,d,e2,-⟩:=row_slice (hr.row .inp)
 obtain ⟨D,e,e3,-⟩:=row_slice (hr.row .out)
 change vc=.slice A s.cells.length c at e1
 change vi=.slice B s.tin.length d at e2
 change vo=.slice D s.tout.length e at e3
 exact ⟨A,c,B,d,D,e,by rw [e1,e2,e3]⟩
theorem OwnS.chg {W W':World} {n0:Nat} {s:SS} {v:Value} {Cc:Nat->Prop} (h:OwnS W n0 s v) (hc:Chg Cc W W') (hC:∀ b,Cc b->b<n0):OwnS W' n0 s v:=by
 obtain ⟨vc,vi,vo,fc,rfl,hr,hi⟩:=h
 exact ⟨vc,vi,vo,fc,rfl,hr.chg hc fun i b hb hcb=>by have:=(hr.lt i b hb).1; have:=hC b hcb; omega,hi⟩
theorem OwnS.lower {W:World} {n0 n1:Nat} {s:SS} {v:Value} (h:OwnS W n1 s v) (hn:n0<=n1):OwnS W n0 s v:=by
 obtain ⟨vc,vi,vo,fc,rfl,hr,hi⟩:=h
 exact ⟨vc,vi,vo,fc,rfl,hr.mono hn,hi⟩
theorem set5 {W:World} {b:Nat} {x0 x1 x2 x3 x4 u0 u1 u2 u3 u4:Value} {E:TypeId} (h:W.heap[b]?=some (.cells #[x0,x1,x2,x3,x4] E (0,0))) :
  (((((W.setCell ⟨b,0,none⟩ u0).setCell ⟨b,1,none⟩ u1).setCell ⟨b,2,none⟩ u2).setCell ⟨b,3,none⟩ u3).setCell ⟨b,4,none⟩ u4).heap[b]?=some (.cells #[u0,u1,u2,u3,u4] E (0,0)) /\
   Chg (fun q=>q=b) W (((((W.setCell ⟨b,0,none⟩ u0).setCell ⟨b,1,none⟩ u1).setCell ⟨b,2,none⟩ u2).setCell ⟨b,3,none⟩ u3).setCell ⟨b,4,none⟩ u4):=by
 refine ⟨?_,(((((Chg.refl (fun q=>q=b) W).setCell (p:=⟨b,0,none⟩) (.inl rfl) _).setCell (p:=⟨b,1,none⟩) (.inl rfl) _).setCell (p:=⟨b,2,none⟩) (.inl rfl) _).setCell (p:=⟨b,3,none⟩) (.inl rfl) _).setCell (p:=⟨b,4,none⟩) (.inl rfl) _⟩
 rw [heap_setCell_same _ b 4 _ _ u4 (heap_setCell_same _ b 3 _ _ u3 (heap_setCell_same _ b 2 _ _ u2 (heap_setCell_same _ b 1 _ _ u1 (heap_setCell_same W b 0 _ _ u0 h))))]
 simp
theorem bRes (A B D:Option Addr) (l c m d n e:Nat) (x:Int) (w:World):(Instr.build 37 #[(0,.agg #[.slice A l c,.slice B m d,.slice D n e]),(2,.int .i64 x)]).run Tryz.prog w=.ok (.agg #[.slice A l c,.slice B m d,.slice D n e,.int .i64 0,.int .i64 x]) w:=by kernel_rfl
theorem bRes1 (A B D:Option Addr) (l c m d n e:Nat) (x:Int) (w:World):(Instr.build 37 #[(0,.agg #[.slice A l c,.slice B m d,.slice D n e]),(1,.int .i64 x)]).run Tryz.prog w=.ok (.agg #[.slice A l c,.slice B m d,.slice D n e,.int .i64 x,.int .i64 0]) w:=by kernel_rfl
theorem made_intI (n:Nat):madeCells (Value.int .i64 0).cells (n*1)=(flatI (List.replicate n 0)).toArray:=by
 apply Array.ext'
 apply List.ext_getElem
 ·rw [Array.length_toList,size_madeCells]; simp [flatI]
 ·intro i h1 h2
  have e:i % 1=0:=by omega
  simp [madeCells,flatI,Value.cells,e]
theorem bMkI (n:Nat) (hn:n<=4096) (w:World):(Instr.makeSlice 30 (.int .i64 (n:Int)) (.int .i64 (n:Int))).run Tryz.prog w=.ok (.slice (some ⟨w.heap.size,0,none⟩) n n) (w.alloc (.cells (flatI (List.replicate n 0)).toArray 3)):=by
 have h:=intInfo
 obtain ⟨i,hi,hz⟩:=Option.map_eq_some_iff.1 h
 injection hz with h1 h2
 injection h2 with h2 h3
 have hsc:(4096:Nat)<=9223372036854775807:=by decide
 have:=run_make_rowN (P:=Tryz.prog) 30 3 i (.int .i64 0) Tryz.underlying30 hi h1 .i64 .i64 n n (Nat.le_refl _) (by rw [h3]; omega) (Nat.le_trans hn hsc) w
 rw [h2,made_intI] at this
 exact this
theorem bRun (A1 A2 A3 E:Option Addr) (l1 c1 l2 c2 l3 c3 m d:Nat) (k n F:Int) (s:ByteArray) (sb:Nat) (w:World):(Instr.build 86 #[(0,pv A1 l1 c1 A2 l2 c2 k n s A3 l3 c3),(1,.pointer (some ⟨sb,0,none⟩)),(3,.int .i64 F),(4,.slice E m d)]).run Tryz.prog w =
  .ok (.agg #[.slice A1 l1 c1,.slice A2 l2 c2,.int .u8 k,.int .i64 n,.string s,.slice A3 l3 c3,.pointer (some ⟨sb,0,none⟩),.int .i64 0,.int .i64 F,.slice E m d]) w:=by kernel_rfl
theorem blk_ne {W:World} {a b:Nat} {x y:Array Value} {E F:TypeId} (ha:W.heap[a]?=some (.cells x E (0,0))) (hb:W.heap[b]?=some (.cells y F (0,0))) (hne:E≠F):a≠b:=by
 rintro rfl
 rw [ha] at hb
 injection hb with hb
 injection hb with h1 h2
 exact hne h2
theorem below_kpt {W w4 w8 w11:World} {n0:Nat} {kb:Nat->Prop} (h4:Below W.heap.size W w4) (h11:Below W.heap.size W w11) (h48:Below w4.heap.size w4 w8) (hk:Kpt n0 kb w8 w11) (hn:w4.heap.size<=n0):Below w4.heap.size w4 w11 :=
 ⟨h11.os.trans h4.os.symm,h11.tape.trans h4.tape.symm,h11.output.trans h4.output.symm,Nat.le_trans h48.size hk.size,fun b hb=>(hk.kept b (Nat.lt_of_lt_of_le hb h48.size) (.inl (Nat.lt_of_lt_of_le hb hn))).trans (h48.block b hb)⟩
theorem fnStart1:IsFn Tryz.prog 49 Tryz.f49:=⟨Tryz.func49,by kernel_rfl,by kernel_rfl⟩
theorem fnStateI:IsFn Tryz.prog 51 Tryz.f51:=⟨Tryz.func51,by kernel_rfl,by kernel_rfl⟩
def OkR (C:RC) (lo hi:Nat) (o:Out) (w9 w':World):Prop:=∃ r,o=.ok r/\(C.plus lo hi).Ok/\RI (C.plus lo hi) w' r/\Kpt C.n0 C.kb w9 w'
def ErX (C:RC) (o:Out) (w9:World) (x:Int) (w':World):Prop:=o=.err x/\Kpt C.n0 C.kb w9 w'/\Below C.w.heap.size C.w w'
theorem attempt_run {C:RC} {w8 w9:World} {r:RS} {jb:Nat} (hC8:C.Ok) (h8:RI C w8 r) (hw9:w8.alloc (.cells #[.slice none 0 0,.bool false] 91)=w9) (hjb:w8.heap.size=jb) (hG:∀ u∈C.p.m.ks,GP C.p.prs u) (g:Nat) (back:Bool) (o:Out) (ho:runO C.p.prs C.F g back C.p.m r=o) (hg:o ≠ .gas) (pb qb bb:Nat)
  (h0:w8.cell? ⟨pb,0,none⟩=some (.pointer (some ⟨C.rb,0,none⟩))) (hq:w8.heap[qb]?=some (.cells #[.slice C.A1 C.p.vs.length C.c1,.slice C.A2 C.p.prs.length C.c2,.int .u8 C.p.m.k,.int .i64 C.p.m.n,.string C.p.m.s,.slice C.A3 C.p.m.ks.length C.c3] 28 (0,0))) (hb:w8.cell? ⟨bb,0,none⟩=some (.bool back)) :
  Calls Tryz.prog 48 #[.pointer (some ⟨jb,0,none⟩),.func (.func 49) #[] #[.pointer (some ⟨pb,0,none⟩),.pointer (some ⟨qb,0,none⟩),.pointer (some ⟨bb,0,none⟩)]] w9 (AttP w9 (OkR (C.plus jb w9.heap.size) w9.heap.size (w9.heap.size+3) o w9) (ErX (C.plus jb w9.heap.size) o w9)):=by
 have hbj:=bl_al (Below.refl w8.heap.size w8) (.cells #[.slice none 0 0,.bool false] 91)
 have kj:=heap_alloc_new w8 (.cells #[.slice none 0 0,.bool false] 91)
 obtain ⟨hC9,h9⟩:=h8.plus hC8 hbj
 rw [hw9,hjb] at kj hC9 h9
 rw [hw9] at hbj
 have hjl:=blk_lt kj
 refine Attempt_any jb _ _ fnStart1 _ w9 kj _ _ fun W1 hb1 hz1=>?_
 obtain ⟨hC1,h1⟩:=h9.plus hC9 hb1
 have hbt:=bl_tt hbj hb1
 have hrun:=start1_any hC1 h1 hG g back (show runO C.p.prs C.F g back C.p.m r ≠ .gas by rw [ho]; exact hg) pb qb bb (zb hbt h0) (blk_bl hq hbt) (zb hbt hb)
 refine hrun.mono ?_
 rintro e w' ⟨hk,hbl,hout⟩
 rw [show runO ((C.plus jb w9.heap.size).plus w9.heap.size W1.heap.size).p.prs ((C.plus jb w9.heap.size).plus w9.heap.size W1.heap.size).F g back ((C.plus jb w9.heap.size).plus w9.heap.size W1.heap.size).p.m r=o from ho] at hout
 refine ⟨fun b hb hlt=>hk.kept b hlt (.inr ?_),?_⟩
 ·rcases hb with hb|rfl
  ·exact .inr ⟨hb,hlt⟩
  ·exact .inl (.inr ⟨Nat.le_refl _,hjl⟩)
 ·have hkk:Kpt C.n0 (C.plus jb w9.heap.size).kb w9 w':=(Kpt.of_below hb1).trans (Kpt.less (C:=C.plus jb w9.heap.size) hk)
  cases o with
  | gas=>exact absurd rfl hg
  | err x=>exact .inr ⟨x,hout,rfl,hkk,hbl⟩
  | ok r1 =>
   rw [hz1] at hC1 hout
   exact .inl ⟨hout.1,r1,rfl,hC1,hout.2,hkk⟩
theorem start_any (p:PG) (s:SS) (F:Int) (g:Nat) (back:Bool) (v sv:Value) (W:World) (hp:PV W Any p v) (hs:SV W Any s sv) (hcl:s.cells.length<=1000000) (hF:I64 F) (hF6:F<=1000000) (hg:F.toNat*2000+2000<=g) :
  Calls Tryz.prog 30 #[v,sv,.int .i64 F,.bool back] W (ResP W (resO p s F g back)):=by
 have HP:=zh hp
 have HS:=zh hs
 obtain ⟨A1,c1,A2,c2,A3,c3,rfl,hpg⟩:=hp
 obtain ⟨A,c,B,d,D,e,rfl,hr1,hr2,hr3,hc1,hc2,hc3,hl1,hl2,hl3,hl4⟩:=hs
 have HPG:=zh hpg
 have HLM:=zh (show s.Lim from ⟨hl1,hl2,hl3,hl4⟩)
 have HV:=zh (fun w' (hb:Below W.heap.size W w')=>Valid_any p Any _ w' (HP.out.later hb))
 have HCK:=zh (fun w' (hb:Below W.heap.size W w')=>SCheck_any p Any _ w' (HP.out.later hb))
 have HCL:=zh (fun w' (hb:Below W.heap.size W w')=>Clone_st s _ w' (HS.out.later hb) hcl)
 have HNW:=zh (fun w' (hb:Below W.heap.size W w')=>New_any p.vs s A1 c1 _ w' (hpg.vars.later hb) hpg.lv (HS.out.later hb))
 obtain ⟨Re,hRe⟩:∃ R,resO p s F g back=R:=⟨_,rfl⟩
 have HRE:=zh hRe
 rw [hRe]
 have hb4:=bl_al (bl_al (bl_al (bl_al (Below.refl W.heap.size W) (.cells #[.slice A1 p.vs.length c1,.slice A2 p.prs.length c2,.int .u8 p.m.k,.int .i64 p.m.n,.string p.m.s,.slice A3 p.m.ks.length c3] 28)) (.cells #[.slice A s.cells.length c,.slice B s.tin.length d,.slice D s.tout.length e] 32)) (.cells #[.bool back] 4)) (.cells #[.slice none 0 0,.slice none 0 0,.slice none 0 0,.int .i64 0,.int .i64 0] 37)
 have k0:=blk_al (blk_al (blk_al (heap_alloc_new W (.cells #[.slice A1 p.vs.length c1,.slice A2 p.prs.length c2,.int .u8 p.m.k,.int .i64 p.m.n,.string p.m.s,.slice A3 p.m.ks.length c3] 28)) (.cells #[.slice A s.cells.length c,.slice B s.tin.length d,.slice D s.tout.length e] 32)) (.cells #[.bool back] 4)) (.cells #[.slice none 0 0,.slice none 0 0,.slice none 0 0,.int .i64 0,.int .i64 0] 37)
 have k1:=blk_al (blk_al (heap_alloc_new (W.alloc (.cells #[.slice A1 p.vs.length c1,.slice A2 p.prs.length c2,.int .u8 p.m.k,.int .i64 p.m.n,.string p.m.s,.slice A3 p.m.ks.length c3] 28)) (.cells #[.slice A s.cells.length c,.slice B s.tin.length d,.slice D s.tout.length e] 32)) (.cells #[.bool back] 4)) (.cells #[.slice none 0 0,.slice none 0 0,.slice none 0 0,.int .i64 0,.int .i64 0] 37)
 have k2:=blk_al (heap_alloc_new ((W.alloc (.cells #[.slice A1 p.vs.length c1,.slice A2 p.prs.length c2,.int .u8 p.m.k,.int .i64 p.m.n,.string p.m.s,.slice A3 p.m.ks.length c3] 28)).alloc (.cells #[.slice A s.cells.length c,.slice B s.tin.length d,.slice D s.tout.length e] 32)) (.cells #[.bool back] 4)) (.cells #[.slice none 0 0,.slice none 0 0,.slice none 0 0,.int .i64 0,.int .i64 0] 37)
 have k3:=heap_alloc_new (((W.alloc (.cells #[.slice A1 p.vs.length c1,.slice A2 p.prs.length c2,.int .u8 p.m.k,.int .i64 p.m.n,.string p.m.s,.slice A3 p.m.ks.length c3] 28)).alloc (.cells #[.slice A s.cells.length c,.slice B s.tin.length d,.slice D s.tout.length e] 32)).alloc (.cells #[.bool back] 4)) (.cells #[.slice none 0 0,.slice none 0 0,.slice none 0 0,.int .i64 0,.int .i64 0] 37)
 simp only [World.size_alloc] at k1 k2 k3
 have hz4:((((W.alloc (.cells #[.slice A1 p.vs.length c1,.slice A2 p.prs.length c2,.int .u8 p.m.k,.int .i64 p.m.n,.string p.m.s,.slice A3 p.m.ks.length c3] 28)).alloc (.cells #[.slice A s.cells.length c,.slice B s.tin.length d,.slice D s.tout.length e] 32)).alloc (.cells #[.bool back] 4)).alloc (.cells #[.slice none 0 0,.slice none 0 0,.slice none 0 0,.int .i64 0,.int .i64 0] 37)).heap.size=W.heap.size+4:=by simp
 obtain ⟨w4,hw4⟩:∃ x,((((W.alloc (.cells #[.slice A1 p.vs.length c1,.slice A2 p.prs.length c2,.int .u8 p.m.k,.int .i64 p.m.n,.string p.m.s,.slice A3 p.m.ks.length c3] 28)).alloc (.cells #[.slice A s.cells.length c,.slice B s.tin.length d,.slice D s.tout.length e] 32)).alloc (.cells #[.bool back] 4)).alloc (.cells #[.slice none 0 0,.slice none 0 0,.slice none 0 0,.int .i64 0,.int .i64 0] 37))=x:=⟨_,rfl⟩
 rw [hw4] at hb4 k0 k1 k2 k3 hz4
 have HB4:=zh hb4
 have HK0:=zh k0
 have HK1:=zh k1
 have HK2:=zh k2
 have HK3:=zh k3
 have HZ4:=zh hz4
 have p0:w4.cell? ⟨W.heap.size,0,none⟩=some (.slice A1 p.vs.length c1):=zc k0 rfl
 have p1:w4.cell? ⟨W.heap.size,1,none⟩=some (.slice A2 p.prs.length c2):=zc k0 rfl
 have p2:w4.cell? ⟨W.heap.size,2,none⟩=some (.int .u8 p.m.k):=zc k0 rfl
 have p3:w4.cell? ⟨W.heap.size,3,none⟩=some (.int .i64 p.m.n):=zc k0 rfl
 have p4:w4.cell? ⟨W.heap.size,4,none⟩=some (.string p.m.s):=zc k0 rfl
 have p5:w4.cell? ⟨W.heap.size,5,none⟩=some (.slice A3 p.m.ks.length c3):=zc k0 rfl
 obtain ⟨vb,hvb⟩:∃ b,validB p=b:=⟨_,rfl⟩
 have HVB:=zh hvb
 rw [hvb] at HV HCK
 clear hpg hr1 hr2 hr3 hRe hvb hb4 k0 k1 k2 k3 hz4 hl1 hl2 hl3 hl4 hc1 hc2 hc3
 go_enter Tryz.func30,Tryz.ntmps30
 go_wp2_with fail
 refine (HV.out w4 HB4.out).mono ?_
 rintro e5 w5 ⟨rfl,b5⟩
 clear hw4
 cases vb
 ·have HX:=zh (show Re=(s,0,3,[]) by rw [<-HRE.out,resO,if_pos (.inl HVB.out)])
  clear p0 p1 p2 p3 p4 p5
  have hSB:=blk_bl HK1.out b5
  have hRB:=blk_bl HK3.out b5
  have s0:w5.cell? ⟨W.heap.size+1,0,none⟩=some (.slice A s.cells.length c):=zc hSB rfl
  have s1:w5.cell? ⟨W.heap.size+1,1,none⟩=some (.slice B s.tin.length d):=zc hSB rfl
  have s2:w5.cell? ⟨W.heap.size+1,2,none⟩=some (.slice D s.tout.length e):=zc hSB rfl
  have HCC:=zh (HCL.out w5 (bl_tt HB4.out b5))
  have HRB:=zh hRB
  have hbq:=b5
  clear hSB hRB
  go_wp2_with fail
  refine HCC.out.mono ?_
  rintro e9 w9 ⟨v9,rfl,ho9,hb9⟩
  obtain ⟨A9,c9,B9,d9,D9,e9,rfl⟩:=ho9.slices
  have HO9:=zh ho9
  have HB9:=zh (bl_tt hbq hb9)
  have hk9:=blk_bl HRB.out hb9
  have x0:w9.cell? ⟨W.heap.size+3,0,none⟩=some (.slice none 0 0):=zc hk9 rfl
  have x1:w9.cell? ⟨W.heap.size+3,1,none⟩=some (.slice none 0 0):=zc hk9 rfl
  have x2:w9.cell? ⟨W.heap.size+3,2,none⟩=some (.slice none 0 0):=zc hk9 rfl
  have x3:w9.cell? ⟨W.heap.size+3,3,none⟩=some (.int .i64 0):=zc hk9 rfl
  have x4:w9.cell? ⟨W.heap.size+3,4,none⟩=some (.int .i64 0):=zc hk9 rfl
  have xf:∀ o,w9.frozen? ⟨W.heap.size+3,o,none⟩=false:=fun _=>zf hk9
  have HK9:=zh hk9
  have hbr:=bRes
  have hsz9:W.heap.size+4<=w5.heap.size:=by have:=hbq.size; rw [HZ4.out] at this; exact this
  clear s0 s1 s2 hk9 ho9 hb9 hbq HCC
  go_wp2_with fail
  obtain ⟨hh,hch⟩:=set5 (u0:=.slice A9 s.cells.length c9) (u1:=.slice B9 s.tin.length d9) (u2:=.slice D9 s.tout.length e9) (u3:=.int .i64 0) (u4:=.int .i64 3) HK9.out
  obtain ⟨w10,hw10⟩:∃ zz,(((((w9.setCell ⟨W.heap.size+3,0,none⟩ (.slice A9 s.cells.length c9)).setCell ⟨W.heap.size+3,1,none⟩ (.slice B9 s.tin.length d9)).setCell ⟨W.heap.size+3,2,none⟩ (.slice D9 s.tout.length e9)).setCell ⟨W.heap.size+3,3,none⟩ (.int .i64 0)).setCell ⟨W.heap.size+3,4,none⟩ (.int .i64 3))=zz:=⟨_,rfl⟩
  rw [hw10] at hh hch ⊢
  have t0:w10.cell? ⟨W.heap.size+3,0,none⟩=some (.slice A9 s.cells.length c9):=zc hh rfl
  have t1:w10.cell? ⟨W.heap.size+3,1,none⟩=some (.slice B9 s.tin.length d9):=zc hh rfl
  have t2:w10.cell? ⟨W.heap.size+3,2,none⟩=some (.slice D9 s.tout.length e9):=zc hh rfl
  have t3:w10.cell? ⟨W.heap.size+3,3,none⟩=some (.int .i64 0):=zc hh rfl
  have t4:w10.cell? ⟨W.heap.size+3,4,none⟩=some (.int .i64 3):=zc hh rfl
  refine bodyPost_ret (v:=.tuple #[.slice none 0 0,.agg #[.slice A9 s.cells.length c9,.slice B9 s.tin.length d9,.slice D9 s.tout.length e9,.int .i64 0,.int .i64 3]]) (by simp [results,Tryz.results30,go_sem,t0,t1,t2,t3,t4]) rfl ?_
  rw [HX.out]
  exact ⟨none,0,_,_,_,rfl,(HO9.out.chg hch fun b hb=>by omega).lower (by omega),fun i hi=>absurd hi (by simp),Nat.le_refl _,(bl_tt HB4.out HB9.out).trans (hch.below (bl_tt HB4.out HB9.out).size fun b hb=>by omega),HLM.out,fun h=>by first|(simp at h; done)|exact absurd h HXN.out⟩
 ·have q0:=zb b5 p0
  have q1:=zb b5 p1
  have q2:=zb b5 p2
  have q3:=zb b5 p3
  have q4:=zb b5 p4
  have q5:=zb b5 p5
  have HC5:=zh (show Calls Tryz.prog 21 #[pv A1 p.vs.length c1 A2 p.prs.length c2 p.m.k p.m.n p.m.s A3 p.m.ks.length c3] w5 (fun e w'=>∃ A c,e=Ending.returned (.slice A (chkN p) c)/\Below w5.heap.size w5 w') from (HCK.out w5 (bl_tt HB4.out b5)).mono (fun e w' ⟨A,c,h1,h2⟩=>⟨A,c,by rw [h1,if_pos rfl],h2⟩))
  clear p0 p1 p2 p3 p4 p5 HCK HV
  go_wp2_with fail
  refine HC5.out.mono ?_
  rintro e6 w6 ⟨AA,cc,rfl,b6⟩
  have b46:=bl_tt b5 b6
  clear q0 q1 q2 q3 q4 q5
  by_cases hn:chkN p=0
  ·obtain ⟨n,hnn⟩:∃ n,chkN p=n:=⟨_,rfl⟩
   rw [hnn]
   obtain rfl:n=0:=by omega
   have hng:¬ (0:Int)<((0:Nat):Int):=by omega
   have hPB:=blk_bl HK0.out b46
   have hSB:=blk_bl HK1.out b46
   have p0:w6.cell? ⟨W.heap.size,0,none⟩=some (.slice A1 p.vs.length c1):=zc hPB rfl
   have s0:w6.cell? ⟨W.heap.size+1,0,none⟩=some (.slice A s.cells.length c):=zc hSB rfl
   have s1:w6.cell? ⟨W.heap.size+1,1,none⟩=some (.slice B s.tin.length d):=zc hSB rfl
   have s2:w6.cell? ⟨W.heap.size+1,2,none⟩=some (.slice D s.tout.length e):=zc hSB rfl
   have HN0:=zh hnn
   clear hPB hSB hn hnn
   go_wp2_with fail
   refine (HNW.out w6 (bl_tt HB4.out b46)).mono ?_
   rintro e7 w7 ⟨b7,⟨hfit,rfl⟩|⟨hfit,P,rfl,hsr⟩⟩
   ·have HX:=zh (show Re=(s,0,20,[]) by rw [<-HRE.out,resO,if_neg (by rw [HVB.out,HN0.out]; simp),if_pos hfit])
    have b47:=bl_tt b46 b7
    clear p0 s0 s1 s2 hfit
    have hSB:=blk_bl HK1.out b47
    have hRB:=blk_bl HK3.out b47
    have s0:w7.cell? ⟨W.heap.size+1,0,none⟩=some (.slice A s.cells.length c):=zc hSB rfl
    have s1:w7.cell? ⟨W.heap.size+1,1,none⟩=some (.slice B s.tin.length d):=zc hSB rfl
    have s2:w7.cell? ⟨W.heap.size+1,2,none⟩=some (.slice D s.tout.length e):=zc hSB rfl
    have HCC:=zh (HCL.out w7 (bl_tt HB4.out b47))
    have HRB:=zh hRB
    have hbq:=b47
    clear hSB hRB
    go_wp2_with fail
    refine HCC.out.mono ?_
    rintro e9 w9 ⟨v9,rfl,ho9,hb9⟩
    obtain ⟨A9,c9,B9,d9,D9,e9,rfl⟩:=ho9.slices
    have HO9:=zh ho9
    have HB9:=zh (bl_tt hbq hb9)
    have hk9:=blk_bl HRB.out hb9
    have x0:w9.cell? ⟨W.heap.size+3,0,none⟩=some (.slice none 0 0):=zc hk9 rfl
    have x1:w9.cell? ⟨W.heap.size+3,1,none⟩=some (.slice none 0 0):=zc hk9 rfl
    have x2:w9.cell? ⟨W.heap.size+3,2,none⟩=some (.slice none 0 0):=zc hk9 rfl
    have x3:w9.cell? ⟨W.heap.size+3,3,none⟩=some (.int .i64 0):=zc hk9 rfl
    have x4:w9.cell? ⟨W.heap.size+3,4,none⟩=some (.int .i64 0):=zc hk9 rfl
    have xf:∀ o,w9.frozen? ⟨W.heap.size+3,o,none⟩=false:=fun _=>zf hk9
    have HK9:=zh hk9
    have hbr:=bRes
    have hsz9:W.heap.size+4<=w7.heap.size:=by have:=hbq.size; rw [HZ4.out] at this; exact this
    clear s0 s1 s2 hk9 ho9 hb9 hbq HCC
    go_wp2_with fail
    obtain ⟨hh,hch⟩:=set5 (u0:=.slice A9 s.cells.length c9) (u1:=.slice B9 s.tin.length d9) (u2:=.slice D9 s.tout.length e9) (u3:=.int .i64 0) (u4:=.int .i64 20) HK9.out
    obtain ⟨w10,hw10⟩:∃ zz,(((((w9.setCell ⟨W.heap.size+3,0,none⟩ (.slice A9 s.cells.length c9)).setCell ⟨W.heap.size+3,1,none⟩ (.slice B9 s.tin.length d9)).setCell ⟨W.heap.size+3,2,none⟩ (.slice D9 s.tout.length e9)).setCell ⟨W.heap.size+3,3,none⟩ (.int .i64 0)).setCell ⟨W.heap.size+3,4,none⟩ (.int .i64 20))=zz:=⟨_,rfl⟩
    rw [hw10] at hh hch ⊢
    have t0:w10.cell? ⟨W.heap.size+3,0,none⟩=some (.slice A9 s.cells.length c9):=zc hh rfl
    have t1:w10.cell? ⟨W.heap.size+3,1,none⟩=some (.slice B9 s.tin.length d9):=zc hh rfl
    have t2:w10.cell? ⟨W.heap.size+3,2,none⟩=some (.slice D9 s.tout.length e9):=zc hh rfl
    have t3:w10.cell? ⟨W.heap.size+3,3,none⟩=some (.int .i64 0):=zc hh rfl
    have t4:w10.cell? ⟨W.heap.size+3,4,none⟩=some (.int .i64 20):=zc hh rfl
    refine bodyPost_ret (v:=.tuple #[.slice none 0 0,.agg #[.slice A9 s.cells.length c9,.slice B9 s.tin.length d9,.slice D9 s.tout.length e9,.int .i64 0,.int .i64 20]]) (by simp [results,Tryz.results30,go_sem,t0,t1,t2,t3,t4]) rfl ?_
    rw [HX.out]
    exact ⟨none,0,_,_,_,rfl,(HO9.out.chg hch fun b hb=>by omega).lower (by omega),fun i hi=>absurd hi (by simp),Nat.le_refl _,(bl_tt HB4.out HB9.out).trans (hch.below (bl_tt HB4.out HB9.out).size fun b hb=>by omega),HLM.out,fun h=>by first|(simp at h; done)|exact absurd h HXN.out⟩
   ·have b47:=bl_tt b46 b7
    have HFT:=zh hfit
    have HSR:=zh hsr
    clear p0 s0 s1 s2 hfit hsr
    have hPB:=blk_bl HK0.out b47
    have p0:w7.cell? ⟨W.heap.size,0,none⟩=some (.slice A1 p.vs.length c1):=zc hPB rfl
    have p1:w7.cell? ⟨W.heap.size,1,none⟩=some (.slice A2 p.prs.length c2):=zc hPB rfl
    have p2:w7.cell? ⟨W.heap.size,2,none⟩=some (.int .u8 p.m.k):=zc hPB rfl
    have p3:w7.cell? ⟨W.heap.size,3,none⟩=some (.int .i64 p.m.n):=zc hPB rfl
    have p4:w7.cell? ⟨W.heap.size,4,none⟩=some (.string p.m.s):=zc hPB rfl
    have p5:w7.cell? ⟨W.heap.size,5,none⟩=some (.slice A3 p.m.ks.length c3):=zc hPB rfl
    obtain ⟨hvl,hpl,hpp,-,hpm⟩:=valid_bounds HVB.out
    have hmk:=bMkI p.prs.length (by omega)
    obtain ⟨np,hnp⟩:∃ n,p.prs.length=n:=⟨_,rfl⟩
    rw [hnp] at p1 hmk
    have HNP:=zh hnp
    obtain ⟨HH,hHH⟩:∃ H:World->Prop,H=fun w':World=>w'.cell? ⟨W.heap.size,0,none⟩=some (.slice A1 p.vs.length c1)/\w'.cell? ⟨W.heap.size,1,none⟩=some (.slice A2 np c2)/\w'.cell? ⟨W.heap.size,2,none⟩=some (.int .u8 p.m.k)/\w'.cell? ⟨W.heap.size,3,none⟩=some (.int .i64 p.m.n)/\w'.cell? ⟨W.heap.size,4,none⟩=some (.string p.m.s)/\w'.cell? ⟨W.heap.size,5,none⟩=some (.slice A3 p.m.ks.length c3):=⟨_,rfl⟩
    have HSS:=zh (show ∀ w',Below w7.heap.size w7 w'->HH w' by
     rw [hHH]
     exact fun w' hb=>⟨zb hb p0,zb hb p1,zb hb p2,zb hb p3,zb hb p4,zb hb p5⟩)
    rw [hnp]
    go_upto_region 6 with fail
    have hSS:HH w7.drew/\(fun _:World=>True) w7.drew:=⟨HSS.out _ (Below.refl _ _).drew,trivial⟩
    refine wp_region_noPanic ?_
    refine wp_region_G HH (fun _:World=>True) 10 (by kernel_rfl) ?_
    subst hHH
    refine zT 0 hSS ?_
    (try simp only [Act.put,zP])
    refine zT 1 hSS ?_
    (try simp only [Act.put,zP])
    refine zT 2 hSS ?_
    (try simp only [Act.put,zP])
    refine zT 3 hSS ?_
    (try simp only [Act.put,zP])
    refine zT 4 hSS ?_
    (try simp only [Act.put,zP])
    refine zT 5 hSS ?_
    (try simp only [Act.put,zP])
    clear p0 p1 p2 p3 p4 p5 hPB hnp
    refine wpG_invS (fun A f l a wr=>∃ (l6 l7 l8 l9:Bool) (v43 v44 v45 v12:Value) (eb rb pb:Nat),f=(!l6).toNat+(!l7).toNat+(!l8).toNat+(!l9).toNat+1/\l = #[true,true,true,true,true,true,l6,l7,l8,l9,false] /\
     a=(((A.put (some 43) v43).put (some 44) v44).put (some 45) v45).put (some 12) v12/\Hid (Below w7.heap.size w7 wr) /\
     Hid ((l7=true->l6=true)/\(l8=true->l7=true)/\(l6=true->v43=.slice (some ⟨eb,0,none⟩) np np/\wr.heap[eb]?=some (.cells (flatI (List.replicate np 0)).toArray 3 (0,0))/\w7.heap.size<=eb) /\
      (l7=true->v44=.agg #[.slice A1 p.vs.length c1,.slice A2 np c2,.int .u8 p.m.k,.int .i64 p.m.n,.string p.m.s,.slice A3 p.m.ks.length c3,.pointer (some ⟨P.sb,0,none⟩),.int .i64 0,.int .i64 F,.slice (some ⟨eb,0,none⟩) np np]) /\
      (l8=true->v45=.pointer (some ⟨rb,0,none⟩)/\wr.heap[rb]?=some (.cells #[.slice A1 p.vs.length c1,.slice A2 np c2,.int .u8 p.m.k,.int .i64 p.m.n,.string p.m.s,.slice A3 p.m.ks.length c3,.pointer (some ⟨P.sb,0,none⟩),.int .i64 0,.int .i64 F,.slice (some ⟨eb,0,none⟩) np np] 86 (0,0))/\w7.heap.size<=rb) /\
      (l9=true->v12=.pointer (some ⟨pb,0,none⟩)/\wr.heap[pb]?=some (.cells #[.pointer none] 84 (0,0))/\w7.heap.size<=pb)) /\
     Hid ((l6=false->v43=undef)/\(l7=false->v44=undef)/\(l8=false->v45=undef)/\(l9=false->v12=undef))) (fun A f l a wr h=>?_) ?_ ⟨false,false,false,false,undef,undef,undef,undef,0,0,0,rfl,rfl,(by simp only [Act.put,zD,zE,zF]),zh (Below.refl _ _).drew,zh ⟨fun h=>(by cases h),fun h=>(by cases h),fun h=>(by cases h),fun h=>(by cases h),fun h=>(by cases h),fun h=>(by cases h)⟩,zh ⟨fun _=>rfl,fun _=>rfl,fun _=>rfl,fun _=>rfl⟩⟩
    ·obtain ⟨_,_,_,_,_,_,_,_,_,_,_,_,_,_,hb,_⟩:=h
     exact ⟨HSS.out _ hb.out,trivial⟩
    rintro A' hA f l a wr ⟨l6,l7,l8,l9,v43,v44,v45,v12,eb,rb,pb,hf,rfl,ha,HBL,HC,HU⟩
    by_cases hall:(l6&&l7&&l8&&l9)=true
    ·left
     simp only [Bool.and_eq_true] at hall
     obtain ⟨⟨⟨rfl,rfl⟩,rfl⟩,rfl⟩:=hall
     obtain ⟨-,-,h6,h7,h8,h9⟩:=HC.out
     obtain ⟨rfl,he,hel⟩:=h6 rfl
     obtain rfl:=h7 rfl
     obtain ⟨rfl,hr,hrl⟩:=h8 rfl
     obtain ⟨rfl,hq,hql⟩:=h9 rfl
     subst hf ha hA
     have hner:eb≠rb:=blk_ne he hr (by decide)
     have hneq:eb≠pb:=blk_ne he hq (by decide)
     have hnrq:rb≠pb:=blk_ne hr hq (by decide)
     have c0:wr.cell? ⟨pb,0,none⟩=some (.pointer none):=zc hq rfl
     have cf:∀ j,wr.frozen? ⟨pb,j,none⟩=false:=fun j=>zf hq
     refine wpG_past (i:=10) (by kernel_rfl) rfl (by kernel_rfl) (fun K hK=>?_)
     (try simp only [Act.put,zP])
     go_simp
     have hch:Chg (fun b=>b=pb) wr (wr.setCell ⟨pb,0,none⟩ (.pointer (some ⟨rb,0,none⟩))):=(Chg.refl (fun b=>b=pb) wr).setCell (p:=⟨pb,0,none⟩) (.inl rfl) _
     have hh:(wr.setCell ⟨pb,0,none⟩ (.pointer (some ⟨rb,0,none⟩))).heap[pb]?=some (.cells #[.pointer (some ⟨rb,0,none⟩)] 84 (0,0)):=by
      rw [heap_setCell_same wr pb 0 _ _ (.pointer (some ⟨rb,0,none⟩)) hq]; rfl
     have HB8:=zh (show Below w7.heap.size w7 (wr.setCell ⟨pb,0,none⟩ (.pointer (some ⟨rb,0,none⟩))) from HBL.out.trans (hch.below HBL.out.size fun b e=>by omega))
     have HE8:=zh (hch.keep he hneq)
     have HR8:=zh (hch.keep hr hnrq)
     have HQ8:=zh hh
     obtain ⟨w8,hw8⟩:∃ x,wr.setCell ⟨pb,0,none⟩ (.pointer (some ⟨rb,0,none⟩))=x:=⟨_,rfl⟩
     rw [hw8] at HB8 HE8 HR8 HQ8 ⊢
     refine hK.out _ _ (HSS.out _ HB8.out) ?_
     clear hK K hSS hch hh hw8 c0 cf he hr hq h6 h7 h8 h9 HC HU HBL hmk HSS
     refine wpG_done (by kernel_rfl) ?_
     refine NoPanic.normal ?_
     (try simp only [Act.put,zP])
     have hlt_e:=blk_lt HE8.out
     have hlt_r:=blk_lt HR8.out
     have hlt_q:=blk_lt HQ8.out
     obtain ⟨C,hC⟩:∃ C:RC,C=⟨W,w6.heap.size,P.sb,rb,p,A1,c1,A2,c2,A3,c3,F,.slice (some ⟨eb,0,none⟩) np np,fun b=>b=pb⟩:=⟨_,rfl⟩
     have hs67:=b7.size
     have hs46:=b46.size
     have hz4:=HZ4.out
     have hbWw6:=bl_tt HB4.out b46
     have HCO:=zh (show C.Ok by
      rw [hC]
      exact ⟨HPG.out,hF,hF6,⟨by simp only; omega,by simp only; exact hnrq⟩,⟨by simp [Value.ownBlock]; exact hner,fun b hb hk=>by simp only [Value.ownBlock,Option.some.injEq] at hb; simp only at hk; omega⟩,fun q hq=>by have:=(hpp q hq).1; omega⟩)
     have HRI:=zh (show RI C w8 ⟨newS p.vs s,0,List.replicate np 0⟩ by
      rw [hC]
      have hks:=(KS.new hbWw6 b7 HSR.out).also HB8.out (kb':=fun b=>b=pb\/b=rb\/(Value.slice (some ⟨eb,0,none⟩) np np).ownBlock=some b) (fun b hb=>.inr (by
       rcases hb with rfl|rfl|hb
       ·exact ⟨hql,hlt_q⟩
       ·exact ⟨hrl,hlt_r⟩
       ·simp [Value.ownBlock] at hb
        subst hb
        exact ⟨hel,hlt_e⟩))
      refine ⟨hks,by rw [<-HNP.out] at HR8; simpa [RC.cells,HNP.out] using HR8.out,?_,by simp [HNP.out],fun c hc=>by simp at hc; omega,by simp,?_⟩
      ·refine ⟨by simp [flatI],.inr ⟨eb,np,_,by simp,Nat.le_trans hs67 hel,HE8.out,by simp,by unfold maxLen; have:=HNP.out; omega,by simp [flatI],by simp [flatI]⟩⟩
      ·exact ⟨by simp only [newS]; omega,fun f hf=>by simp [newS] at hf⟩)
     have HGP:=zh (GP_main HVB.out HN0.out)
     obtain ⟨o,ho⟩:∃ o,runO p.prs F g back p.m ⟨newS p.vs s,0,List.replicate np 0⟩=o:=⟨_,rfl⟩
     have hog:o ≠ .gas:=ho▸(run_good HVB.out hg back (newS p.vs s) (List.replicate np 0)).1
     have hon:Nz o:=ho▸runO_nz GP_GC HGP.out
     have HRR:=zh (show Re=outR s o by rw [<-HRE.out,resO,if_neg (by rw [HVB.out,HN0.out]; simp),if_neg (by rw [HFT.out]; simp),<-ho,<-HNP.out])
     have hHB48:=bl_tt b47 HB8.out
     obtain ⟨jb,hjb⟩:∃ x,w8.heap.size=x:=⟨_,rfl⟩
     obtain ⟨w9,hw9⟩:∃ x,w8.alloc (.cells #[.slice none 0 0,.bool false] 91)=x:=⟨_,rfl⟩
     have HAT:=zh (attempt_run HCO.out HRI.out hw9 hjb (by rw [hC]; exact HGP.out) g back o (by rw [hC]; exact ho) hog pb W.heap.size (W.heap.size+1+1) (by rw [hC]; exact zc HQ8.out rfl) (by rw [hC]; simp only; rw [HNP.out]; have:=blk_bl HK0.out hHB48; rw [HNP.out] at this; exact this) (zc (blk_bl HK2.out hHB48) rfl))
     have hz9:w9.heap.size=jb+1:=by rw [<-hw9]; simp [hjb]
     have HK89:=zh (show Kpt C.n0 C.kb w8 w9 from Kpt.of_below (hw9▸bl_al (Below.refl w8.heap.size w8) _))
     have hmf:∀ (fn:Fn) (first cap:Array Value) (w:World),(Instr.makeFunc fn first cap).run Tryz.prog w=.ok (.func fn first cap) w:=fun _ _ _ _=>rfl
     have HN0C:=zh (show C.n0=w6.heap.size/\C.w=W/\C.rb=rb/\C.ev=.slice (some ⟨eb,0,none⟩) np np/\(C.kb=fun b=>b=pb)/\C.sb=P.sb/\C.p=p by rw [hC]; exact ⟨rfl,rfl,rfl,rfl,rfl,rfl,rfl⟩)
     have HHB48:=zh hHB48
     have hbWw4:=HB4.out
     have hb4s:W.heap.size<=w6.heap.size:=hbWw6.size
     clear hC hHB48 ho hlt_e hlt_r
     go_wp2_with fail
     refine HAT.out.mono ?_
     rintro e10 w11 hat
     clear HAT hw9 hmf
     rcases hat with ⟨rfl,w10,⟨r,rfl,hok,hri,hkp⟩,hch⟩|⟨x,rfl,w10,⟨rfl,hkp,hbl⟩,hch⟩
     ·obtain ⟨hn0,hcw,hcrb,hcev,hckb,hcsb,hcp⟩:=HN0C.out
      have hri1:=RI.chgK (C:=C.plus jb w9.heap.size) hok hri hch (by show C.w.heap.size<=_; rw [hcw]; have:=HB8.out.size; omega)
      have hri2:RI C w11 r:=hri1.less.less
      have hkk:Kpt C.n0 C.kb w8 w11:=HK89.out.trans ((Kpt.less (C:=C) hkp).trans (Kpt.chg hch fun b hb=>⟨by rw [hn0]; omega,by rw [hckb]; intro e; subst e; omega⟩))
      have hb411:=below_kpt hbWw4 (by have:=hri2.below; rw [hcw] at this; exact this) HHB48.out hkk (by rw [hn0]; exact hs46)
      have HRI2:=zh hri2
      have HX:=zh (show Re=(r.S.state,r.n,0,r.ent) from HRR.out)
      obtain ⟨-,x7,-,x9,-⟩:=hri2.cells
      rw [hcrb] at x7 x9
      rw [hcev] at x9
      have xp:w11.cell? ⟨pb,0,none⟩=some (.pointer (some ⟨rb,0,none⟩)):=zc (hkk.blk (.inr (by rw [hckb])) HQ8.out) rfl
      have HKR:=zh (blk_bl HK3.out hb411)
      have HB411:=zh hb411
      have hls:=hri2.ks
      have HST:=zh (fun w' (hb:Below w11.heap.size w11 w')=>(hls.later hb).state)
      rw [hcsb] at HST
      have HNL:=zh (show r.ent.length=np by rw [hri2.el,hcp,HNP.out])
      have HEN:=zh hri2.ent
      rw [hn0,hcev] at HEN
      have hne0:(0:Int)=0:=rfl
      have HSS:=zh (show ∀ w',Below w11.heap.size w11 w'->(fun w':World=>w'.cell? ⟨pb,0,none⟩=some (.pointer (some ⟨rb,0,none⟩))/\w'.cell? ⟨rb,7,none⟩=some (.int .i64 r.n)/\w'.cell? ⟨rb,9,none⟩=some (.slice (some ⟨eb,0,none⟩) np np)) w' from fun w' hb=>⟨zb hb xp,zb hb x7,zb hb x9⟩)
      clear hri hri1 hri2 hkk hkp hls hn0 hcw hcrb hcev hckb hcsb hch x7 x9 xp hb411 hok
      go_upto_region 10 with fail
      have hSS:(fun w':World=>w'.cell? ⟨pb,0,none⟩=some (.pointer (some ⟨rb,0,none⟩))/\w'.cell? ⟨rb,7,none⟩=some (.int .i64 r.n)/\w'.cell? ⟨rb,9,none⟩=some (.slice (some ⟨eb,0,none⟩) np np)) w11.drew/\(fun _:World=>True) w11.drew:=⟨HSS.out _ (Below.refl _ _).drew,trivial⟩
      refine wp_region_noPanic ?_
      refine wp_region_G (fun w':World=>w'.cell? ⟨pb,0,none⟩=some (.pointer (some ⟨rb,0,none⟩))/\w'.cell? ⟨rb,7,none⟩=some (.int .i64 r.n)/\w'.cell? ⟨rb,9,none⟩=some (.slice (some ⟨eb,0,none⟩) np np)) (fun _:World=>True) 12 (by kernel_rfl) ?_
      refine zT 0 hSS ?_
      (try simp only [Act.put,zP])
      refine zT 1 hSS ?_
      (try simp only [Act.put,zP])
      refine zT 2 hSS ?_
      (try simp only [Act.put,zP])
      refine zT 3 hSS ?_
      (try simp only [Act.put,zP])
      refine zT 4 hSS ?_
      (try simp only [Act.put,zP])
      refine zT 6 hSS ?_
      (try simp only [Act.put,zP])
      refine zT 7 hSS ?_
      (try simp only [Act.put,zP])
      refine zT 8 hSS ?_
      (try simp only [Act.put,zP])
      refine zT 9 hSS ?_
      (try simp only [Act.put,zP])
      have had:Calls Tryz.prog 51 [.pointer (some ⟨P.sb,0,none⟩)].toArray w11.drew fun e W'=>∃ v,e=.returned v/\(OwnS W' w11.heap.size r.S.state v/\Below w11.heap.size w11 W') :=
       (HST.out _ (Below.refl _ _).drew).mono fun e w' ⟨v,h1,h2,h3⟩=>⟨v,h1,h2,bl_tt (Below.refl w11.heap.size w11).drew h3⟩
      refine wpG_one (i:=5) (by kernel_rfl) rfl (fun K hK=>?_)
      refine step_callL (by rfl) (.func 51) [.tmp 59] _ (by rfl) 51 _ fnStateI (by rfl) _ (by rfl) _ had ?_
      rintro v12 w12 ⟨ho12,hb12⟩
      obtain ⟨A9,c9,B9,d9,D9,e9,rfl⟩:=ho12.slices
      have HO12:=zh ho12
      have HB12:=zh hb12
      refine hK.out _ _ ⟨HSS.out _ hb12,trivial⟩ ?_
      have hSS2:(fun w':World=>w'.cell? ⟨pb,0,none⟩=some (.pointer (some ⟨rb,0,none⟩))/\w'.cell? ⟨rb,7,none⟩=some (.int .i64 r.n)/\w'.cell? ⟨rb,9,none⟩=some (.slice (some ⟨eb,0,none⟩) np np)) w12/\(fun _:World=>True) w12:=⟨HSS.out _ hb12,trivial⟩
      clear hK K hSS had ho12 hb12
      (try simp only [Act.put,zP])
      have hbr:=bRes1
      refine zT 10 hSS2 ?_
      (try simp only [Act.put,zP])
      refine wpG_one (i:=11) (by kernel_rfl) rfl (fun K hK=>?_)
      (try simp only [zA,zB,zC])
      go_simp
      refine hK.out _ _ ⟨HSS.out _ HB12.out,trivial⟩ ?_
      clear hK K
      (try simp only [Act.put,zP])
      have hk9:=blk_bl HKR.out HB12.out
      have x0:w12.cell? ⟨W.heap.size+3,0,none⟩=some (.slice none 0 0):=zc hk9 rfl
      have x1:w12.cell? ⟨W.heap.size+3,1,none⟩=some (.slice none 0 0):=zc hk9 rfl
      have x2:w12.cell? ⟨W.heap.size+3,2,none⟩=some (.slice none 0 0):=zc hk9 rfl
      have x3:w12.cell? ⟨W.heap.size+3,3,none⟩=some (.int .i64 0):=zc hk9 rfl
      have x4:w12.cell? ⟨W.heap.size+3,4,none⟩=some (.int .i64 0):=zc hk9 rfl
      have xf:∀ o,w12.frozen? ⟨W.heap.size+3,o,none⟩=false:=fun _=>zf hk9
      refine wpG_past (i:=12) (by kernel_rfl) rfl (by kernel_rfl) (fun K hK=>?_)
      (try simp only [Act.put,zP])
      go_simp
      obtain ⟨hh,hch⟩:=set5 (u0:=.slice A9 r.S.state.cells.length c9) (u1:=.slice B9 r.S.state.tin.length d9) (u2:=.slice D9 r.S.state.tout.length e9) (u3:=.int .i64 r.n) (u4:=.int .i64 0) hk9
      obtain ⟨w13,hw13⟩:∃ zz,(((((w12.setCell ⟨W.heap.size+3,0,none⟩ (.slice A9 r.S.state.cells.length c9)).setCell ⟨W.heap.size+3,1,none⟩ (.slice B9 r.S.state.tin.length d9)).setCell ⟨W.heap.size+3,2,none⟩ (.slice D9 r.S.state.tout.length e9)).setCell ⟨W.heap.size+3,3,none⟩ (.int .i64 r.n)).setCell ⟨W.heap.size+3,4,none⟩ (.int .i64 0))=zz:=⟨_,rfl⟩
      rw [hw13] at hh hch ⊢
      have HCH:=zh hch
      have t0:w13.cell? ⟨W.heap.size+3,0,none⟩=some (.slice A9 r.S.state.cells.length c9):=zc hh rfl
      have t1:w13.cell? ⟨W.heap.size+3,1,none⟩=some (.slice B9 r.S.state.tin.length d9):=zc hh rfl
      have t2:w13.cell? ⟨W.heap.size+3,2,none⟩=some (.slice D9 r.S.state.tout.length e9):=zc hh rfl
      have t3:w13.cell? ⟨W.heap.size+3,3,none⟩=some (.int .i64 r.n):=zc hh rfl
      have t4:w13.cell? ⟨W.heap.size+3,4,none⟩=some (.int .i64 0):=zc hh rfl
      have hszs:W.heap.size+4<=w11.heap.size:=by have:=HB411.out.size; omega
      have hplt:W.heap.size+3<w7.heap.size:=by have:=b47.size; omega
      refine hK.out _ _ ?_ ?_
      ·obtain ⟨q1,q2,q3⟩:=HSS.out _ HB12.out
       exact ⟨chg_cell hch q1 (by simp only; omega),chg_cell hch q2 (by simp only; omega),chg_cell hch q3 (by simp only; omega)⟩
      clear hK K hch hh hw13 x0 x1 x2 x3 x4 xf hk9 hSS2 HSS
      (try simp only [Act.put,zP])
      refine wpG_done (by kernel_rfl) ?_
      refine NoPanic.normal ?_
      go_wp2_with fail
      have hrow:=own_later HEN.out HB12.out
      have hrow2:=own_chg hrow (fun b hb=>HCH.out.block b (hrow.lt b hb).2 (by have:=(hrow.lt b hb).1; omega))
      have hI:∀ z∈r.ent.map Int.ofNat,I64 z:=fun z hz=>by
       obtain ⟨q,hq,rfl⟩:=List.mem_map.1 hz
       have h1:=HRI2.out.en q hq
       have h2:=HRI2.out.n
       exact ⟨by simp only [Int.ofNat_eq_natCast]; omega,by simp only [Int.ofNat_eq_natCast]; omega⟩
      obtain ⟨Ae,ce,he1,he2,he3⟩:=row_IR (l:=r.ent.map Int.ofNat) (by simpa using hrow2) hI
      injection he1 with he1 _ he4
      subst he1 he4
      refine bodyPost_ret (v:=.tuple #[.slice (some ⟨eb,0,none⟩) np np,.agg #[.slice A9 r.S.state.cells.length c9,.slice B9 r.S.state.tin.length d9,.slice D9 r.S.state.tout.length e9,.int .i64 r.n,.int .i64 0]]) (by simp [results,Tryz.results30,go_sem,t0,t1,t2,t3,t4]) rfl ?_
      rw [HX.out]
      refine ⟨_,_,_,_,_,by rw [HNL.out],(HO12.out.chg HCH.out fun b hb=>by omega).lower (by omega),he3.keep (fun b hb _=>by have:=hb4s; omega) (fun _ _ _=>rfl),by simpa using he2,?_⟩
      exact ⟨(bl_tt hbWw4 (bl_tt HB411.out HB12.out)).trans (HCH.out.below (bl_tt hbWw4 (bl_tt HB411.out HB12.out)).size fun b hb=>by omega),LimR.run HRI2.out.ks.wf HRI2.out.fb _⟩
     ·have hx:x≠0:=fun e=>hon (by rw [e])
      obtain ⟨hn0,hcw,hcrb,hcev,hckb,hcsb,-⟩:=HN0C.out
      have hkk:Kpt C.n0 C.kb w8 w11:=HK89.out.trans ((Kpt.less (C:=C) hkp).trans (Kpt.chg hch fun b hb=>⟨by rw [hn0]; omega,by rw [hckb]; intro e; subst e; omega⟩))
      have hblA:Below C.w.heap.size C.w w10:=hbl
      rw [hcw] at hblA
      have hs8:=HB8.out.size
      have hbl2:Below W.heap.size W w11:=hblA.trans (hch.below hblA.size fun b hb=>by omega)
      have hb411:=below_kpt hbWw4 hbl2 HHB48.out hkk (by rw [hn0]; exact hs46)
      have HX:=zh (show Re=(s,0,x,[]) from HRR.out)
      have e1:(x != 0)=true:=by simpa using hx
      have HXN:=zh hx
      clear hn0 hcw hcrb hcev hckb hcsb hkk hbl2 hkp hbl hblA hch hon
      have hSB:=blk_bl HK1.out hb411
      have hRB:=blk_bl HK3.out hb411
      have s0:w11.cell? ⟨W.heap.size+1,0,none⟩=some (.slice A s.cells.length c):=zc hSB rfl
      have s1:w11.cell? ⟨W.heap.size+1,1,none⟩=some (.slice B s.tin.length d):=zc hSB rfl
      have s2:w11.cell? ⟨W.heap.size+1,2,none⟩=some (.slice D s.tout.length e):=zc hSB rfl
      have HCC:=zh (HCL.out w11 (bl_tt HB4.out hb411))
      have HRB:=zh hRB
      have hbq:=hb411
      clear hSB hRB
      go_wp2_with fail
      refine HCC.out.mono ?_
      rintro e9 w9 ⟨v9,rfl,ho9,hb9⟩
      obtain ⟨A9,c9,B9,d9,D9,e9,rfl⟩:=ho9.slices
      have HO9:=zh ho9
      have HB9:=zh (bl_tt hbq hb9)
      have hk9:=blk_bl HRB.out hb9
      have x0:w9.cell? ⟨W.heap.size+3,0,none⟩=some (.slice none 0 0):=zc hk9 rfl
      have x1:w9.cell? ⟨W.heap.size+3,1,none⟩=some (.slice none 0 0):=zc hk9 rfl
      have x2:w9.cell? ⟨W.heap.size+3,2,none⟩=some (.slice none 0 0):=zc hk9 rfl
      have x3:w9.cell? ⟨W.heap.size+3,3,none⟩=some (.int .i64 0):=zc hk9 rfl
      have x4:w9.cell? ⟨W.heap.size+3,4,none⟩=some (.int .i64 0):=zc hk9 rfl
      have xf:∀ o,w9.frozen? ⟨W.heap.size+3,o,none⟩=false:=fun _=>zf hk9
      have HK9:=zh hk9
      have hbr:=bRes
      have hsz9:W.heap.size+4<=w11.heap.size:=by have:=hbq.size; rw [HZ4.out] at this; exact this
      clear s0 s1 s2 hk9 ho9 hb9 hbq HCC
      go_wp2_with fail
      obtain ⟨hh,hch⟩:=set5 (u0:=.slice A9 s.cells.length c9) (u1:=.slice B9 s.tin.length d9) (u2:=.slice D9 s.tout.length e9) (u3:=.int .i64 0) (u4:=.int .i64 x) HK9.out
      obtain ⟨w10,hw10⟩:∃ zz,(((((w9.setCell ⟨W.heap.size+3,0,none⟩ (.slice A9 s.cells.length c9)).setCell ⟨W.heap.size+3,1,none⟩ (.slice B9 s.tin.length d9)).setCell ⟨W.heap.size+3,2,none⟩ (.slice D9 s.tout.length e9)).setCell ⟨W.heap.size+3,3,none⟩ (.int .i64 0)).setCell ⟨W.heap.size+3,4,none⟩ (.int .i64 x))=zz:=⟨_,rfl⟩
      rw [hw10] at hh hch ⊢
      have t0:w10.cell? ⟨W.heap.size+3,0,none⟩=some (.slice A9 s.cells.length c9):=zc hh rfl
      have t1:w10.cell? ⟨W.heap.size+3,1,none⟩=some (.slice B9 s.tin.length d9):=zc hh rfl
      have t2:w10.cell? ⟨W.heap.size+3,2,none⟩=some (.slice D9 s.tout.length e9):=zc hh rfl
      have t3:w10.cell? ⟨W.heap.size+3,3,none⟩=some (.int .i64 0):=zc hh rfl
      have t4:w10.cell? ⟨W.heap.size+3,4,none⟩=some (.int .i64 x):=zc hh rfl
      refine bodyPost_ret (v:=.tuple #[.slice none 0 0,.agg #[.slice A9 s.cells.length c9,.slice B9 s.tin.length d9,.slice D9 s.tout.length e9,.int .i64 0,.int .i64 x]]) (by simp [results,Tryz.results30,go_sem,t0,t1,t2,t3,t4]) rfl ?_
      rw [HX.out]
      exact ⟨none,0,_,_,_,rfl,(HO9.out.chg hch fun b hb=>by omega).lower (by omega),fun i hi=>absurd hi (by simp),Nat.le_refl _,(bl_tt HB4.out HB9.out).trans (hch.below (bl_tt HB4.out HB9.out).size fun b hb=>by omega),HLM.out,fun h=>by first|(simp at h; done)|exact absurd h HXN.out⟩
    ·right
     have HC0:=HC.out
     have HU0:=HU.out
     have hcc:(l7=true->l6=true)/\(l8=true->l7=true):=⟨HC0.1,HC0.2.1⟩
     refine ⟨f-1,?_,?_,?_⟩
     ·clear HC HC0 HU HU0 ha HBL hcc
      subst hf
      revert hall
      revert l6 l7 l8 l9
      decide
     ·clear HC HC0 HU HU0 ha HBL hf
      revert hall hcc
      revert l6 l7 l8 l9
      decide +kernel
     intro i hi
     have hcase:(i=6/\l6=false/\l7=false/\l8=false)\/(i=7/\l7=false/\l6=true/\l8=false)\/(i=8/\l8=false/\l6=true/\l7=true)\/(i=9/\l9=false):=by
      refine of_decide_eq_true ((List.all_eq_true (p:=fun i=>decide ((i=6/\l6=false/\l7=false/\l8=false)\/(i=7/\l7=false/\l6=true/\l8=false)\/(i=8/\l8=false/\l6=true/\l7=true)\/(i=9/\l9=false)))).1 ?_ i hi)
      clear HC HC0 HU HU0 ha HBL hf hi
      revert hall hcc
      revert l6 l7 l8 l9
      decide +kernel
     clear hi hall
     subst ha hA
     rcases hcase with ⟨rfl,rfl,rfl,rfl⟩|⟨rfl,rfl,rfl,rfl⟩|⟨rfl,rfl,rfl,rfl⟩|⟨rfl,rfl⟩
     ·refine wpOp_step rfl (fun K' hK0=>?_)
      have hK:=zh hK0
      clear hK0
      have hU1:=HU0.1 rfl
      have hU2:=HU0.2.1 rfl
      have hU3:=HU0.2.2.1 rfl
      subst hU1 hU2 hU3
      (try simp only [Act.put,zP])
      go_simp
      have hsz:=HBL.out.size
      exact hK.out _ _ ⟨true,false,false,l9,_,undef,undef,v12,wr.heap.size,0,pb,(by subst hf; simp<;>omega),rfl,(by simp only [Act.put,zP]),zh (bl_al HBL.out _),zh ⟨fun h=>(by cases h),fun h=>(by cases h),fun _=>⟨rfl,heap_alloc_new wr _,hsz⟩,fun h=>(by cases h),fun h=>(by cases h),fun h=>⟨(HC0.2.2.2.2.2 h).1,blk_al (HC0.2.2.2.2.2 h).2.1 _,(HC0.2.2.2.2.2 h).2.2⟩⟩,zh ⟨fun h=>(by cases h),fun _=>rfl,fun _=>rfl,HU0.2.2.2⟩⟩
     ·refine wpOp_step rfl (fun K' hK0=>?_)
      have hK:=zh hK0
      clear hK0
      have hU2:=HU0.2.1 rfl
      have hU3:=HU0.2.2.1 rfl
      obtain ⟨hv6,he,hel⟩:=HC0.2.2.1 rfl
      subst hU2 hU3 hv6
      have hbn:=bRun
      (try simp only [Act.put,zP])
      go_simp
      exact hK.out _ _ ⟨true,true,false,l9,_,_,undef,v12,eb,0,pb,(by subst hf; simp<;>omega),rfl,(by simp only [Act.put,zP]),HBL,zh ⟨fun _=>rfl,fun h=>(by cases h),fun _=>⟨rfl,he,hel⟩,fun _=>rfl,fun h=>(by cases h),HC0.2.2.2.2.2⟩,zh ⟨fun h=>(by cases h),fun h=>(by cases h),fun _=>rfl,HU0.2.2.2⟩⟩
     ·refine wpOp_step rfl (fun K' hK0=>?_)
      have hK:=zh hK0
      clear hK0
      have hU3:=HU0.2.2.1 rfl
      obtain ⟨hv6,he,hel⟩:=HC0.2.2.1 rfl
      have hv7:=HC0.2.2.2.1 rfl
      subst hU3 hv6 hv7
      (try simp only [Act.put,zP])
      go_simp
      have hsz:=HBL.out.size
      exact hK.out _ _ ⟨true,true,true,l9,_,_,_,v12,eb,wr.heap.size,pb,(by subst hf; simp<;>omega),rfl,(by simp only [Act.put,zP]),zh (bl_al HBL.out _),zh ⟨fun _=>rfl,fun _=>rfl,fun _=>⟨rfl,blk_al he _,hel⟩,fun _=>rfl,fun _=>⟨rfl,heap_alloc_new wr _,hsz⟩,fun h=>⟨(HC0.2.2.2.2.2 h).1,blk_al (HC0.2.2.2.2.2 h).2.1 _,(HC0.2.2.2.2.2 h).2.2⟩⟩,zh ⟨fun h=>(by cases h),fun h=>(by cases h),fun h=>(by cases h),HU0.2.2.2⟩⟩
     ·refine wpOp_step rfl (fun K' hK0=>?_)
      have hK:=zh hK0
      clear hK0
      have hU4:=HU0.2.2.2 rfl
      subst hU4
      (try simp only [Act.put,zP])
      go_simp
      have hsz:=HBL.out.size
      exact hK.out _ _ ⟨l6,l7,l8,true,v43,v44,v45,_,eb,rb,wr.heap.size,(by subst hf; simp<;>omega),rfl,(by simp only [Act.put,zP]),zh (bl_al HBL.out _),zh ⟨HC0.1,HC0.2.1,fun h=>⟨(HC0.2.2.1 h).1,blk_al (HC0.2.2.1 h).2.1 _,(HC0.2.2.1 h).2.2⟩,HC0.2.2.2.1,fun h=>⟨(HC0.2.2.2.2.1 h).1,blk_al (HC0.2.2.2.2.1 h).2.1 _,(HC0.2.2.2.2.1 h).2.2⟩,fun _=>⟨rfl,heap_alloc_new wr _,hsz⟩⟩,zh ⟨HU0.1,HU0.2.1,HU0.2.2.1,fun h=>(by cases h)⟩⟩
  ·have HX:=zh (show Re=(s,0,3,[]) by rw [<-HRE.out,resO,if_pos (.inr hn)])
   obtain ⟨n,hnn⟩:∃ n,chkN p=n:=⟨_,rfl⟩
   rw [hnn]
   have hng:(0:Int)<(n:Int):=by omega
   clear hn hnn
   have hSB:=blk_bl HK1.out b46
   have hRB:=blk_bl HK3.out b46
   have s0:w6.cell? ⟨W.heap.size+1,0,none⟩=some (.slice A s.cells.length c):=zc hSB rfl
   have s1:w6.cell? ⟨W.heap.size+1,1,none⟩=some (.slice B s.tin.length d):=zc hSB rfl
   have s2:w6.cell? ⟨W.heap.size+1,2,none⟩=some (.slice D s.tout.length e):=zc hSB rfl
   have HCC:=zh (HCL.out w6 (bl_tt HB4.out b46))
   have HRB:=zh hRB
   have hbq:=b46
   clear hSB hRB
   go_wp2_with fail
   refine HCC.out.mono ?_
   rintro e9 w9 ⟨v9,rfl,ho9,hb9⟩
   obtain ⟨A9,c9,B9,d9,D9,e9,rfl⟩:=ho9.slices
   have HO9:=zh ho9
   have HB9:=zh (bl_tt hbq hb9)
   have hk9:=blk_bl HRB.out hb9
   have x0:w9.cell? ⟨W.heap.size+3,0,none⟩=some (.slice none 0 0):=zc hk9 rfl
   have x1:w9.cell? ⟨W.heap.size+3,1,none⟩=some (.slice none 0 0):=zc hk9 rfl
   have x2:w9.cell? ⟨W.heap.size+3,2,none⟩=some (.slice none 0 0):=zc hk9 rfl
   have x3:w9.cell? ⟨W.heap.size+3,3,none⟩=some (.int .i64 0):=zc hk9 rfl
   have x4:w9.cell? ⟨W.heap.size+3,4,none⟩=some (.int .i64 0):=zc hk9 rfl
   have xf:∀ o,w9.frozen? ⟨W.heap.size+3,o,none⟩=false:=fun _=>zf hk9
   have HK9:=zh hk9
   have hbr:=bRes
   have hsz9:W.heap.size+4<=w6.heap.size:=by have:=hbq.size; rw [HZ4.out] at this; exact this
   clear s0 s1 s2 hk9 ho9 hb9 hbq HCC
   go_wp2_with fail
   obtain ⟨hh,hch⟩:=set5 (u0:=.slice A9 s.cells.length c9) (u1:=.slice B9 s.tin.length d9) (u2:=.slice D9 s.tout.length e9) (u3:=.int .i64 0) (u4:=.int .i64 3) HK9.out
   obtain ⟨w10,hw10⟩:∃ zz,(((((w9.setCell ⟨W.heap.size+3,0,none⟩ (.slice A9 s.cells.length c9)).setCell ⟨W.heap.size+3,1,none⟩ (.slice B9 s.tin.length d9)).setCell ⟨W.heap.size+3,2,none⟩ (.slice D9 s.tout.length e9)).setCell ⟨W.heap.size+3,3,none⟩ (.int .i64 0)).setCell ⟨W.heap.size+3,4,none⟩ (.int .i64 3))=zz:=⟨_,rfl⟩
   rw [hw10] at hh hch ⊢
   have t0:w10.cell? ⟨W.heap.size+3,0,none⟩=some (.slice A9 s.cells.length c9):=zc hh rfl
   have t1:w10.cell? ⟨W.heap.size+3,1,none⟩=some (.slice B9 s.tin.length d9):=zc hh rfl
   have t2:w10.cell? ⟨W.heap.size+3,2,none⟩=some (.slice D9 s.tout.length e9):=zc hh rfl
   have t3:w10.cell? ⟨W.heap.size+3,3,none⟩=some (.int .i64 0):=zc hh rfl
   have t4:w10.cell? ⟨W.heap.size+3,4,none⟩=some (.int .i64 3):=zc hh rfl
   refine bodyPost_ret (v:=.tuple #[.slice none 0 0,.agg #[.slice A9 s.cells.length c9,.slice B9 s.tin.length d9,.slice D9 s.tout.length e9,.int .i64 0,.int .i64 3]]) (by simp [results,Tryz.results30,go_sem,t0,t1,t2,t3,t4]) rfl ?_
   rw [HX.out]
   exact ⟨none,0,_,_,_,rfl,(HO9.out.chg hch fun b hb=>by omega).lower (by omega),fun i hi=>absurd hi (by simp),Nat.le_refl _,(bl_tt HB4.out HB9.out).trans (hch.below (bl_tt HB4.out HB9.out).size fun b hb=>by omega),HLM.out,fun h=>by first|(simp at h; done)|exact absurd h HXN.out⟩
def FwP (W:World) (R:SS×Nat×Int×List Nat) (e:Ending) (W':World):Prop:=∃ v1 v2 v3,e=.returned (.agg #[v1,v2,v3,.int .i64 (R.2.1:Int),.int .i64 R.2.2.1]) /\
 OwnS W' W.heap.size R.1 (.agg #[v1,v2,v3])/\Below W.heap.size W W'/\LimR R
theorem Forward_any (p:PG) (s:SS) (F:Int) (g:Nat) (v sv:Value) (W:World) (hp:PV W Any p v) (hs:SV W Any s sv) (hcl:s.cells.length<=1000000) (hF:I64 F) (hF6:F<=1000000) (hg:F.toNat*2000+2000<=g) :
  Calls Tryz.prog 15 #[v,sv,.int .i64 F] W (FwP W (resO p s F g false)):=by
 have HPX:=zh hp
 have HSX:=zh hs
 obtain ⟨A1,c1,A2,c2,A3,c3,rfl,hpg⟩:=hp
 obtain ⟨A,c,B,d,D,e,rfl,hr1,hr2,hr3,hc1,hc2,hc3,hl1,hl2,hl3,hl4⟩:=hs
 have HST:=zh (fun w' (hb:Below W.heap.size W w')=>start_any p s F g false _ _ w' (HPX.out.later hb) (HSX.out.later hb) hcl hF hF6 hg)
 have hb3:=bl_al (bl_al (bl_al (Below.refl W.heap.size W) (.cells #[.slice A1 p.vs.length c1,.slice A2 p.prs.length c2,.int .u8 p.m.k,.int .i64 p.m.n,.string p.m.s,.slice A3 p.m.ks.length c3] 28)) (.cells #[.slice A s.cells.length c,.slice B s.tin.length d,.slice D s.tout.length e] 32)) (.cells #[.slice none 0 0,.slice none 0 0,.slice none 0 0,.int .i64 0,.int .i64 0] 37)
 have k2:=heap_alloc_new ((W.alloc (.cells #[.slice A1 p.vs.length c1,.slice A2 p.prs.length c2,.int .u8 p.m.k,.int .i64 p.m.n,.string p.m.s,.slice A3 p.m.ks.length c3] 28)).alloc (.cells #[.slice A s.cells.length c,.slice B s.tin.length d,.slice D s.tout.length e] 32)) (.cells #[.slice none 0 0,.slice none 0 0,.slice none 0 0,.int .i64 0,.int .i64 0] 37)
 simp only [World.size_alloc] at k2
 obtain ⟨Re,hRe⟩:∃ R,resO p s F g false=R:=⟨_,rfl⟩
 rw [hRe] at HST
 have HR:=zh hRe
 have HB3:=zh hb3
 have HK2:=zh k2
 have hz3:W.heap.size+3<=(((W.alloc (.cells #[.slice A1 p.vs.length c1,.slice A2 p.prs.length c2,.int .u8 p.m.k,.int .i64 p.m.n,.string p.m.s,.slice A3 p.m.ks.length c3] 28)).alloc (.cells #[.slice A s.cells.length c,.slice B s.tin.length d,.slice D s.tout.length e] 32)).alloc (.cells #[.slice none 0 0,.slice none 0 0,.slice none 0 0,.int .i64 0,.int .i64 0] 37)).heap.size:=by simp
 rw [hRe]
 clear hpg hr1 hr2 hr3 hRe hb3 k2 hl1 hl2 hl3 hl4 hc1 hc2 hc3
 go_enter Tryz.func15,Tryz.ntmps15
 go_wp2_with fail
 refine (HST.out _ HB3.out).mono ?_
 rintro e9 w9 ⟨A9,c9,v1,v2,v3,rfl,ho9,-,-,hb9,hlm9⟩
 have HLM:=zh hlm9
 clear hlm9
 obtain ⟨A4,c4,B5,d5,D6,e6,h6⟩:=ho9.slices
 injection h6 with h6
 injection h6 with h6
 injection h6 with h6 h7
 injection h7 with h7 h8
 injection h8 with h8 _
 subst h6 h7 h8
 have HO9:=zh ho9
 have HB9:=zh hb9
 have hk9:=blk_bl HK2.out hb9
 have x0:w9.cell? ⟨W.heap.size+1+1,0,none⟩=some (.slice none 0 0):=zc hk9 rfl
 have x1:w9.cell? ⟨W.heap.size+1+1,1,none⟩=some (.slice none 0 0):=zc hk9 rfl
 have x2:w9.cell? ⟨W.heap.size+1+1,2,none⟩=some (.slice none 0 0):=zc hk9 rfl
 have x3:w9.cell? ⟨W.heap.size+1+1,3,none⟩=some (.int .i64 0):=zc hk9 rfl
 have x4:w9.cell? ⟨W.heap.size+1+1,4,none⟩=some (.int .i64 0):=zc hk9 rfl
 have xf:∀ o,w9.frozen? ⟨W.heap.size+1+1,o,none⟩=false:=fun _=>zf hk9
 have y0:=fun o=>cell_al x0 o
 have y1:=fun o=>cell_al x1 o
 have y2:=fun o=>cell_al x2 o
 have y3:=fun o=>cell_al x3 o
 have y4:=fun o=>cell_al x4 o
 have hlt9:W.heap.size+1+1<w9.heap.size:=blk_lt hk9
 have HK9:=zh hk9
 clear ho9 hb9 hk9
 go_wp2_with fail
 obtain ⟨hh,hch⟩:=set5 (u0:=.slice A4 Re.1.cells.length c4) (u1:=.slice B5 Re.1.tin.length d5) (u2:=.slice D6 Re.1.tout.length e6) (u3:=.int .i64 (Re.2.1:Int)) (u4:=.int .i64 Re.2.2.1) HK9.out
 obtain ⟨w10,hw10⟩:∃ zz,(((((w9.setCell ⟨W.heap.size+1+1,0,none⟩ (.slice A4 Re.1.cells.length c4)).setCell ⟨W.heap.size+1+1,1,none⟩ (.slice B5 Re.1.tin.length d5)).setCell ⟨W.heap.size+1+1,2,none⟩ (.slice D6 Re.1.tout.length e6)).setCell ⟨W.heap.size+1+1,3,none⟩ (.int .i64 (Re.2.1:Int))).setCell ⟨W.heap.size+1+1,4,none⟩ (.int .i64 Re.2.2.1))=zz:=⟨_,rfl⟩
 rw [hw10] at hh hch ⊢
 obtain ⟨w11,hw11⟩:∃ zz,w10.alloc (.cells #[.slice A4 Re.1.cells.length c4,.slice B5 Re.1.tin.length d5,.slice D6 Re.1.tout.length e6,.int .i64 (Re.2.1:Int),.int .i64 Re.2.2.1] 37)=zz:=⟨_,rfl⟩
 rw [hw11]
 have t0:w11.cell? ⟨W.heap.size+1+1,0,none⟩=some (.slice A4 Re.1.cells.length c4):=hw11▸cell_al (zc hh rfl) _
 have t1:w11.cell? ⟨W.heap.size+1+1,1,none⟩=some (.slice B5 Re.1.tin.length d5):=hw11▸cell_al (zc hh rfl) _
 have t2:w11.cell? ⟨W.heap.size+1+1,2,none⟩=some (.slice D6 Re.1.tout.length e6):=hw11▸cell_al (zc hh rfl) _
 have t3:w11.cell? ⟨W.heap.size+1+1,3,none⟩=some (.int .i64 (Re.2.1:Int)):=hw11▸cell_al (zc hh rfl) _
 have t4:w11.cell? ⟨W.heap.size+1+1,4,none⟩=some (.int .i64 Re.2.2.1):=hw11▸cell_al (zc hh rfl) _
 refine bodyPost_ret (v:=.agg #[.slice A4 Re.1.cells.length c4,.slice B5 Re.1.tin.length d5,.slice D6 Re.1.tout.length e6,.int .i64 (Re.2.1:Int),.int .i64 Re.2.2.1]) (by simp [results,Tryz.results15,go_sem,t0,t1,t2,t3,t4]) rfl ?_
 have hz33:=hz3
 have hb39:Below W.heap.size W w9:=bl_tt HB3.out HB9.out
 have hc11:Chg (fun b=>b=W.heap.size+1+1) w9 w11:=hw11▸hch.alloc _
 have ho11:=HO9.out.chg hc11 fun b hb=>by omega
 have hb11:=hb39.trans (hc11.below hb39.size fun b hb=>by omega)
 exact ⟨_,_,_,rfl,ho11.lower (by omega),hb11,HLM.out⟩
theorem Backward_any (p:PG) (s:SS) (F:Int) (g:Nat) (v sv:Value) (W:World) (hp:PV W Any p v) (hs:SV W Any s sv) (hcl:s.cells.length<=1000000) (hF:I64 F) (hF6:F<=1000000) (hg:F.toNat*2000+2000<=g) :
  Calls Tryz.prog 18 #[v,sv,.int .i64 F] W (FwP W (resO p s F g true)):=by
 have HPX:=zh hp
 have HSX:=zh hs
 obtain ⟨A1,c1,A2,c2,A3,c3,rfl,hpg⟩:=hp
 obtain ⟨A,c,B,d,D,e,rfl,hr1,hr2,hr3,hc1,hc2,hc3,hl1,hl2,hl3,hl4⟩:=hs
 have HST:=zh (fun w' (hb:Below W.heap.size W w')=>start_any p s F g true _ _ w' (HPX.out.later hb) (HSX.out.later hb) hcl hF hF6 hg)
 have hb3:=bl_al (bl_al (bl_al (Below.refl W.heap.size W) (.cells #[.slice A1 p.vs.length c1,.slice A2 p.prs.length c2,.int .u8 p.m.k,.int .i64 p.m.n,.string p.m.s,.slice A3 p.m.ks.length c3] 28)) (.cells #[.slice A s.cells.length c,.slice B s.tin.length d,.slice D s.tout.length e] 32)) (.cells #[.slice none 0 0,.slice none 0 0,.slice none 0 0,.int .i64 0,.int .i64 0] 37)
 have k2:=heap_alloc_new ((W.alloc (.cells #[.slice A1 p.vs.length c1,.slice A2 p.prs.length c2,.int .u8 p.m.k,.int .i64 p.m.n,.string p.m.s,.slice A3 p.m.ks.length c3] 28)).alloc (.cells #[.slice A s.cells.length c,.slice B s.tin.length d,.slice D s.tout.length e] 32)) (.cells #[.slice none 0 0,.slice none 0 0,.slice none 0 0,.int .i64 0,.int .i64 0] 37)
 simp only [World.size_alloc] at k2
 obtain ⟨Re,hRe⟩:∃ R,resO p s F g true=R:=⟨_,rfl⟩
 rw [hRe] at HST
 have HR:=zh hRe
 have HB3:=zh hb3
 have HK2:=zh k2
 have hz3:W.heap.size+3<=(((W.alloc (.cells #[.slice A1 p.vs.length c1,.slice A2 p.prs.length c2,.int .u8 p.m.k,.int .i64 p.m.n,.string p.m.s,.slice A3 p.m.ks.length c3] 28)).alloc (.cells #[.slice A s.cells.length c,.slice B s.tin.length d,.slice D s.tout.length e] 32)).alloc (.cells #[.slice none 0 0,.slice none 0 0,.slice none 0 0,.int .i64 0,.int .i64 0] 37)).heap.size:=by simp
 rw [hRe]
 clear hpg hr1 hr2 hr3 hRe hb3 k2 hl1 hl2 hl3 hl4 hc1 hc2 hc3
 go_enter Tryz.func18,Tryz.ntmps18
 go_wp2_with fail
 refine (HST.out _ HB3.out).mono ?_
 rintro e9 w9 ⟨A9,c9,v1,v2,v3,rfl,ho9,-,-,hb9,hlm9⟩
 have HLM:=zh hlm9
 clear hlm9
 obtain ⟨A4,c4,B5,d5,D6,e6,h6⟩:=ho9.slices
 injection h6 with h6
 injection h6 with h6
 injection h6 with h6 h7
 injection h7 with h7 h8
 injection h8 with h8 _
 subst h6 h7 h8
 have HO9:=zh ho9
 have HB9:=zh hb9
 have hk9:=blk_bl HK2.out hb9
 have x0:w9.cell? ⟨W.heap.size+1+1,0,none⟩=some (.slice none 0 0):=zc hk9 rfl
 have x1:w9.cell? ⟨W.heap.size+1+1,1,none⟩=some (.slice none 0 0):=zc hk9 rfl
 have x2:w9.cell? ⟨W.heap.size+1+1,2,none⟩=some (.slice none 0 0):=zc hk9 rfl
 have x3:w9.cell? ⟨W.heap.size+1+1,3,none⟩=some (.int .i64 0):=zc hk9 rfl
 have x4:w9.cell? ⟨W.heap.size+1+1,4,none⟩=some (.int .i64 0):=zc hk9 rfl
 have xf:∀ o,w9.frozen? ⟨W.heap.size+1+1,o,none⟩=false:=fun _=>zf hk9
 have y0:=fun o=>cell_al x0 o
 have y1:=fun o=>cell_al x1 o
 have y2:=fun o=>cell_al x2 o
 have y3:=fun o=>cell_al x3 o
 have y4:=fun o=>cell_al x4 o
 have hlt9:W.heap.size+1+1<w9.heap.size:=blk_lt hk9
 have HK9:=zh hk9
 clear ho9 hb9 hk9
 go_wp2_with fail
 obtain ⟨hh,hch⟩:=set5 (u0:=.slice A4 Re.1.cells.length c4) (u1:=.slice B5 Re.1.tin.length d5) (u2:=.slice D6 Re.1.tout.length e6) (u3:=.int .i64 (Re.2.1:Int)) (u4:=.int .i64 Re.2.2.1) HK9.out
 obtain ⟨w10,hw10⟩:∃ zz,(((((w9.setCell ⟨W.heap.size+1+1,0,none⟩ (.slice A4 Re.1.cells.length c4)).setCell ⟨W.heap.size+1+1,1,none⟩ (.slice B5 Re.1.tin.length d5)).setCell ⟨W.heap.size+1+1,2,none⟩ (.slice D6 Re.1.tout.length e6)).setCell ⟨W.heap.size+1+1,3,none⟩ (.int .i64 (Re.2.1:Int))).setCell ⟨W.heap.size+1+1,4,none⟩ (.int .i64 Re.2.2.1))=zz:=⟨_,rfl⟩
 rw [hw10] at hh hch ⊢
 obtain ⟨w11,hw11⟩:∃ zz,w10.alloc (.cells #[.slice A4 Re.1.cells.length c4,.slice B5 Re.1.tin.length d5,.slice D6 Re.1.tout.length e6,.int .i64 (Re.2.1:Int),.int .i64 Re.2.2.1] 37)=zz:=⟨_,rfl⟩
 rw [hw11]
 have t0:w11.cell? ⟨W.heap.size+1+1,0,none⟩=some (.slice A4 Re.1.cells.length c4):=hw11▸cell_al (zc hh rfl) _
 have t1:w11.cell? ⟨W.heap.size+1+1,1,none⟩=some (.slice B5 Re.1.tin.length d5):=hw11▸cell_al (zc hh rfl) _
 have t2:w11.cell? ⟨W.heap.size+1+1,2,none⟩=some (.slice D6 Re.1.tout.length e6):=hw11▸cell_al (zc hh rfl) _
 have t3:w11.cell? ⟨W.heap.size+1+1,3,none⟩=some (.int .i64 (Re.2.1:Int)):=hw11▸cell_al (zc hh rfl) _
 have t4:w11.cell? ⟨W.heap.size+1+1,4,none⟩=some (.int .i64 Re.2.2.1):=hw11▸cell_al (zc hh rfl) _
 refine bodyPost_ret (v:=.agg #[.slice A4 Re.1.cells.length c4,.slice B5 Re.1.tin.length d5,.slice D6 Re.1.tout.length e6,.int .i64 (Re.2.1:Int),.int .i64 Re.2.2.1]) (by simp [results,Tryz.results18,go_sem,t0,t1,t2,t3,t4]) rfl ?_
 have hz33:=hz3
 have hb39:Below W.heap.size W w9:=bl_tt HB3.out HB9.out
 have hc11:Chg (fun b=>b=W.heap.size+1+1) w9 w11:=hw11▸hch.alloc _
 have ho11:=HO9.out.chg hc11 fun b hb=>by omega
 have hb11:=hb39.trans (hc11.below hb39.size fun b hb=>by omega)
 exact ⟨_,_,_,rfl,ho11.lower (by omega),hb11,HLM.out⟩
def xT:T:=.nd 2 0 ⟨#[120]⟩ []
def nT (n:Int):T:=.nd 1 n ⟨#[]⟩ []
def eqT (n:Int):T:=.nd 16 0 ⟨#[]⟩ [xT,nT n]
def blT (l:List T):T:=.nd 57 0 ⟨#[]⟩ l
def plT:T:=.nd 40 0 ⟨#[]⟩ [xT,nT 1]
def loT:T:=.nd 53 0 ⟨#[]⟩ [eqT 0,blT [plT],blT [],eqT 3]
def pgA:PG:=⟨[⟨⟨#[120]⟩,1,0⟩],[],blT [loT]⟩
def okA (n:Nat) (l:List (List Int)):Out->Bool
 | .ok r=>decide (r.n=n)&&decide (r.S.state.cells=l)
 | _=>false
theorem aw_val:validB pgA=true:=by decide +kernel
theorem aw_chk:chkN pgA=0:=by decide +kernel
theorem aw_fit0:fitB pgA.vs ⟨[[0]],[],[]⟩=true:=by decide +kernel
theorem aw_fit3:fitB pgA.vs ⟨[[3]],[],[]⟩=true:=by decide +kernel
theorem aw_f:okA 9 [[3]] (runO pgA.prs 50 102000 false pgA.m ⟨newS pgA.vs ⟨[[0]],[],[]⟩,0,[]⟩)=true:=by decide +kernel
theorem aw_b:okA 9 [[0]] (runO pgA.prs 50 102000 true pgA.m ⟨newS pgA.vs ⟨[[3]],[],[]⟩,0,[]⟩)=true:=by decide +kernel
theorem okA_ok {n:Nat} {l:List (List Int)} {o:Out} (h:okA n l o=true):∃ r,o=.ok r/\r.n=n/\r.S.state.cells=l:=by
 cases o with
 | gas=>cases h
 | err e=>cases h
 | ok r =>
  simp only [okA,Bool.and_eq_true,decide_eq_true_eq] at h
  exact ⟨r,rfl,h.1,h.2⟩
theorem res_f:∃ tin tout ent,resO pgA ⟨[[0]],[],[]⟩ 50 102000 false=(⟨[[3]],tin,tout⟩,9,0,ent):=by
 obtain ⟨r,h1,h2,h3⟩:=okA_ok aw_f
 refine ⟨r.S.state.tin,r.S.state.tout,r.ent,?_⟩
 rw [resO,if_neg (by rw [aw_val,aw_chk]; simp),if_neg (by rw [aw_fit0]; simp)]
 rw [show List.replicate pgA.prs.length 0=([]:List Nat) from rfl,h1]
 simp only [outR,h2,<-h3]
theorem res_b:∃ tin tout ent,resO pgA ⟨[[3]],[],[]⟩ 50 102000 true=(⟨[[0]],tin,tout⟩,9,0,ent):=by
 obtain ⟨r,h1,h2,h3⟩:=okA_ok aw_b
 refine ⟨r.S.state.tin,r.S.state.tout,r.ent,?_⟩
 rw [resO,if_neg (by rw [aw_val,aw_chk]; simp),if_neg (by rw [aw_fit3]; simp)]
 rw [show List.replicate pgA.prs.length 0=([]:List Nat) from rfl,h1]
 simp only [outR,h2,<-h3]
theorem av_any (s:ByteArray) (w:World):Calls Tryz.prog 25 #[.string s] w fun e w'=>e=.returned (nv 2 0 s none 0 0)/\Below w.heap.size w w':=by
 have hb:∀ w,(Instr.build 26 #[(0,.int .u8 2),(2,.string s)]).run Tryz.prog w=.ok (nv 2 0 s none 0 0) w:=fun w=>by kernel_rfl
 go_enter Tryz.func25,Tryz.ntmps25
 go_wp2_with fail
 exact bodyPost_ret (v:=nv 2 0 s none 0 0) (by simp [results,Tryz.results25,go_sem]) rfl ⟨rfl,bl_al (Below.refl _ _) _⟩
theorem anum_any (n:Int) (w:World):Calls Tryz.prog 27 #[.int .i64 n] w fun e w'=>e=.returned (nv 1 n ⟨#[]⟩ none 0 0)/\Below w.heap.size w w':=by
 have hb:∀ w,(Instr.build 26 #[(0,.int .u8 1),(1,.int .i64 n)]).run Tryz.prog w=.ok (nv 1 n ⟨#[]⟩ none 0 0) w:=fun w=>by kernel_rfl
 go_enter Tryz.func27,Tryz.ntmps27
 go_wp2_with fail
 exact bodyPost_ret (v:=nv 1 n ⟨#[]⟩ none 0 0) (by simp [results,Tryz.results27,go_sem]) rfl ⟨rfl,bl_al (Below.refl _ _) _⟩
theorem ablk_any (A:Option Addr) (l c:Nat) (w:World):Calls Tryz.prog 28 #[.slice A l c] w fun e w'=>e=.returned (nv 57 0 ⟨#[]⟩ A l c)/\Below w.heap.size w w':=by
 have hb:∀ w,(Instr.build 26 #[(0,.int .u8 57),(3,.slice A l c)]).run Tryz.prog w=.ok (nv 57 0 ⟨#[]⟩ A l c) w:=fun w=>by kernel_rfl
 go_enter Tryz.func28,Tryz.ntmps28
 go_wp2_with fail
 exact bodyPost_ret (v:=nv 57 0 ⟨#[]⟩ A l c) (by simp [results,Tryz.results28,go_sem]) rfl ⟨rfl,bl_al (Below.refl _ _) _⟩
theorem fnNumA:IsFn Tryz.prog 27 Tryz.f27:=⟨Tryz.func27,by kernel_rfl,by kernel_rfl⟩
theorem fnEqA:IsFn Tryz.prog 26 Tryz.f26:=⟨Tryz.func26,by kernel_rfl,by kernel_rfl⟩
theorem fnBlkA:IsFn Tryz.prog 28 Tryz.f28:=⟨Tryz.func28,by kernel_rfl,by kernel_rfl⟩
theorem bSN2 (a0 a1 a2 a3 b0 b1 b2 b3:Value) (w:World):(Instr.buildSlice 24 2 #[(0,.agg #[a0,a1,a2,a3]),(1,.agg #[b0,b1,b2,b3])]).run Tryz.prog w=.ok (.slice (some ⟨w.heap.size,0,none⟩) 2 2) (w.alloc (.cells #[a0,a1,a2,a3,b0,b1,b2,b3] 26)):=by kernel_rfl
theorem bNk (k:Int) (A:Option Addr) (l c:Nat) (w:World):(Instr.build 26 #[(0,.int .u8 k),(3,.slice A l c)]).run Tryz.prog w=.ok (nv k 0 ⟨#[]⟩ A l c) w:=by kernel_rfl
theorem set4z {W:World} {b:Nat} {u0 u1 u2 u3:Value} {E:TypeId} (h:W.heap[b]?=some (.cells #[.int .u8 0,.int .i64 0,.string ⟨#[]⟩,.slice none 0 0] E (0,0))) :
  ((((W.setCell ⟨b,0,none⟩ u0).setCell ⟨b,1,none⟩ u1).setCell ⟨b,2,none⟩ u2).setCell ⟨b,3,none⟩ u3).heap[b]?=some (.cells #[u0,u1,u2,u3] E (0,0)) /\
   Chg (fun q=>q=b) W ((((W.setCell ⟨b,0,none⟩ u0).setCell ⟨b,1,none⟩ u1).setCell ⟨b,2,none⟩ u2).setCell ⟨b,3,none⟩ u3):=set4 h
def NwN (W:World) (t:T) (v:Value) (w':World):Prop:=∃ A c,v=nv t.k t.n t.s A t.ks.length c/\NV w' Any t v/\Below W.heap.size W w'
theorem aeq_any (n:Int) (hn:I64 n) (xb:Nat) (w:World) (hx:w.heap[xb]?=some (.cells #[.int .u8 2,.int .i64 0,.string ⟨#[120]⟩,.slice none 0 0] 26 (0,0))):Calls Tryz.prog 26 #[.int .i64 n,.pointer (some ⟨xb,0,none⟩)] w fun e w'=>∃ v,e=.returned v/\NwN w (eqT n) v w':=by
 have h2:=bSN2
 have h3:=bNk
 have hb1:=bl_al (Below.refl w.heap.size w) (.cells #[.int .u8 0,.int .i64 0,.string ⟨#[]⟩,.slice none 0 0] 26)
 have k1:=heap_alloc_new w (.cells #[.int .u8 0,.int .i64 0,.string ⟨#[]⟩,.slice none 0 0] 26)
 have hx1:=blk_al hx (.cells #[.int .u8 0,.int .i64 0,.string ⟨#[]⟩,.slice none 0 0] 26)
 obtain ⟨w1,hw1⟩:∃ x,w.alloc (.cells #[.int .u8 0,.int .i64 0,.string ⟨#[]⟩,.slice none 0 0] 26)=x:=⟨_,rfl⟩
 rw [hw1] at hb1 k1 hx1
 have HB1:=zh hb1
 have HK1:=zh k1
 have HX1:=zh hx1
 clear hb1 k1 hx1 hx
 go_enter Tryz.func26,Tryz.ntmps26
 go_upto_region 1 with fail
 clear hw1
 have HSS:=zh (show ∀ w',Below w1.heap.size w1 w'->(fun w':World=>w'.cell? ⟨xb,0,none⟩=some (.int .u8 2)/\w'.cell? ⟨xb,1,none⟩=some (.int .i64 0)/\w'.cell? ⟨xb,2,none⟩=some (.string ⟨#[120]⟩)/\w'.cell? ⟨xb,3,none⟩=some (.slice none 0 0)) w' from fun w' hb=>⟨zb hb (zc HX1.out rfl),zb hb (zc HX1.out rfl),zb hb (zc HX1.out rfl),zb hb (zc HX1.out rfl)⟩)
 have hSS:(fun w':World=>w'.cell? ⟨xb,0,none⟩=some (.int .u8 2)/\w'.cell? ⟨xb,1,none⟩=some (.int .i64 0)/\w'.cell? ⟨xb,2,none⟩=some (.string ⟨#[120]⟩)/\w'.cell? ⟨xb,3,none⟩=some (.slice none 0 0)) w1.drew/\(fun _:World=>True) w1.drew:=⟨HSS.out _ (Below.refl _ _).drew,trivial⟩
 refine wp_region_noPanic ?_
 refine wp_region_G (fun w':World=>w'.cell? ⟨xb,0,none⟩=some (.int .u8 2)/\w'.cell? ⟨xb,1,none⟩=some (.int .i64 0)/\w'.cell? ⟨xb,2,none⟩=some (.string ⟨#[120]⟩)/\w'.cell? ⟨xb,3,none⟩=some (.slice none 0 0)) (fun _:World=>True) 5 (by kernel_rfl) ?_
 refine zT 0 hSS ?_
 (try simp only [Act.put,zP])
 refine zT 1 hSS ?_
 (try simp only [Act.put,zP])
 have had:Calls Tryz.prog 27 [.int .i64 n].toArray w1.drew fun e w'=>∃ v,e=.returned v/\(v=nv 1 n ⟨#[]⟩ none 0 0/\Below w1.heap.size w1 w'):=(anum_any n _).mono fun e w' ⟨h1,h2⟩=>⟨_,h1,rfl,bl_tt (Below.refl w1.heap.size w1).drew h2⟩
 refine wpG_one (i:=2) (by kernel_rfl) rfl (fun K hK=>?_)
 refine step_callL (by rfl) (.func 27) [.tmp 5] _ (by rfl) 27 _ fnNumA (by rfl) _ (by rfl) _ had ?_
 rintro v2 w2 ⟨rfl,hb2⟩
 have HB2:=zh hb2
 refine hK.out _ _ ⟨HSS.out _ hb2,trivial⟩ ?_
 clear hK K hSS had hb2
 (try simp only [Act.put,zP])
 refine wpG_one (i:=3) (by kernel_rfl) rfl (fun K hK=>?_)
 (try simp only [zA,zB,zC])
 go_simp
 refine hK.out _ _ ⟨HSS.out _ (bl_al HB2.out _),trivial⟩ ?_
 clear hK K
 (try simp only [Act.put,zP])
 refine wpG_one (i:=4) (by kernel_rfl) rfl (fun K hK=>?_)
 (try simp only [zA,zB,zC])
 go_simp
 refine hK.out _ _ ⟨HSS.out _ (bl_al HB2.out _),trivial⟩ ?_
 clear hK K
 (try simp only [Act.put,zP])
 have hnv:=NV_two w2 26 (S:=fun b=>b=w2.heap.size) rfl (t1:=xT) (t2:=nT n) (k:=16) (n:=0) (s:=⟨#[]⟩) ⟨⟨by omega,by omega⟩,⟨by omega,by omega⟩,by decide⟩ (NV_leaf w2 _ (k:=2) (n:=0) (s:=⟨#[120]⟩) ⟨⟨by omega,by omega⟩,⟨by omega,by omega⟩,by decide⟩) (NV_leaf w2 _ (k:=1) (n:=n) (s:=⟨#[]⟩) ⟨⟨by omega,by omega⟩,hn,by decide⟩)
 have hb3:Below w1.heap.size w1 (w2.alloc (.cells #[.int .u8 2,.int .i64 0,.string ⟨#[120]⟩,.slice none 0 0,.int .u8 1,.int .i64 n,.string ⟨#[]⟩,.slice none 0 0] 26)):=bl_al HB2.out _
 have hsz2:w.heap.size<w2.heap.size:=Nat.lt_of_lt_of_le (blk_lt HK1.out) HB2.out.size
 obtain ⟨w3,hw3⟩:∃ x,w2.alloc (.cells #[.int .u8 2,.int .i64 0,.string ⟨#[120]⟩,.slice none 0 0,.int .u8 1,.int .i64 n,.string ⟨#[]⟩,.slice none 0 0] 26)=x:=⟨_,rfl⟩
 rw [hw3] at hnv hb3 ⊢
 have hz3:w3.heap.size=w2.heap.size+1:=by rw [<-hw3]; simp
 have hk3:=blk_bl HK1.out hb3
 have c0:w3.cell? ⟨w.heap.size,0,none⟩=some (.int .u8 0):=zc hk3 rfl
 have c1:w3.cell? ⟨w.heap.size,1,none⟩=some (.int .i64 0):=zc hk3 rfl
 have c2:w3.cell? ⟨w.heap.size,2,none⟩=some (.string ⟨#[]⟩):=zc hk3 rfl
 have c3:w3.cell? ⟨w.heap.size,3,none⟩=some (.slice none 0 0):=zc hk3 rfl
 have cf:∀ o,w3.frozen? ⟨w.heap.size,o,none⟩=false:=fun _=>zf hk3
 have HN3:=zh hnv
 have HB3:=zh hb3
 have HK3:=zh hk3
 clear hw3 hnv hb3 hk3
 refine wpG_past (i:=5) (by kernel_rfl) rfl (by kernel_rfl) (fun K hK=>?_)
 (try simp only [zA,zB,zC])
 go_simp
 obtain ⟨hh,hch⟩:=set4z (u0:=.int .u8 16) (u1:=.int .i64 0) (u2:=.string ⟨#[]⟩) (u3:=.slice (some ⟨w2.heap.size,0,none⟩) 2 2) HK3.out
 obtain ⟨w4,hw4⟩:∃ x,(((w3.setCell ⟨w.heap.size,0,none⟩ (.int .u8 16)).setCell ⟨w.heap.size,1,none⟩ (.int .i64 0)).setCell ⟨w.heap.size,2,none⟩ (.string ⟨#[]⟩)).setCell ⟨w.heap.size,3,none⟩ (.slice (some ⟨w2.heap.size,0,none⟩) 2 2)=x:=⟨_,rfl⟩
 rw [hw4] at hh hch ⊢
 have hxl:xb≠w.heap.size:=by
  intro e
  have h1:=HX1.out
  rw [e,HK1.out] at h1
  simp at h1
 refine hK.out _ _ ?_ ?_
 ·obtain ⟨q0,q1,q2,q3⟩:=HSS.out _ HB3.out
  exact ⟨chg_cell hch q0 hxl,chg_cell hch q1 hxl,chg_cell hch q2 hxl,chg_cell hch q3 hxl⟩
 clear hK K HSS c0 c1 c2 c3 cf hw4
 (try simp only [Act.put,zP])
 refine wpG_done (by kernel_rfl) ?_
 refine NoPanic.normal ?_
 obtain ⟨r0,r1,r2,r3⟩:=box4 hh
 go_wp2_with fail
 refine bodyPost_ret (v:=nv 16 0 ⟨#[]⟩ (some ⟨w2.heap.size,0,none⟩) 2 2) (by simp [results,Tryz.results26,go_sem,r0,r1,r2,r3]) rfl ⟨_,rfl,_,_,rfl,?_,?_⟩
 ·refine HN3.out.keep (fun _ _ _=>trivial) fun b hb hlt=>hch.block b hlt fun e=>by omega
 ·exact (bl_tt HB1.out HB3.out).trans (hch.below (bl_tt HB1.out HB3.out).size fun b e=>by omega)
theorem zero_kind {w:World} {p:Addr} {bb:Nat} {E:TypeId} {k:Int} (hz:w.heap[bb]?=some (.cells #[.int .u8 0,.int .i64 0,.string ⟨#[]⟩,.slice none 0 0] E (0,0))) (hp:p.block=bb) (h:w.cell? p=some (.int .u8 k)):k=0:=by
 subst hp
 obtain ⟨b,o,m⟩:=p
 simp only [World.cell?] at h hz
 cases m with
 | none =>
  simp only [hz] at h
  match o,h with
  | 0,h=>simp at h; exact h.symm
  | 1,h=>simp at h
  | 2,h=>simp at h
  | 3,h=>simp at h
  | n+4,h=>simp at h
 | some x=>simp [hz] at h
theorem NV.nz {w:World} {bb:Nat} {E:TypeId} (hz:w.heap[bb]?=some (.cells #[.int .u8 0,.int .i64 0,.string ⟨#[]⟩,.slice none 0 0] E (0,0))):∀ (t:T) (v:Value),NV w Any t v->(∀ u∈po t,u.k≠0)->NV w (fun b=>b≠bb) t v:=by
 intro t
 induction t using T.ind with
 | _ k n s ks ih =>
  intro v hv hk
  obtain ⟨A,c,rfl,hf,hlk,hlc,hrow⟩:=hv.open_
  refine NV.shut hf hlk hlc fun i hi=>?_
  obtain ⟨a,u0,u1,u2,u3,hA,-,hc,hn⟩:=hrow i hi
  have hm:(T.nd k n s ks).ks[i]∈ks:=List.getElem_mem hi
  have hsub:∀ u∈po (T.nd k n s ks).ks[i],u.k≠0:=fun u hu=>hk u (by simp only [po,List.mem_cons]; exact .inr (mem_pos.2 ⟨_,hm,hu⟩))
  refine ⟨a,u0,u1,u2,u3,hA,fun e=>?_,hc,ih _ hm _ hn hsub⟩
  obtain ⟨A',c',e',-⟩:=hn.open_
  injection e' with e'
  simp only [Array.mk.injEq,List.cons.injEq,and_true] at e'
  have h0:=hc.c0
  rw [e'.1] at h0
  have hself:(T.nd k n s ks).ks[i]∈po (T.nd k n s ks).ks[i]:=by
   rcases hq:(T.nd k n s ks).ks[i] with ⟨k',n',s',ks'⟩
   simp [po]
  exact hsub _ hself (zero_kind hz (by rw [block_add]; exact e) h0)
theorem sv_one (W:World) (x:Int) (hx:I64 x):SV ((W.alloc (.cells #[.int .i64 x] 3)).alloc (.cells #[.slice (some ⟨W.heap.size,0,none⟩) 1 1] 30)) Any ⟨[[x]],[],[]⟩ (.agg #[.slice (some ⟨W.heap.size+1,0,none⟩) 1 1,.slice none 0 0,.slice none 0 0]):=by
 have k0:=blk_al (heap_alloc_new W (.cells #[.int .i64 x] 3)) (.cells #[.slice (some ⟨W.heap.size,0,none⟩) 1 1] 30)
 have k1:=heap_alloc_new (W.alloc (.cells #[.int .i64 x] 3)) (.cells #[.slice (some ⟨W.heap.size,0,none⟩) 1 1] 30)
 rw [World.size_alloc] at k1
 refine ⟨_,1,none,0,none,0,rfl,fun i hi=>?_,fun i hi=>by simp at hi,fun i hi=>by simp at hi,by simp,by simp,by simp,?_⟩
 ·have h0:i=0:=by simp at hi; exact hi
  subst h0
  exact ⟨⟨W.heap.size+1,0,none⟩,some ⟨W.heap.size,0,none⟩,1,rfl,trivial,zc k1 rfl,by simp,rowI_blk (xs:=[x]) k0 (by intro y hy; simp at hy; subst hy; exact hx)⟩
 ·exact ⟨by simp [LI],fun l hl=>by simp at hl; subst hl; simp [LI],by simp,by simp⟩
theorem pv_pgA {W:World} {vb nb:Nat} (hk:W.heap[vb]?=some (.cells #[.string ⟨#[120]⟩,.int .u8 1,.int .i64 0] 58 (0,0))) (hn:NV W Any (blT [loT]) (nv 57 0 ⟨#[]⟩ (some ⟨nb,0,none⟩) 1 1)) :
  PV W Any pgA (.agg #[.slice (some ⟨vb,0,none⟩) 1 1,.slice none 0 0,.int .u8 57,.int .i64 0,.string ⟨#[]⟩,.slice (some ⟨nb,0,none⟩) 1 1]):=by
 refine ⟨some ⟨vb,0,none⟩,1,none,0,some ⟨nb,0,none⟩,1,rfl,rowV_blk (vs:=[⟨⟨#[120]⟩,1,0⟩]) hk ?_,by decide,by decide,fun i hi=>by simp [pgA] at hi,by decide,by decide,hn⟩
 intro v hv
 simp at hv
 subst hv
 exact ⟨by decide,⟨by decide,by decide⟩,by decide,by decide⟩
theorem OwnS.one {W:World} {n0:Nat} {x:Int} {ti to_:List Int} {v:Value} (h:OwnS W n0 ⟨[[x]],ti,to_⟩ v):∃ cb c eb d B d1 D d2,v=.agg #[.slice (some ⟨cb,0,none⟩) 1 c,.slice B ti.length d1,.slice D to_.length d2]/\W.cell? ⟨cb,0,none⟩=some (.slice (some ⟨eb,0,none⟩) 1 d)/\W.cell? ⟨eb,0,none⟩=some (.int .i64 x):=by
 obtain ⟨vc,vi,vo,fc,rfl,hr,-⟩:=h
 obtain ⟨B,d1,e2,-⟩:=row_slice (hr.row .inp)
 obtain ⟨D,d2,e3,-⟩:=row_slice (hr.row .out)
 change vi=.slice B ti.length d1 at e2
 change vo=.slice D to_.length d2 at e3
 obtain ⟨cb,c,e1,-,-,hc⟩:=row_some (hr.row .all) (by show 0<1; decide)
 change vc=.slice (some ⟨cb,0,none⟩) 1 c at e1
 obtain ⟨eb,d,e4,-,-,he⟩:=row_some (hr.row (.el 0)) (by show 0<1; decide)
 change fc 0=.slice (some ⟨eb,0,none⟩) 1 d at e4
 refine ⟨cb,c,eb,d,B,d1,D,d2,by rw [e1,e2,e3],?_,?_⟩
 ·rw [hc 0 (by show 0<1*1; decide),<-e4]; simp [rowsS]
 ·rw [he 0 (by show 0<1*1; decide)]; simp [rowsS,flatI]
theorem gas50:(50:Int).toNat*2000+2000<=102000:=by decide
section
variable {P:Program} {md:Region.Mode} {ops:Array Oper} {Q:Exit->Act->World->Prop} {S1 S2:World->Prop} {k:Nat}
theorem wpG_alt {i j:Nat} {oi oj:Oper} (si sj:Option Nat) (n:Nat) (L:Bool->Bool->Array Bool) (a0:Act) (Inv:World->Prop) (Al Fact:Value->World->Prop)
  (hoi:ops[i]?=some oi) (hoj:ops[j]?=some oj) (hdi:oi.dst=si) (hdj:oj.dst=sj) (hr0:Region.ready md ops (L false false)=[i,j]) (hr1:Region.ready md ops (L false true)=[i])
  (hLi:∀ l4,(L false l4).setIfInBounds i true=L true l4) (hLj:(L false false).setIfInBounds j true=L false true)
  (hS:∀ w,Inv w->S1 w/\S2 w) (hInv:∀ w w',Inv w->Below w.heap.size w w'->Inv w') (hAl:∀ u w w',Al u w->Below w.heap.size w w'->Al u w')
  (hi:∀ (v4:Value) (K:Act->World->Prop) (w:World),Inv w->Shut (∀ v w',Below w.heap.size w w'->Fact v w'->K ((a0.put sj v4).put si v) w')->if Region.wanted oi (yielded ops (a0.put sj v4).tmps)=true then Oper.wp P oi (a0.put sj v4) w K Q else K ((a0.put sj v4).put si undef) w)
  (hj:∀ (v4:Value) (K:Act->World->Prop) (w:World),Inv w->Shut (∀ v w',Below w.heap.size w w'->Al v w'->K ((a0.put sj v4).put sj v) w')->if Region.wanted oj (yielded ops (a0.put sj v4).tmps)=true then Oper.wp P oj (a0.put sj v4) w K Q else K ((a0.put sj v4).put sj undef) w)
  (hpp:∀ u v,(a0.put sj u).put sj v=a0.put sj v)
  (hc:∀ (l4:Bool) (v4 v:Value) (w:World),Inv w->Fact v w->(l4=true->Al v4 w)->(l4=false->v4=undef)->wpG P md ops Q S1 S2 k (n+(!l4).toNat) (L true l4) ((a0.put sj v4).put si v) w) :
  ∀ (l4:Bool) (v4:Value) (w:World),Inv w->(l4=true->Al v4 w)->(l4=false->v4=undef)->a0.put sj v4=a0->wpG P md ops Q S1 S2 k (n+1+(!l4).toNat) (L false l4) a0 w:=by
 subst hdi hdj
 have h1:∀ (v4:Value) (w:World),Inv w->Al v4 w->wpG P md ops Q S1 S2 k (n+1) (L false true) (a0.put oj.dst v4) w:=by
  intro v4 w hI hA
  refine ⟨(fun h0=>by rw [hr1] at h0; cases h0),fun q hq=>?_⟩
  rw [hr1] at hq
  simp only [List.mem_singleton] at hq
  subst hq
  refine wpOp_step hoi fun K' hK=>hi v4 K' w hI ?_
  intro v w' hb hF
  have hI':=hInv _ _ hI hb
  refine hK _ _ ⟨⟨(hS _ hI').1,fun _=>(hS _ hI').2⟩,?_⟩
  rw [hLi]
  exact hc true v4 v w' hI' hF (fun _=>hAl _ _ _ hA hb) (fun h=>by cases h)
 intro l4 v4 w hI hA hU ha
 cases l4
 ·have hv:=hU rfl
  refine ⟨(fun h0=>by rw [hr0] at h0; cases h0),fun q hq=>?_⟩
  rw [hr0] at hq
  simp only [List.mem_cons,List.not_mem_nil,or_false] at hq
  rcases hq with rfl|rfl
  ·refine wpOp_step hoi fun K' hK=>?_
   rw [<-ha]
   refine hi v4 K' w hI ?_
   intro v w' hb hF
   have hI':=hInv _ _ hI hb
   refine hK _ _ ⟨⟨(hS _ hI').1,fun _=>(hS _ hI').2⟩,?_⟩
   rw [hLi]
   exact hc false v4 v w' hI' hF (fun h=>by cases h) (fun _=>hv)
  ·refine wpOp_step hoj fun K' hK=>?_
   rw [<-ha]
   refine hj v4 K' w hI ?_
   intro v w' hb hF
   have hI':=hInv _ _ hI hb
   refine hK _ _ ⟨⟨(hS _ hI').1,fun _=>(hS _ hI').2⟩,?_⟩
   rw [hLj,hpp]
   exact h1 v w' hI' hF
 ·rw [<-ha]
  exact h1 v4 w hI (hA rfl)
theorem wpG_free {j:Nat} {oj:Oper} (sj:Option Nat) (n:Nat) (L:Bool->Array Bool) (a0:Act) (Inv:World->Prop) (Al:Value->World->Prop)
  (hoj:ops[j]?=some oj) (hdj:oj.dst=sj) (hr0:Region.ready md ops (L false)=[j]) (hLj:(L false).setIfInBounds j true=L true)
  (hS:∀ w,Inv w->S1 w/\S2 w) (hInv:∀ w w',Inv w->Below w.heap.size w w'->Inv w')
  (hj:∀ (v4:Value) (K:Act->World->Prop) (w:World),Inv w->Shut (∀ v w',Below w.heap.size w w'->Al v w'->K ((a0.put sj v4).put sj v) w')->if Region.wanted oj (yielded ops (a0.put sj v4).tmps)=true then Oper.wp P oj (a0.put sj v4) w K Q else K ((a0.put sj v4).put sj undef) w)
  (hpp:∀ u v,(a0.put sj u).put sj v=a0.put sj v)
  (hc:∀ (v4:Value) (w:World),Inv w->Al v4 w->wpG P md ops Q S1 S2 k n (L true) (a0.put sj v4) w) :
  ∀ (l4:Bool) (v4:Value) (w:World),Inv w->(l4=true->Al v4 w)->a0.put sj v4=a0->wpG P md ops Q S1 S2 k (n+(!l4).toNat) (L l4) a0 w:=by
 subst hdj
 intro l4 v4 w hI hA ha
 cases l4
 ·refine ⟨(fun h0=>by rw [hr0] at h0; cases h0),fun q hq=>?_⟩
  rw [hr0] at hq
  simp only [List.mem_singleton] at hq
  subst hq
  refine wpOp_step hoj fun K' hK=>?_
  rw [<-ha]
  refine hj v4 K' w hI ?_
  intro v w' hb hF
  have hI':=hInv _ _ hI hb
  refine hK _ _ ⟨⟨(hS _ hI').1,fun _=>(hS _ hI').2⟩,?_⟩
  rw [hLj,hpp]
  exact hc v w' hI' hF
 ·rw [<-ha]
  exact hc v4 w hI (hA rfl)
end
theorem bSN4 (a0 a1 a2 a3 b0 b1 b2 b3 c0 c1 c2 c3 d0 d1 d2 d3:Value) (w:World):(Instr.buildSlice 24 4 #[(0,.agg #[a0,a1,a2,a3]),(1,.agg #[b0,b1,b2,b3]),(2,.agg #[c0,c1,c2,c3]),(3,.agg #[d0,d1,d2,d3])]).run Tryz.prog w=.ok (.slice (some ⟨w.heap.size,0,none⟩) 4 4) (w.alloc (.cells #[a0,a1,a2,a3,b0,b1,b2,b3,c0,c1,c2,c3,d0,d1,d2,d3] 26)):=by kernel_rfl
theorem NV_four (W:World) (E:TypeId) {S:Nat->Prop} (hS:S W.heap.size) {t1 t2 t3 t4:T} {k n k1 n1 k2 n2 k3 n3 k4 n4:Int} {s s1 s2 s3 s4:ByteArray} {A1 A2 A3 A4:Option Addr} {l1 c1 l2 c2 l3 c3 l4 c4:Nat} (hf:Fld k n s) (h1:NV W S t1 (nv k1 n1 s1 A1 l1 c1)) (h2:NV W S t2 (nv k2 n2 s2 A2 l2 c2)) (h3:NV W S t3 (nv k3 n3 s3 A3 l3 c3)) (h4:NV W S t4 (nv k4 n4 s4 A4 l4 c4)) :
  NV (W.alloc (.cells #[.int .u8 k1,.int .i64 n1,.string s1,.slice A1 l1 c1,.int .u8 k2,.int .i64 n2,.string s2,.slice A2 l2 c2,.int .u8 k3,.int .i64 n3,.string s3,.slice A3 l3 c3,.int .u8 k4,.int .i64 n4,.string s4,.slice A4 l4 c4] E)) S (.nd k n s [t1,t2,t3,t4]) (nv k n s (some ⟨W.heap.size,0,none⟩) 4 4):=by
 refine NV.shut (ks:=[t1,t2,t3,t4]) hf (by simp [LK]) (by simp) fun i hi=>?_
 have hb:=bl_al (Below.refl W.heap.size W) (.cells #[.int .u8 k1,.int .i64 n1,.string s1,.slice A1 l1 c1,.int .u8 k2,.int .i64 n2,.string s2,.slice A2 l2 c2,.int .u8 k3,.int .i64 n3,.string s3,.slice A3 l3 c3,.int .u8 k4,.int .i64 n4,.string s4,.slice A4 l4 c4] E)
 have hx:=heap_alloc_new W (.cells #[.int .u8 k1,.int .i64 n1,.string s1,.slice A1 l1 c1,.int .u8 k2,.int .i64 n2,.string s2,.slice A2 l2 c2,.int .u8 k3,.int .i64 n3,.string s3,.slice A3 l3 c3,.int .u8 k4,.int .i64 n4,.string s4,.slice A4 l4 c4] E)
 match i,hi with
 | 0,_=>exact ⟨⟨W.heap.size,0,none⟩,_,_,_,_,rfl,hS,⟨zc hx rfl,zc hx rfl,zc hx rfl,zc hx rfl⟩,h1.later hb⟩
 | 1,_=>exact ⟨⟨W.heap.size,0,none⟩,_,_,_,_,rfl,hS,⟨zc hx rfl,zc hx rfl,zc hx rfl,zc hx rfl⟩,h2.later hb⟩
 | 2,_=>exact ⟨⟨W.heap.size,0,none⟩,_,_,_,_,rfl,hS,⟨zc hx rfl,zc hx rfl,zc hx rfl,zc hx rfl⟩,h3.later hb⟩
 | 3,_=>exact ⟨⟨W.heap.size,0,none⟩,_,_,_,_,rfl,hS,⟨zc hx rfl,zc hx rfl,zc hx rfl,zc hx rfl⟩,h4.later hb⟩
theorem fld0 (k:Int) (hk:0<=k/\k<256):Fld k 0 ⟨#[]⟩:=⟨hk,⟨by omega,by omega⟩,by decide⟩
theorem bSVw (a0 a1 a2:Value) (w:World):(Instr.buildSlice 22 1 #[(0,.agg #[a0,a1,a2])]).run Tryz.prog w=.ok (.slice (some ⟨w.heap.size,0,none⟩) 1 1) (w.alloc (.cells #[a0,a1,a2] 58)):=by kernel_rfl
theorem bPgA (A B:Option Addr) (l c m d:Nat) (k n:Int) (s:ByteArray) (w:World):(Instr.build 28 #[(0,.slice A l c),(2,nv k n s B m d)]).run Tryz.prog w=.ok (.agg #[.slice A l c,.slice none 0 0,.int .u8 k,.int .i64 n,.string s,.slice B m d]) w:=by kernel_rfl
theorem bII1A (A:Option Addr) (l c:Nat) (w:World):(Instr.buildSlice 29 1 #[(0,.slice A l c)]).run Tryz.prog w=.ok (.slice (some ⟨w.heap.size,0,none⟩) 1 1) (w.alloc (.cells #[.slice A l c] 30)):=by kernel_rfl
theorem awake_any (w:World):Calls Tryz.prog 13 #[] w fun e w'=>e=.returned (.bool true)/\Below w.heap.size w w':=by
 have hmf:∀ (fn:Fn) (first cap:Array Value) (w:World),(Instr.makeFunc fn first cap).run Tryz.prog w=.ok (.func fn first cap) w:=fun _ _ _ _=>rfl
 have h1:=bSN1
 have h2:=bSN2
 have h3:=bNk
 have h4:=bSN4
 go_enter Tryz.func13,Tryz.ntmps13
 go_wp2_with fail
 refine (av_any ⟨#[120]⟩ w).mono ?_
 rintro e w1 ⟨rfl,b1⟩
 have hb2:=bl_al b1 (.cells #[.int .u8 2,.int .i64 0,.string ⟨#[120]⟩,.slice none 0 0] 26)
 have kx:=heap_alloc_new w1 (.cells #[.int .u8 2,.int .i64 0,.string ⟨#[120]⟩,.slice none 0 0] 26)
 go_upto_region 4 with fail
 obtain ⟨xb,hxb⟩:∃ x,w1.heap.size=x:=⟨_,rfl⟩
 obtain ⟨w2,hw2⟩:∃ x,w1.alloc (.cells #[.int .u8 2,.int .i64 0,.string ⟨#[120]⟩,.slice none 0 0] 26)=x:=⟨_,rfl⟩
 rw [hw2] at hb2 kx ⊢
 rw [hxb] at kx ⊢
 have HB2:=zh hb2
 have HKX:=zh kx
 clear b1 hb2 kx
 clear hw2 hxb
 have HSS:=zh (show ∀ w',Below w2.heap.size w2 w'->(fun w':World=>w'.cell? ⟨xb,0,none⟩=some (.int .u8 2)/\w'.cell? ⟨xb,1,none⟩=some (.int .i64 0)/\w'.cell? ⟨xb,2,none⟩=some (.string ⟨#[120]⟩)/\w'.cell? ⟨xb,3,none⟩=some (.slice none 0 0)) w' from fun w' hb=>⟨zb hb (zc HKX.out rfl),zb hb (zc HKX.out rfl),zb hb (zc HKX.out rfl),zb hb (zc HKX.out rfl)⟩)
 have hSS:(fun w':World=>w'.cell? ⟨xb,0,none⟩=some (.int .u8 2)/\w'.cell? ⟨xb,1,none⟩=some (.int .i64 0)/\w'.cell? ⟨xb,2,none⟩=some (.string ⟨#[120]⟩)/\w'.cell? ⟨xb,3,none⟩=some (.slice none 0 0)) w2.drew/\(fun _:World=>True) w2.drew:=⟨HSS.out _ (Below.refl _ _).drew,trivial⟩
 refine wp_region_noPanic ?_
 refine wp_region_G (fun w':World=>w'.cell? ⟨xb,0,none⟩=some (.int .u8 2)/\w'.cell? ⟨xb,1,none⟩=some (.int .i64 0)/\w'.cell? ⟨xb,2,none⟩=some (.string ⟨#[120]⟩)/\w'.cell? ⟨xb,3,none⟩=some (.slice none 0 0)) (fun _:World=>True) 16 (by kernel_rfl) ?_
 refine zT 0 hSS ?_
 (try simp only [Act.put,zP])
 refine zT 2 hSS ?_
 (try simp only [Act.put,zP])
 refine zT 3 hSS ?_
 (try simp only [Act.put,zP])
 refine zT 9 hSS ?_
 (try simp only [Act.put,zP])
 refine zT 11 hSS ?_
 (try simp only [Act.put,zP])
 -- operation 1
 have hI:(fun w=>Below w2.heap.size w2 w) w2.drew:=(Below.refl _ _).drew
 clear hSS
 refine wpG_alt (i:=1) (j:=15) (some 11) (some 4) 10 (fun li l4 => #[true,li,true,true,false,false,false,false,false,true,false,true,false,false,false,l4,false]) _ (fun w=>Below w2.heap.size w2 w) (fun u w=>∃ b,u=.pointer (some ⟨b,0,none⟩)/\w2.heap.size<=b/\w.heap[b]?=some (.cells #[.int .u8 0,.int .i64 0,.string ⟨#[]⟩,.slice none 0 0] 26 (0,0))) (fun v w=>∃ A c,v=nv 16 0 ⟨#[]⟩ A 2 c/\NV w Any (eqT 0) v) rfl rfl rfl rfl (by kernel_rfl) (by kernel_rfl) (fun l4=>by cases l4<;>rfl) rfl (fun w h=>⟨HSS.out _ h,trivial⟩) (fun w w' h hb=>?_) (fun u w w' h hb=>?_) (fun v4 K w h hK0=>?_) (fun v4 K w h hK0=>?_) (fun u v=>?_) (fun l4 v4 v wc h hF hA hU=>?_) false undef w2.drew hI (fun h=>by cases h) (fun _=>rfl) ?_
 ·have hb0:=h
  exact bl_tt hb0 hb
 ·obtain ⟨b,e1,e2,e3⟩:=h
  exact ⟨b,e1,e2,blk_bl e3 hb⟩
 ·have hb0:=h
  have hK:=zh hK0
  clear hK0
  have had:=aeq_any 0 ⟨by decide,by decide⟩ xb w (blk_bl HKX.out hb0)
  rw [show (#[Value.int .i64 0,.pointer (some ⟨xb,0,none⟩)]:Array Value)=[Value.int .i64 0].toArray ++ #[.pointer (some ⟨xb,0,none⟩)] from rfl] at had
  refine step_callC (by rfl) (.tmp 10) [.const (.int .i64 0)] _ (by rfl) 26 _ fnEqA #[.pointer (some ⟨xb,0,none⟩)] (by rfl) _ (by rfl) _ had ?_
  rintro v w' ⟨A,c,rfl,hn,hb⟩
  exact hK.out _ _ hb ⟨A,c,rfl,hn⟩
 ·have hb0:=h
  have hK:=zh hK0
  clear hK0
  (try simp only [Act.put,zP])
  (try simp only [zA,zB,zC])
  go_simp
  exact hK.out _ _ (bl_al (Below.refl _ _) _) ⟨_,rfl,hb0.size,heap_alloc_new w _⟩
 ·simp only [Act.put,zD,zE,zF]
 rotate_left 1
 ·simp only [Act.put,zD,zE,zF]
 (try simp only [Act.put,zP])
 obtain ⟨A11,c11,rfl,m11⟩:=hF
 clear hI
 have hb0:=h
 have hI:(fun w=>Below w2.heap.size w2 w/\NV w Any (eqT 0) (nv 16 0 ⟨#[]⟩ A11 2 c11)) wc:=⟨hb0,m11⟩
 have hA4:=hA
 have hU4:=hU
 clear hA hU hb0
 -- operation 4
 refine wpG_alt (i:=4) (j:=15) (some 14) (some 4) 9 (fun li l4 => #[true,true,true,true,li,false,false,false,false,true,false,true,false,false,false,l4,false]) _ (fun w=>Below w2.heap.size w2 w/\NV w Any (eqT 0) (nv 16 0 ⟨#[]⟩ A11 2 c11)) (fun u w=>∃ b,u=.pointer (some ⟨b,0,none⟩)/\w2.heap.size<=b/\w.heap[b]?=some (.cells #[.int .u8 0,.int .i64 0,.string ⟨#[]⟩,.slice none 0 0] 26 (0,0))) (fun v w=>v=nv 1 1 ⟨#[]⟩ none 0 0) rfl rfl rfl rfl (by kernel_rfl) (by kernel_rfl) (fun l4=>by cases l4<;>rfl) rfl (fun w h=>⟨HSS.out _ h.1,trivial⟩) (fun w w' h hb=>?_) (fun u w w' h hb=>?_) (fun v4 K w h hK0=>?_) (fun v4 K w h hK0=>?_) (fun u v=>?_) (fun l4 v4 v wc h hF hA hU=>?_) l4 v4 wc hI hA4 hU4 ?_
 ·obtain ⟨hb0,n11⟩:=h
  exact ⟨bl_tt hb0 hb,n11.later hb⟩
 ·obtain ⟨b,e1,e2,e3⟩:=h
  exact ⟨b,e1,e2,blk_bl e3 hb⟩
 ·obtain ⟨hb0,n11⟩:=h
  have hK:=zh hK0
  clear hK0
  refine step_callL (by rfl) (.func 27) [.const (.int .i64 1)] _ (by rfl) 27 _ fnNumA (by rfl) _ (by rfl) (fun v w'=>v=nv 1 1 ⟨#[]⟩ none 0 0/\Below w.heap.size w w') ((anum_any 1 w).mono fun e w' ⟨h1,h2⟩=>⟨_,h1,rfl,h2⟩) ?_
  rintro v w' ⟨rfl,hb⟩
  exact hK.out _ _ hb rfl
 ·obtain ⟨hb0,n11⟩:=h
  have hK:=zh hK0
  clear hK0
  (try simp only [Act.put,zP])
  (try simp only [zA,zB,zC])
  go_simp
  exact hK.out _ _ (bl_al (Below.refl _ _) _) ⟨_,rfl,hb0.size,heap_alloc_new w _⟩
 ·simp only [Act.put,zD,zE,zF]
 rotate_left 1
 ·simp only [Act.put,zD,zE,zF]
 (try simp only [Act.put,zP])
 subst hF
 clear hI hA4 hU4
 obtain ⟨hb0,n11⟩:=h
 have hI:(fun w=>Below w2.heap.size w2 w/\NV w Any (eqT 0) (nv 16 0 ⟨#[]⟩ A11 2 c11)) wc:=⟨hb0,n11⟩
 have hA4:=hA
 have hU4:=hU
 clear hA hU n11 hb0
 -- operation 5
 refine wpG_alt (i:=5) (j:=15) (some 15) (some 4) 8 (fun li l4 => #[true,true,true,true,true,li,false,false,false,true,false,true,false,false,false,l4,false]) _ (fun w=>Below w2.heap.size w2 w/\NV w Any (eqT 0) (nv 16 0 ⟨#[]⟩ A11 2 c11)) (fun u w=>∃ b,u=.pointer (some ⟨b,0,none⟩)/\w2.heap.size<=b/\w.heap[b]?=some (.cells #[.int .u8 0,.int .i64 0,.string ⟨#[]⟩,.slice none 0 0] 26 (0,0))) (fun v w=>∃ b,v=.slice (some ⟨b,0,none⟩) 2 2/\NV w Any plT (nv 40 0 ⟨#[]⟩ (some ⟨b,0,none⟩) 2 2)) rfl rfl rfl rfl (by kernel_rfl) (by kernel_rfl) (fun l4=>by cases l4<;>rfl) rfl (fun w h=>⟨HSS.out _ h.1,trivial⟩) (fun w w' h hb=>?_) (fun u w w' h hb=>?_) (fun v4 K w h hK0=>?_) (fun v4 K w h hK0=>?_) (fun u v=>?_) (fun l4 v4 v wc h hF hA hU=>?_) l4 v4 wc hI hA4 hU4 ?_
 ·obtain ⟨hb0,n11⟩:=h
  exact ⟨bl_tt hb0 hb,n11.later hb⟩
 ·obtain ⟨b,e1,e2,e3⟩:=h
  exact ⟨b,e1,e2,blk_bl e3 hb⟩
 ·obtain ⟨hb0,n11⟩:=h
  have hK:=zh hK0
  clear hK0
  (try simp only [Act.put,zP])
  (try simp only [zA,zB,zC])
  go_simp
  exact hK.out _ _ (bl_al (Below.refl _ _) _) ⟨_,rfl,NV_two w 26 (S:=Any) trivial (t1:=xT) (t2:=nT 1) (fld0 40 (by omega)) (NV_leaf w Any ⟨⟨by omega,by omega⟩,⟨by omega,by omega⟩,by decide⟩) (NV_leaf w Any ⟨⟨by omega,by omega⟩,⟨by omega,by omega⟩,by decide⟩)⟩
 ·obtain ⟨hb0,n11⟩:=h
  have hK:=zh hK0
  clear hK0
  (try simp only [Act.put,zP])
  (try simp only [zA,zB,zC])
  go_simp
  exact hK.out _ _ (bl_al (Below.refl _ _) _) ⟨_,rfl,hb0.size,heap_alloc_new w _⟩
 ·simp only [Act.put,zD,zE,zF]
 rotate_left 1
 ·simp only [Act.put,zD,zE,zF]
 (try simp only [Act.put,zP])
 obtain ⟨b15,rfl,m15⟩:=hF
 clear hI hA4 hU4
 obtain ⟨hb0,n11⟩:=h
 have hI:(fun w=>Below w2.heap.size w2 w/\NV w Any (eqT 0) (nv 16 0 ⟨#[]⟩ A11 2 c11)/\NV w Any plT (nv 40 0 ⟨#[]⟩ (some ⟨b15,0,none⟩) 2 2)) wc:=⟨hb0,n11,m15⟩
 have hA4:=hA
 have hU4:=hU
 clear hA hU n11 hb0
 -- operation 6
 refine wpG_alt (i:=6) (j:=15) (some 16) (some 4) 7 (fun li l4 => #[true,true,true,true,true,true,li,false,false,true,false,true,false,false,false,l4,false]) _ (fun w=>Below w2.heap.size w2 w/\NV w Any (eqT 0) (nv 16 0 ⟨#[]⟩ A11 2 c11)/\NV w Any plT (nv 40 0 ⟨#[]⟩ (some ⟨b15,0,none⟩) 2 2)) (fun u w=>∃ b,u=.pointer (some ⟨b,0,none⟩)/\w2.heap.size<=b/\w.heap[b]?=some (.cells #[.int .u8 0,.int .i64 0,.string ⟨#[]⟩,.slice none 0 0] 26 (0,0))) (fun v w=>∃ A c,v=nv 40 0 ⟨#[]⟩ A 2 c/\NV w Any plT v) rfl rfl rfl rfl (by kernel_rfl) (by kernel_rfl) (fun l4=>by cases l4<;>rfl) rfl (fun w h=>⟨HSS.out _ h.1,trivial⟩) (fun w w' h hb=>?_) (fun u w w' h hb=>?_) (fun v4 K w h hK0=>?_) (fun v4 K w h hK0=>?_) (fun u v=>?_) (fun l4 v4 v wc h hF hA hU=>?_) l4 v4 wc hI hA4 hU4 ?_
 ·obtain ⟨hb0,n11,n15⟩:=h
  exact ⟨bl_tt hb0 hb,n11.later hb,n15.later hb⟩
 ·obtain ⟨b,e1,e2,e3⟩:=h
  exact ⟨b,e1,e2,blk_bl e3 hb⟩
 ·obtain ⟨hb0,n11,n15⟩:=h
  have hK:=zh hK0
  clear hK0
  (try simp only [Act.put,zP])
  (try simp only [zA,zB,zC])
  go_simp
  exact hK.out _ _ (Below.refl _ _) ⟨_,_,rfl,n15⟩
 ·obtain ⟨hb0,n11,n15⟩:=h
  have hK:=zh hK0
  clear hK0
  (try simp only [Act.put,zP])
  (try simp only [zA,zB,zC])
  go_simp
  exact hK.out _ _ (bl_al (Below.refl _ _) _) ⟨_,rfl,hb0.size,heap_alloc_new w _⟩
 ·simp only [Act.put,zD,zE,zF]
 rotate_left 1
 ·simp only [Act.put,zD,zE,zF]
 (try simp only [Act.put,zP])
 obtain ⟨A16,c16,rfl,m16⟩:=hF
 clear hI hA4 hU4
 obtain ⟨hb0,n11,n15⟩:=h
 have hI:(fun w=>Below w2.heap.size w2 w/\NV w Any (eqT 0) (nv 16 0 ⟨#[]⟩ A11 2 c11)/\NV w Any plT (nv 40 0 ⟨#[]⟩ (some ⟨b15,0,none⟩) 2 2)/\NV w Any plT (nv 40 0 ⟨#[]⟩ A16 2 c16)) wc:=⟨hb0,n11,n15,m16⟩
 have hA4:=hA
 have hU4:=hU
 clear hA hU n11 n15 hb0
 -- operation 7
 refine wpG_alt (i:=7) (j:=15) (some 17) (some 4) 6 (fun li l4 => #[true,true,true,true,true,true,true,li,false,true,false,true,false,false,false,l4,false]) _ (fun w=>Below w2.heap.size w2 w/\NV w Any (eqT 0) (nv 16 0 ⟨#[]⟩ A11 2 c11)/\NV w Any plT (nv 40 0 ⟨#[]⟩ (some ⟨b15,0,none⟩) 2 2)/\NV w Any plT (nv 40 0 ⟨#[]⟩ A16 2 c16)) (fun u w=>∃ b,u=.pointer (some ⟨b,0,none⟩)/\w2.heap.size<=b/\w.heap[b]?=some (.cells #[.int .u8 0,.int .i64 0,.string ⟨#[]⟩,.slice none 0 0] 26 (0,0))) (fun v w=>∃ b,v=.slice (some ⟨b,0,none⟩) 1 1/\NV w Any (blT [plT]) (nv 57 0 ⟨#[]⟩ (some ⟨b,0,none⟩) 1 1)) rfl rfl rfl rfl (by kernel_rfl) (by kernel_rfl) (fun l4=>by cases l4<;>rfl) rfl (fun w h=>⟨HSS.out _ h.1,trivial⟩) (fun w w' h hb=>?_) (fun u w w' h hb=>?_) (fun v4 K w h hK0=>?_) (fun v4 K w h hK0=>?_) (fun u v=>?_) (fun l4 v4 v wc h hF hA hU=>?_) l4 v4 wc hI hA4 hU4 ?_
 ·obtain ⟨hb0,n11,n15,n16⟩:=h
  exact ⟨bl_tt hb0 hb,n11.later hb,n15.later hb,n16.later hb⟩
 ·obtain ⟨b,e1,e2,e3⟩:=h
  exact ⟨b,e1,e2,blk_bl e3 hb⟩
 ·obtain ⟨hb0,n11,n15,n16⟩:=h
  have hK:=zh hK0
  clear hK0
  (try simp only [Act.put,zP])
  (try simp only [zA,zB,zC])
  go_simp
  exact hK.out _ _ (bl_al (Below.refl _ _) _) ⟨_,rfl,NV_one w 26 (S:=Any) trivial (fld0 57 (by omega)) n16⟩
 ·obtain ⟨hb0,n11,n15,n16⟩:=h
  have hK:=zh hK0
  clear hK0
  (try simp only [Act.put,zP])
  (try simp only [zA,zB,zC])
  go_simp
  exact hK.out _ _ (bl_al (Below.refl _ _) _) ⟨_,rfl,hb0.size,heap_alloc_new w _⟩
 ·simp only [Act.put,zD,zE,zF]
 rotate_left 1
 ·simp only [Act.put,zD,zE,zF]
 (try simp only [Act.put,zP])
 obtain ⟨b17,rfl,m17⟩:=hF
 clear hI hA4 hU4
 obtain ⟨hb0,n11,n15,n16⟩:=h
 have hI:(fun w=>Below w2.heap.size w2 w/\NV w Any (eqT 0) (nv 16 0 ⟨#[]⟩ A11 2 c11)/\NV w Any plT (nv 40 0 ⟨#[]⟩ (some ⟨b15,0,none⟩) 2 2)/\NV w Any plT (nv 40 0 ⟨#[]⟩ A16 2 c16)/\NV w Any (blT [plT]) (nv 57 0 ⟨#[]⟩ (some ⟨b17,0,none⟩) 1 1)) wc:=⟨hb0,n11,n15,n16,m17⟩
 have hA4:=hA
 have hU4:=hU
 clear hA hU n11 n15 n16 hb0
 -- operation 8
 refine wpG_alt (i:=8) (j:=15) (some 18) (some 4) 5 (fun li l4 => #[true,true,true,true,true,true,true,true,li,true,false,true,false,false,false,l4,false]) _ (fun w=>Below w2.heap.size w2 w/\NV w Any (eqT 0) (nv 16 0 ⟨#[]⟩ A11 2 c11)/\NV w Any plT (nv 40 0 ⟨#[]⟩ (some ⟨b15,0,none⟩) 2 2)/\NV w Any plT (nv 40 0 ⟨#[]⟩ A16 2 c16)/\NV w Any (blT [plT]) (nv 57 0 ⟨#[]⟩ (some ⟨b17,0,none⟩) 1 1)) (fun u w=>∃ b,u=.pointer (some ⟨b,0,none⟩)/\w2.heap.size<=b/\w.heap[b]?=some (.cells #[.int .u8 0,.int .i64 0,.string ⟨#[]⟩,.slice none 0 0] 26 (0,0))) (fun v w=>∃ A c,v=nv 57 0 ⟨#[]⟩ A 1 c/\NV w Any (blT [plT]) v) rfl rfl rfl rfl (by kernel_rfl) (by kernel_rfl) (fun l4=>by cases l4<;>rfl) rfl (fun w h=>⟨HSS.out _ h.1,trivial⟩) (fun w w' h hb=>?_) (fun u w w' h hb=>?_) (fun v4 K w h hK0=>?_) (fun v4 K w h hK0=>?_) (fun u v=>?_) (fun l4 v4 v wc h hF hA hU=>?_) l4 v4 wc hI hA4 hU4 ?_
 ·obtain ⟨hb0,n11,n15,n16,n17⟩:=h
  exact ⟨bl_tt hb0 hb,n11.later hb,n15.later hb,n16.later hb,n17.later hb⟩
 ·obtain ⟨b,e1,e2,e3⟩:=h
  exact ⟨b,e1,e2,blk_bl e3 hb⟩
 ·obtain ⟨hb0,n11,n15,n16,n17⟩:=h
  have hK:=zh hK0
  clear hK0
  refine step_callL (by rfl) (.tmp 12) [.tmp 17] _ (by rfl) 28 _ fnBlkA (by rfl) _ (by rfl) (fun v w'=>v=nv 57 0 ⟨#[]⟩ (some ⟨b17,0,none⟩) 1 1/\Below w.heap.size w w') ((ablk_any (some ⟨b17,0,none⟩) 1 1 w).mono fun e w' ⟨h1,h2⟩=>⟨_,h1,rfl,h2⟩) ?_
  rintro v w' ⟨rfl,hb⟩
  exact hK.out _ _ hb ⟨_,_,rfl,n17.later hb⟩
 ·obtain ⟨hb0,n11,n15,n16,n17⟩:=h
  have hK:=zh hK0
  clear hK0
  (try simp only [Act.put,zP])
  (try simp only [zA,zB,zC])
  go_simp
  exact hK.out _ _ (bl_al (Below.refl _ _) _) ⟨_,rfl,hb0.size,heap_alloc_new w _⟩
 ·simp only [Act.put,zD,zE,zF]
 rotate_left 1
 ·simp only [Act.put,zD,zE,zF]
 (try simp only [Act.put,zP])
 obtain ⟨A18,c18,rfl,m18⟩:=hF
 clear hI hA4 hU4
 obtain ⟨hb0,n11,n15,n16,n17⟩:=h
 have hI:(fun w=>Below w2.heap.size w2 w/\NV w Any (eqT 0) (nv 16 0 ⟨#[]⟩ A11 2 c11)/\NV w Any plT (nv 40 0 ⟨#[]⟩ (some ⟨b15,0,none⟩) 2 2)/\NV w Any plT (nv 40 0 ⟨#[]⟩ A16 2 c16)/\NV w Any (blT [plT]) (nv 57 0 ⟨#[]⟩ (some ⟨b17,0,none⟩) 1 1)/\NV w Any (blT [plT]) (nv 57 0 ⟨#[]⟩ A18 1 c18)) wc:=⟨hb0,n11,n15,n16,n17,m18⟩
 have hA4:=hA
 have hU4:=hU
 clear hA hU n11 n15 n16 n17 hb0
 -- operation 10
 refine wpG_alt (i:=10) (j:=15) (some 20) (some 4) 4 (fun li l4 => #[true,true,true,true,true,true,true,true,true,true,li,true,false,false,false,l4,false]) _ (fun w=>Below w2.heap.size w2 w/\NV w Any (eqT 0) (nv 16 0 ⟨#[]⟩ A11 2 c11)/\NV w Any plT (nv 40 0 ⟨#[]⟩ (some ⟨b15,0,none⟩) 2 2)/\NV w Any plT (nv 40 0 ⟨#[]⟩ A16 2 c16)/\NV w Any (blT [plT]) (nv 57 0 ⟨#[]⟩ (some ⟨b17,0,none⟩) 1 1)/\NV w Any (blT [plT]) (nv 57 0 ⟨#[]⟩ A18 1 c18)) (fun u w=>∃ b,u=.pointer (some ⟨b,0,none⟩)/\w2.heap.size<=b/\w.heap[b]?=some (.cells #[.int .u8 0,.int .i64 0,.string ⟨#[]⟩,.slice none 0 0] 26 (0,0))) (fun v w=>∃ A c,v=nv 57 0 ⟨#[]⟩ A 0 c/\NV w Any (blT []) v) rfl rfl rfl rfl (by kernel_rfl) (by kernel_rfl) (fun l4=>by cases l4<;>rfl) rfl (fun w h=>⟨HSS.out _ h.1,trivial⟩) (fun w w' h hb=>?_) (fun u w w' h hb=>?_) (fun v4 K w h hK0=>?_) (fun v4 K w h hK0=>?_) (fun u v=>?_) (fun l4 v4 v wc h hF hA hU=>?_) l4 v4 wc hI hA4 hU4 ?_
 ·obtain ⟨hb0,n11,n15,n16,n17,n18⟩:=h
  exact ⟨bl_tt hb0 hb,n11.later hb,n15.later hb,n16.later hb,n17.later hb,n18.later hb⟩
 ·obtain ⟨b,e1,e2,e3⟩:=h
  exact ⟨b,e1,e2,blk_bl e3 hb⟩
 ·obtain ⟨hb0,n11,n15,n16,n17,n18⟩:=h
  have hK:=zh hK0
  clear hK0
  refine step_callL (by rfl) (.tmp 19) [.const (.slice none 0 0)] _ (by rfl) 28 _ fnBlkA (by rfl) _ (by rfl) (fun v w'=>v=nv 57 0 ⟨#[]⟩ none 0 0/\Below w.heap.size w w') ((ablk_any none 0 0 w).mono fun e w' ⟨h1,h2⟩=>⟨_,h1,rfl,h2⟩) ?_
  rintro v w' ⟨rfl,hb⟩
  exact hK.out _ _ hb ⟨_,_,rfl,NV_leaf w' Any (fld0 57 (by omega))⟩
 ·obtain ⟨hb0,n11,n15,n16,n17,n18⟩:=h
  have hK:=zh hK0
  clear hK0
  (try simp only [Act.put,zP])
  (try simp only [zA,zB,zC])
  go_simp
  exact hK.out _ _ (bl_al (Below.refl _ _) _) ⟨_,rfl,hb0.size,heap_alloc_new w _⟩
 ·simp only [Act.put,zD,zE,zF]
 rotate_left 1
 ·simp only [Act.put,zD,zE,zF]
 (try simp only [Act.put,zP])
 obtain ⟨A20,c20,rfl,m20⟩:=hF
 clear hI hA4 hU4
 obtain ⟨hb0,n11,n15,n16,n17,n18⟩:=h
 have hI:(fun w=>Below w2.heap.size w2 w/\NV w Any (eqT 0) (nv 16 0 ⟨#[]⟩ A11 2 c11)/\NV w Any plT (nv 40 0 ⟨#[]⟩ (some ⟨b15,0,none⟩) 2 2)/\NV w Any plT (nv 40 0 ⟨#[]⟩ A16 2 c16)/\NV w Any (blT [plT]) (nv 57 0 ⟨#[]⟩ (some ⟨b17,0,none⟩) 1 1)/\NV w Any (blT [plT]) (nv 57 0 ⟨#[]⟩ A18 1 c18)/\NV w Any (blT []) (nv 57 0 ⟨#[]⟩ A20 0 c20)) wc:=⟨hb0,n11,n15,n16,n17,n18,m20⟩
 have hA4:=hA
 have hU4:=hU
 clear hA hU n11 n15 n16 n17 n18 hb0
 -- operation 12
 refine wpG_alt (i:=12) (j:=15) (some 22) (some 4) 3 (fun li l4 => #[true,true,true,true,true,true,true,true,true,true,true,true,li,false,false,l4,false]) _ (fun w=>Below w2.heap.size w2 w/\NV w Any (eqT 0) (nv 16 0 ⟨#[]⟩ A11 2 c11)/\NV w Any plT (nv 40 0 ⟨#[]⟩ (some ⟨b15,0,none⟩) 2 2)/\NV w Any plT (nv 40 0 ⟨#[]⟩ A16 2 c16)/\NV w Any (blT [plT]) (nv 57 0 ⟨#[]⟩ (some ⟨b17,0,none⟩) 1 1)/\NV w Any (blT [plT]) (nv 57 0 ⟨#[]⟩ A18 1 c18)/\NV w Any (blT []) (nv 57 0 ⟨#[]⟩ A20 0 c20)) (fun u w=>∃ b,u=.pointer (some ⟨b,0,none⟩)/\w2.heap.size<=b/\w.heap[b]?=some (.cells #[.int .u8 0,.int .i64 0,.string ⟨#[]⟩,.slice none 0 0] 26 (0,0))) (fun v w=>∃ A c,v=nv 16 0 ⟨#[]⟩ A 2 c/\NV w Any (eqT 3) v) rfl rfl rfl rfl (by kernel_rfl) (by kernel_rfl) (fun l4=>by cases l4<;>rfl) rfl (fun w h=>⟨HSS.out _ h.1,trivial⟩) (fun w w' h hb=>?_) (fun u w w' h hb=>?_) (fun v4 K w h hK0=>?_) (fun v4 K w h hK0=>?_) (fun u v=>?_) (fun l4 v4 v wc h hF hA hU=>?_) l4 v4 wc hI hA4 hU4 ?_
 ·obtain ⟨hb0,n11,n15,n16,n17,n18,n20⟩:=h
  exact ⟨bl_tt hb0 hb,n11.later hb,n15.later hb,n16.later hb,n17.later hb,n18.later hb,n20.later hb⟩
 ·obtain ⟨b,e1,e2,e3⟩:=h
  exact ⟨b,e1,e2,blk_bl e3 hb⟩
 ·obtain ⟨hb0,n11,n15,n16,n17,n18,n20⟩:=h
  have hK:=zh hK0
  clear hK0
  have had:=aeq_any 3 ⟨by decide,by decide⟩ xb w (blk_bl HKX.out hb0)
  rw [show (#[Value.int .i64 3,.pointer (some ⟨xb,0,none⟩)]:Array Value)=[Value.int .i64 3].toArray ++ #[.pointer (some ⟨xb,0,none⟩)] from rfl] at had
  refine step_callC (by rfl) (.tmp 21) [.const (.int .i64 3)] _ (by rfl) 26 _ fnEqA #[.pointer (some ⟨xb,0,none⟩)] (by rfl) _ (by rfl) _ had ?_
  rintro v w' ⟨A,c,rfl,hn,hb⟩
  exact hK.out _ _ hb ⟨A,c,rfl,hn⟩
 ·obtain ⟨hb0,n11,n15,n16,n17,n18,n20⟩:=h
  have hK:=zh hK0
  clear hK0
  (try simp only [Act.put,zP])
  (try simp only [zA,zB,zC])
  go_simp
  exact hK.out _ _ (bl_al (Below.refl _ _) _) ⟨_,rfl,hb0.size,heap_alloc_new w _⟩
 ·simp only [Act.put,zD,zE,zF]
 rotate_left 1
 ·simp only [Act.put,zD,zE,zF]
 (try simp only [Act.put,zP])
 obtain ⟨A22,c22,rfl,m22⟩:=hF
 clear hI hA4 hU4
 obtain ⟨hb0,n11,n15,n16,n17,n18,n20⟩:=h
 have hI:(fun w=>Below w2.heap.size w2 w/\NV w Any (eqT 0) (nv 16 0 ⟨#[]⟩ A11 2 c11)/\NV w Any plT (nv 40 0 ⟨#[]⟩ (some ⟨b15,0,none⟩) 2 2)/\NV w Any plT (nv 40 0 ⟨#[]⟩ A16 2 c16)/\NV w Any (blT [plT]) (nv 57 0 ⟨#[]⟩ (some ⟨b17,0,none⟩) 1 1)/\NV w Any (blT [plT]) (nv 57 0 ⟨#[]⟩ A18 1 c18)/\NV w Any (blT []) (nv 57 0 ⟨#[]⟩ A20 0 c20)/\NV w Any (eqT 3) (nv 16 0 ⟨#[]⟩ A22 2 c22)) wc:=⟨hb0,n11,n15,n16,n17,n18,n20,m22⟩
 have hA4:=hA
 have hU4:=hU
 clear hA hU n11 n15 n16 n17 n18 n20 hb0
 -- operation 13
 refine wpG_alt (i:=13) (j:=15) (some 23) (some 4) 2 (fun li l4 => #[true,true,true,true,true,true,true,true,true,true,true,true,true,li,false,l4,false]) _ (fun w=>Below w2.heap.size w2 w/\NV w Any (eqT 0) (nv 16 0 ⟨#[]⟩ A11 2 c11)/\NV w Any plT (nv 40 0 ⟨#[]⟩ (some ⟨b15,0,none⟩) 2 2)/\NV w Any plT (nv 40 0 ⟨#[]⟩ A16 2 c16)/\NV w Any (blT [plT]) (nv 57 0 ⟨#[]⟩ (some ⟨b17,0,none⟩) 1 1)/\NV w Any (blT [plT]) (nv 57 0 ⟨#[]⟩ A18 1 c18)/\NV w Any (blT []) (nv 57 0 ⟨#[]⟩ A20 0 c20)/\NV w Any (eqT 3) (nv 16 0 ⟨#[]⟩ A22 2 c22)) (fun u w=>∃ b,u=.pointer (some ⟨b,0,none⟩)/\w2.heap.size<=b/\w.heap[b]?=some (.cells #[.int .u8 0,.int .i64 0,.string ⟨#[]⟩,.slice none 0 0] 26 (0,0))) (fun v w=>∃ b,v=.slice (some ⟨b,0,none⟩) 4 4/\NV w Any loT (nv 53 0 ⟨#[]⟩ (some ⟨b,0,none⟩) 4 4)) rfl rfl rfl rfl (by kernel_rfl) (by kernel_rfl) (fun l4=>by cases l4<;>rfl) rfl (fun w h=>⟨HSS.out _ h.1,trivial⟩) (fun w w' h hb=>?_) (fun u w w' h hb=>?_) (fun v4 K w h hK0=>?_) (fun v4 K w h hK0=>?_) (fun u v=>?_) (fun l4 v4 v wc h hF hA hU=>?_) l4 v4 wc hI hA4 hU4 ?_
 ·obtain ⟨hb0,n11,n15,n16,n17,n18,n20,n22⟩:=h
  exact ⟨bl_tt hb0 hb,n11.later hb,n15.later hb,n16.later hb,n17.later hb,n18.later hb,n20.later hb,n22.later hb⟩
 ·obtain ⟨b,e1,e2,e3⟩:=h
  exact ⟨b,e1,e2,blk_bl e3 hb⟩
 ·obtain ⟨hb0,n11,n15,n16,n17,n18,n20,n22⟩:=h
  have hK:=zh hK0
  clear hK0
  (try simp only [Act.put,zP])
  (try simp only [zA,zB,zC])
  go_simp
  exact hK.out _ _ (bl_al (Below.refl _ _) _) ⟨_,rfl,NV_four w 26 (S:=Any) trivial (fld0 53 (by omega)) n11 n18 n20 n22⟩
 ·obtain ⟨hb0,n11,n15,n16,n17,n18,n20,n22⟩:=h
  have hK:=zh hK0
  clear hK0
  (try simp only [Act.put,zP])
  (try simp only [zA,zB,zC])
  go_simp
  exact hK.out _ _ (bl_al (Below.refl _ _) _) ⟨_,rfl,hb0.size,heap_alloc_new w _⟩
 ·simp only [Act.put,zD,zE,zF]
 rotate_left 1
 ·simp only [Act.put,zD,zE,zF]
 (try simp only [Act.put,zP])
 obtain ⟨b23,rfl,m23⟩:=hF
 clear hI hA4 hU4
 obtain ⟨hb0,n11,n15,n16,n17,n18,n20,n22⟩:=h
 have hI:(fun w=>Below w2.heap.size w2 w/\NV w Any (eqT 0) (nv 16 0 ⟨#[]⟩ A11 2 c11)/\NV w Any plT (nv 40 0 ⟨#[]⟩ (some ⟨b15,0,none⟩) 2 2)/\NV w Any plT (nv 40 0 ⟨#[]⟩ A16 2 c16)/\NV w Any (blT [plT]) (nv 57 0 ⟨#[]⟩ (some ⟨b17,0,none⟩) 1 1)/\NV w Any (blT [plT]) (nv 57 0 ⟨#[]⟩ A18 1 c18)/\NV w Any (blT []) (nv 57 0 ⟨#[]⟩ A20 0 c20)/\NV w Any (eqT 3) (nv 16 0 ⟨#[]⟩ A22 2 c22)/\NV w Any loT (nv 53 0 ⟨#[]⟩ (some ⟨b23,0,none⟩) 4 4)) wc:=⟨hb0,n11,n15,n16,n17,n18,n20,n22,m23⟩
 have hA4:=hA
 have hU4:=hU
 clear hA hU n11 n15 n16 n17 n18 n20 n22 hb0
 -- operation 14
 refine wpG_alt (i:=14) (j:=15) (some 24) (some 4) 1 (fun li l4 => #[true,true,true,true,true,true,true,true,true,true,true,true,true,true,li,l4,false]) _ (fun w=>Below w2.heap.size w2 w/\NV w Any (eqT 0) (nv 16 0 ⟨#[]⟩ A11 2 c11)/\NV w Any plT (nv 40 0 ⟨#[]⟩ (some ⟨b15,0,none⟩) 2 2)/\NV w Any plT (nv 40 0 ⟨#[]⟩ A16 2 c16)/\NV w Any (blT [plT]) (nv 57 0 ⟨#[]⟩ (some ⟨b17,0,none⟩) 1 1)/\NV w Any (blT [plT]) (nv 57 0 ⟨#[]⟩ A18 1 c18)/\NV w Any (blT []) (nv 57 0 ⟨#[]⟩ A20 0 c20)/\NV w Any (eqT 3) (nv 16 0 ⟨#[]⟩ A22 2 c22)/\NV w Any loT (nv 53 0 ⟨#[]⟩ (some ⟨b23,0,none⟩) 4 4)) (fun u w=>∃ b,u=.pointer (some ⟨b,0,none⟩)/\w2.heap.size<=b/\w.heap[b]?=some (.cells #[.int .u8 0,.int .i64 0,.string ⟨#[]⟩,.slice none 0 0] 26 (0,0))) (fun v w=>∃ A c,v=nv 53 0 ⟨#[]⟩ A 4 c/\NV w Any loT v) rfl rfl rfl rfl (by kernel_rfl) (by kernel_rfl) (fun l4=>by cases l4<;>rfl) rfl (fun w h=>⟨HSS.out _ h.1,trivial⟩) (fun w w' h hb=>?_) (fun u w w' h hb=>?_) (fun v4 K w h hK0=>?_) (fun v4 K w h hK0=>?_) (fun u v=>?_) (fun l4 v4 v wc h hF hA hU=>?_) l4 v4 wc hI hA4 hU4 ?_
 ·obtain ⟨hb0,n11,n15,n16,n17,n18,n20,n22,n23⟩:=h
  exact ⟨bl_tt hb0 hb,n11.later hb,n15.later hb,n16.later hb,n17.later hb,n18.later hb,n20.later hb,n22.later hb,n23.later hb⟩
 ·obtain ⟨b,e1,e2,e3⟩:=h
  exact ⟨b,e1,e2,blk_bl e3 hb⟩
 ·obtain ⟨hb0,n11,n15,n16,n17,n18,n20,n22,n23⟩:=h
  have hK:=zh hK0
  clear hK0
  (try simp only [Act.put,zP])
  (try simp only [zA,zB,zC])
  go_simp
  exact hK.out _ _ (Below.refl _ _) ⟨_,_,rfl,n23⟩
 ·obtain ⟨hb0,n11,n15,n16,n17,n18,n20,n22,n23⟩:=h
  have hK:=zh hK0
  clear hK0
  (try simp only [Act.put,zP])
  (try simp only [zA,zB,zC])
  go_simp
  exact hK.out _ _ (bl_al (Below.refl _ _) _) ⟨_,rfl,hb0.size,heap_alloc_new w _⟩
 ·simp only [Act.put,zD,zE,zF]
 rotate_left 1
 ·simp only [Act.put,zD,zE,zF]
 (try simp only [Act.put,zP])
 obtain ⟨A24,c24,rfl,m24⟩:=hF
 obtain ⟨hb0,n11,n15,n16,n17,n18,n20,n22,n23⟩:=h
 have hI:(fun w=>Below w2.heap.size w2 w/\NV w Any loT (nv 53 0 ⟨#[]⟩ A24 4 c24)) wc:=⟨hb0,m24⟩
 clear m11 m15 m16 m17 m18 m20 m22 m23 m24 n11 n15 n16 n17 n18 n20 n22 n23 hb0
 clear hU hA4 hU4
 refine wpG_free (j:=15) (some 4) 1 (fun l4 => #[true,true,true,true,true,true,true,true,true,true,true,true,true,true,true,l4,false]) _ (fun w=>Below w2.heap.size w2 w/\NV w Any loT (nv 53 0 ⟨#[]⟩ A24 4 c24)) (fun u w=>∃ b,u=.pointer (some ⟨b,0,none⟩)/\w2.heap.size<=b/\w.heap[b]?=some (.cells #[.int .u8 0,.int .i64 0,.string ⟨#[]⟩,.slice none 0 0] 26 (0,0))) rfl rfl (by kernel_rfl) rfl (fun w h=>⟨HSS.out _ h.1,trivial⟩) (fun w w' h hb=>⟨bl_tt h.1 hb,h.2.later hb⟩) (fun v4 K w h hK0=>?_) (fun u v=>?_) (fun v5 w3 h5 hA5=>?_) l4 v4 wc hI hA ?_
 ·have hb0:=h.1
  have hK:=zh hK0
  clear hK0
  (try simp only [Act.put,zP])
  (try simp only [zA,zB,zC])
  go_simp
  exact hK.out _ _ (bl_al (Below.refl _ _) _) ⟨_,rfl,hb0.size,heap_alloc_new w _⟩
 ·simp only [Act.put,zD,zE,zF]
 rotate_left 1
 ·simp only [Act.put,zD,zE,zF]
 (try simp only [Act.put,zP])
 clear hI hA
 obtain ⟨bb,rfl,hbl,hbz⟩:=hA5
 obtain ⟨hb3,hn3⟩:=h5
 have c0:w3.cell? ⟨bb,0,none⟩=some (.int .u8 0):=zc hbz rfl
 have c1:w3.cell? ⟨bb,1,none⟩=some (.int .i64 0):=zc hbz rfl
 have c2:w3.cell? ⟨bb,2,none⟩=some (.string ⟨#[]⟩):=zc hbz rfl
 have c3:w3.cell? ⟨bb,3,none⟩=some (.slice none 0 0):=zc hbz rfl
 have cf:∀ o,w3.frozen? ⟨bb,o,none⟩=false:=fun _=>zf hbz
 have HBZ:=zh hbz
 have HB3:=zh hb3
 have HN3:=zh hn3
 clear hb3 hn3 hbz
 refine wpG_past (i:=16) (by kernel_rfl) rfl (by kernel_rfl) (fun K hK=>?_)
 (try simp only [zA,zB,zC])
 go_simp
 obtain ⟨hh,hch⟩:=set4z (u0:=.int .u8 53) (u1:=.int .i64 0) (u2:=.string ⟨#[]⟩) (u3:=.slice A24 4 c24) HBZ.out
 have hb4:=HB3.out.trans (hch.below HB3.out.size fun b e=>by omega)
 have hn4:=(NV.nz HBZ.out loT _ HN3.out (by decide +kernel)).keep (w':=(((w3.setCell ⟨bb,0,none⟩ (.int .u8 53)).setCell ⟨bb,1,none⟩ (.int .i64 0)).setCell ⟨bb,2,none⟩ (.string ⟨#[]⟩)).setCell ⟨bb,3,none⟩ (.slice A24 4 c24)) (S':=Any) (fun _ _ _=>trivial) fun b hb hlt=>hch.block b hlt hb
 obtain ⟨w4,hw4⟩:∃ x,(((w3.setCell ⟨bb,0,none⟩ (.int .u8 53)).setCell ⟨bb,1,none⟩ (.int .i64 0)).setCell ⟨bb,2,none⟩ (.string ⟨#[]⟩)).setCell ⟨bb,3,none⟩ (.slice A24 4 c24)=x:=⟨_,rfl⟩
 rw [hw4] at hh hb4 hn4 ⊢
 have HB4:=zh hb4
 have HN4:=zh hn4
 have HH4:=zh hh
 refine hK.out _ _ (HSS.out _ HB4.out) ?_
 clear hK K HSS c0 c1 c2 c3 cf hw4 hch hb4 hn4 HB3 HN3 HBZ hh h2 h3 h4
 (try simp only [Act.put,zP])
 refine wpG_done (by kernel_rfl) ?_
 refine NoPanic.normal ?_
 obtain ⟨r0,r1,r2,r3⟩:=box4 HH4.out
 have y0:=fun o=>cell_al r0 o
 have y1:=fun o=>cell_al r1 o
 have y2:=fun o=>cell_al r2 o
 have y3:=fun o=>cell_al r3 o
 have hv2:=bV2
 have hv1:=bSVw
 have hpp:=bPgA
 go_wp2_with fail
 refine (ablk_any _ 1 1 _).mono ?_
 rintro e5 w5 ⟨rfl,b5⟩
 have k1:=blk_bl (blk_al (heap_alloc_new w4 (.cells #[.string ⟨#[120]⟩,.int .u8 1,.int .i64 0] 58)) (.cells #[.int .u8 53,.int .i64 0,.string ⟨#[]⟩,.slice A24 4 c24] 26)) b5
 have hn5:=(NV_one (w4.alloc (.cells #[.string ⟨#[120]⟩,.int .u8 1,.int .i64 0] 58)) 26 (S:=Any) trivial (fld0 57 (by omega)) (HN4.out.later (bl_al (Below.refl _ _) _))).later b5
 have b45:=bl_tt (bl_al (bl_al (Below.refl w4.heap.size w4) (.cells #[.string ⟨#[120]⟩,.int .u8 1,.int .i64 0] 58)) (.cells #[.int .u8 53,.int .i64 0,.string ⟨#[]⟩,.slice A24 4 c24] 26)) b5
 rw [World.size_alloc] at hn5
 have HN5:=zh hn5
 have HK1:=zh k1
 have HB45:=zh b45
 clear k1 hn5 b45 b5 r0 r1 r2 r3 y0 y1 y2 y3
 have hi1:=buildI1
 have hii:=bII1A
 have hs1:=bS1
 have hbp:=bl_al (Below.refl w5.heap.size w5) (.cells #[.slice (some ⟨w4.heap.size,0,none⟩) 1 1,.slice none 0 0,.int .u8 57,.int .i64 0,.string ⟨#[]⟩,.slice (some ⟨w4.heap.size+1,0,none⟩) 1 1] 28)
 have kp:=heap_alloc_new w5 (.cells #[.slice (some ⟨w4.heap.size,0,none⟩) 1 1,.slice none 0 0,.int .u8 57,.int .i64 0,.string ⟨#[]⟩,.slice (some ⟨w4.heap.size+1,0,none⟩) 1 1] 28)
 go_upto_region 6 with fail
 obtain ⟨w6,hw6⟩:∃ x,w5.alloc (.cells #[.slice (some ⟨w4.heap.size,0,none⟩) 1 1,.slice none 0 0,.int .u8 57,.int .i64 0,.string ⟨#[]⟩,.slice (some ⟨w4.heap.size+1,0,none⟩) 1 1] 28)=x:=⟨_,rfl⟩
 rw [hw6] at hbp kp ⊢
 obtain ⟨pb,hpb⟩:∃ x,w5.heap.size=x:=⟨_,rfl⟩
 rw [hpb] at kp ⊢
 have HPV:=zh (fun w' (hb:Below w6.heap.size w6 w')=>pv_pgA (W:=w') (blk_bl HK1.out (bl_tt hbp hb)) (HN5.out.later (bl_tt hbp hb)))
 have HB26:=zh (bl_tt HB4.out (bl_tt HB45.out hbp))
 have HKP:=zh kp
 clear hw6 hbp hpb
 have z0:w6.cell? ⟨pb,0,none⟩=some (.slice (some ⟨w4.heap.size,0,none⟩) 1 1):=zc kp rfl
 have z1:w6.cell? ⟨pb,1,none⟩=some (.slice none 0 0):=zc kp rfl
 have z2:w6.cell? ⟨pb,2,none⟩=some (.int .u8 57):=zc kp rfl
 have z3:w6.cell? ⟨pb,3,none⟩=some (.int .i64 0):=zc kp rfl
 have z4:w6.cell? ⟨pb,4,none⟩=some (.string ⟨#[]⟩):=zc kp rfl
 have z5:w6.cell? ⟨pb,5,none⟩=some (.slice (some ⟨w4.heap.size+1,0,none⟩) 1 1):=zc kp rfl
 clear kp
 go_wp2_with fail
 have hbf:=bl_al (bl_al (Below.refl w6.heap.size w6) (.cells #[.int .i64 0] 3)) (.cells #[.slice (some ⟨w6.heap.size,0,none⟩) 1 1] 30)
 have HFW:=zh (Forward_any pgA ⟨[[0]],[],[]⟩ 50 102000 _ _ _ (HPV.out _ hbf) (sv_one w6 0 ⟨by decide,by decide⟩) (by decide) ⟨by decide,by decide⟩ (by decide) gas50)
 refine HFW.out.mono ?_
 obtain ⟨ti,to_,en,hres⟩:=res_f
 rintro e7 w7 ⟨v1,v2,v3,rfl,ho7,hb7,-⟩
 rw [hres] at ho7 ⊢
 obtain ⟨cb,c,eb,d,B,d1,D,d2,hv,hc1,hc2⟩:=ho7.one
 injection hv with hv
 simp only [Array.mk.injEq,List.cons.injEq,and_true] at hv
 obtain ⟨rfl,rfl,rfl⟩:=hv
 have hb67:=bl_tt hbf hb7
 have HC1:=zh hc1
 have HC2:=zh hc2
 have HB67:=zh hb67
 clear hres ho7 hb7 hbf HFW hc1 hc2 z0 z1 z2 z3 z4 z5
 have kf:=heap_alloc_new w7 (.cells #[.slice (some ⟨cb,0,none⟩) 1 c,.slice B ti.length d1,.slice D to_.length d2,.int .i64 9,.int .i64 0] 37)
 have hbf:=bl_al (Below.refl w7.heap.size w7) (.cells #[.slice (some ⟨cb,0,none⟩) 1 c,.slice B ti.length d1,.slice D to_.length d2,.int .i64 9,.int .i64 0] 37)
 go_upto_region 7 with fail
 obtain ⟨w8,hw8⟩:∃ x,w7.alloc (.cells #[.slice (some ⟨cb,0,none⟩) 1 c,.slice B ti.length d1,.slice D to_.length d2,.int .i64 9,.int .i64 0] 37)=x:=⟨_,rfl⟩
 obtain ⟨fb,hfb⟩:∃ x,w7.heap.size=x:=⟨_,rfl⟩
 rw [hw8] at kf hbf ⊢
 rw [hfb] at kf ⊢
 have hb68:=bl_tt HB67.out hbf
 have kp:=blk_bl HKP.out hb68
 have HKF:=zh kf
 have HB68:=zh hb68
 have HC18:=zh (zb hbf HC1.out)
 have HC28:=zh (zb hbf HC2.out)
 have z0:w8.cell? ⟨pb,0,none⟩=some (.slice (some ⟨w4.heap.size,0,none⟩) 1 1):=zc kp rfl
 have z1:w8.cell? ⟨pb,1,none⟩=some (.slice none 0 0):=zc kp rfl
 have z2:w8.cell? ⟨pb,2,none⟩=some (.int .u8 57):=zc kp rfl
 have z3:w8.cell? ⟨pb,3,none⟩=some (.int .i64 0):=zc kp rfl
 have z4:w8.cell? ⟨pb,4,none⟩=some (.string ⟨#[]⟩):=zc kp rfl
 have z5:w8.cell? ⟨pb,5,none⟩=some (.slice (some ⟨w4.heap.size+1,0,none⟩) 1 1):=zc kp rfl
 clear hw8 hbf kf hb68 kp hfb
 go_wp2_with fail
 have hbg:=bl_al (bl_al (Below.refl w8.heap.size w8) (.cells #[.int .i64 3] 3)) (.cells #[.slice (some ⟨w8.heap.size,0,none⟩) 1 1] 30)
 have HBK:=zh (Backward_any pgA ⟨[[3]],[],[]⟩ 50 102000 _ _ _ (HPV.out _ (bl_tt HB68.out hbg)) (sv_one w8 3 ⟨by decide,by decide⟩) (by decide) ⟨by decide,by decide⟩ (by decide) gas50)
 refine HBK.out.mono ?_
 obtain ⟨ti2,to2,en2,hres⟩:=res_b
 rintro e9 w9 ⟨v1,v2,v3,rfl,ho9,hb9,-⟩
 rw [hres] at ho9 ⊢
 obtain ⟨cb2,c2,eb2,d2',B2,d12,D2,d22,hv,hc1,hc2⟩:=ho9.one
 injection hv with hv
 simp only [Array.mk.injEq,List.cons.injEq,and_true] at hv
 obtain ⟨rfl,rfl,rfl⟩:=hv
 have hb89:=bl_tt hbg hb9
 have kf9:=blk_bl HKF.out hb89
 have f0:w9.cell? ⟨fb,0,none⟩=some (.slice (some ⟨cb,0,none⟩) 1 c):=zc kf9 rfl
 have f3:w9.cell? ⟨fb,3,none⟩=some (.int .i64 9):=zc kf9 rfl
 have f4:w9.cell? ⟨fb,4,none⟩=some (.int .i64 0):=zc kf9 rfl
 have g1:=zb hb89 HC18.out
 have g2:=zb hb89 HC28.out
 have y0:=fun o=>cell_al f0 o
 have y3:=fun o=>cell_al f3 o
 have y4:=fun o=>cell_al f4 o
 have y1:=fun o=>cell_al g1 o
 have y2:=fun o=>cell_al g2 o
 have u1:=fun o=>cell_al hc1 o
 have u2:=fun o=>cell_al hc2 o
 have HB29:=zh (bl_tt HB2.out (bl_tt HB26.out (bl_tt HB68.out hb89)))
 clear hres ho9 hb9 hbg HBK hb89 kf9 z0 z1 z2 z3 z4 z5 f0 f3 f4 g1 g2 hc1 hc2
 go_wp2_with fail
 go_ret
 exact ⟨rfl,bl_al HB29.out _⟩
mutual
/-- How many nodes are left of a budget. -/
def szE:T->Int->Int
 | .nd _ _ _ ks,l=>szEs ks (l-1)
def szEs:List T->Int->Int
 | [],l=>l
 | t::ts,l=>if l<0 then l else szEs ts (szE t l)
end
theorem szE_le:∀ (m:Nat) (t:T) (l:Int),size t<=m->0<=l -> -1<=szE t l/\szE t l<=l
 | 0,.nd k n s ks,l,h,_=>by rw [size] at h; omega
 | m+1,.nd k n s ks,l,h,h0=>by
  rw [szE]
  rw [size] at h
  have key:∀ (us:List T) (l:Int),sizes us<=m -> -1<=l -> -1<=szEs us l/\szEs us l<=l:=by
   intro us
   induction us with
   | nil=>intro l _ h1; rw [szEs]; exact ⟨h1,Int.le_refl _⟩
   | cons u us ih =>
    intro l hs h1
    rw [sizes] at hs
    rw [szEs]
    split
    ·exact ⟨h1,Int.le_refl _⟩
    ·have h2:=szE_le m u l (by omega) (by omega)
     have h3:=ih (szE u l) (by omega) h2.1
     exact ⟨h3.1,by omega⟩
  have:=key ks (l-1) (by omega) (by omega)
  exact ⟨this.1,by omega⟩
theorem lsize_any:∀ (t:T) (v:Value) (l:Int) (w:World),NV w Any t v->0<=l->l<=1000->Calls Tryz.prog 29 #[v,.int .i64 l] w fun e w'=>e=.returned (.int .i64 (szE t l))/\Below w.heap.size w w':=by
 intro t
 induction t using T.ind with
 | _ k n s ks ih =>
  intro v l w hv h0 h1
  obtain ⟨A,c,rfl,hf,hlk,hlc,hrow⟩:=hv.open_
  have IH:=zh ih
  have HROW:=zh hrow
  have hw1:IntKind.i64.wrap (l-1)=l-1:=IntWalk.i64_in _ (by omega)
  have hb1:=bl_al (Below.refl w.heap.size w) (.cells #[.int .u8 k,.int .i64 n,.string s,.slice A ks.length c] 26)
  have k1:=heap_alloc_new w (.cells #[.int .u8 k,.int .i64 n,.string s,.slice A ks.length c] 26)
  obtain ⟨w1,hw⟩:∃ x,w.alloc (.cells #[.int .u8 k,.int .i64 n,.string s,.slice A ks.length c] 26)=x:=⟨_,rfl⟩
  obtain ⟨r,hr⟩:∃ r,szE (.nd k n s ks) l=r:=⟨_,rfl⟩
  have HR:=zh (show szEs (ks.drop 0) (l-1)=r by rw [<-hr,szE,List.drop_zero])
  rw [hr]
  rw [hw] at hb1 k1
  have HB1:=zh hb1
  have HK1:=zh k1
  simp only [T.k_nd,T.n_nd,T.s_nd,T.ks_nd] at hlk hlc ⊢
  have hlk2:ks.length<=17592186044416:=by unfold LK at hlk; omega
  clear hv hf hlk hrow ih hr hb1 k1
  go_enter Tryz.func29,Tryz.ntmps29
  go_wp2_with fail
  clear hw
  go_loopw [5,1] (fun i q wr=>∃ (j:Nat) (x:Int),j<=ks.length/\i=.int .i64 j/\q=.int .i64 x /\ -1<=x/\x<=1000/\Hid (Below w1.heap.size w1 wr)/\Hid (szEs (ks.drop j) x=r)) (fun i _ _=>ks.length-(intOf i).toNat)
  case atStart=>exact ⟨0,l-1,Nat.zero_le _,rfl,rfl,by omega,by omega,zh (Below.refl _ _),HR⟩
  case round =>
   obtain ⟨j,x,hj,rfl,rfl,hx1,hx2,HBL,HJ⟩:=hrel
   have hk:=blk_bl HK1.out HBL.out
   have z3:wr.cell? ⟨w.heap.size,3,none⟩=some (.slice A ks.length c):=zc hk rfl
   by_cases hlt:j<ks.length
   ·have hj1:(j:Int)<(ks.length:Int):=by omega
    have hj0:(0:Int)<=(j:Int):=by omega
    by_cases hx:0<=x
    ·have hbb:=bl_tt HB1.out HBL.out
     obtain ⟨a,u,Au,cu,rfl,-,Hu,⟨p0,p1,p2,p3⟩,hn⟩:=HROW.out.nd hlt
     have q0:=zb hbb p0
     have q1:=zb hbb p1
     have q2:=zb hbb p2
     have q3:=zb hbb p3
     have HS:=zh (IH.out u (by rw [<-Hu.out]; exact List.getElem_mem hlt) _ x wr (hn.later hbb) hx hx2)
     have HJ2:=zh (show szEs (ks.drop (j+1)) (szE u x)=r by
      have h5:=HJ.out
      rw [List.drop_eq_getElem_cons hlt] at h5
      rw [szEs,if_neg (by omega)] at h5
      rw [<-h5]
      have:=Hu.out
      simp only [T.ks_nd] at this
      rw [this])
     have HL:=zh (szE_le _ u x (Nat.le_refl _) hx)
     clear p0 p1 p2 p3 hn hbb HJ hk
     go_wp2_with fail
     refine HS.out.mono ?_
     rintro e w2 ⟨rfl,hb2⟩
     have HB2:=zh (bl_tt HBL.out hb2)
     obtain ⟨y,hy⟩:∃ y,szE u x=y:=⟨_,rfl⟩
     rw [hy] at HJ2 HL ⊢
     clear hb2 HS q0 q1 q2 q3 z3 hy
     go_wp2_with fail
     go_roundw
     case rel=>exact ⟨j+1,y,by omega,by go_num,rfl,HL.out.1,by have:=HL.out.2; omega,HB2,HJ2⟩
     case measure=>simp [intOf]; omega
    ·have hx':¬ (0:Int)<=x:=hx
     have HJ2:=zh (show x=r by
      have h5:=HJ.out
      rw [List.drop_eq_getElem_cons hlt,szEs,if_pos (by omega)] at h5
      exact h5)
     clear HJ hk
     go_wp2_with fail
     go_ret
     exact ⟨by rw [HJ2.out]; rfl,bl_tt HB1.out HBL.out⟩
   ·have hj1:¬ (j:Int)<(ks.length:Int):=by omega
    have HJ2:=zh (show x=r by
     have h5:=HJ.out
     rw [List.drop_eq_nil_of_le (by omega),szEs] at h5
     exact h5)
    clear HJ hk
    go_wp2_with fail
    go_ret
    exact ⟨by rw [HJ2.out]; rfl,bl_tt HB1.out HBL.out⟩
structure Smal (p:PG) (s:SS) (F:Int):Prop where
 F:F<=2000
 prs:p.prs.length<=4
 vs:p.vs.length<=8
 cells:s.cells.length<=8
 tin:s.tin.length<=50
 tout:s.tout.length<=50
 row:∀ l∈s.cells,l.length<=50
def GrP (W:World) (p:PG) (s:SS) (F:Int) (e:Ending) (W':World):Prop:=∃ b,e=.returned (.bool b)/\(b=false->Smal p s F)/\Below W.heap.size W W'
theorem great_any (p:PG) (s:SS) (F:Int) (v sv:Value) (W:World) (hp:PV W Any p v) (hs:SV W Any s sv) (hF:I64 F) :
  Calls Tryz.prog 14 #[v,sv,.int .i64 F] W (GrP W p s F):=by
 obtain ⟨A1,c1,A2,c2,A3,c3,rfl,hpg⟩:=hp
 obtain ⟨A,c,B,d,D,e,rfl,hr1,hr2,hr3,hc1,hc2,hc3,hl1,hl2,hl3,hl4⟩:=hs
 have HPG:=zh hpg
 have HR1:=zh hr1
 have hb2:=bl_al (bl_al (Below.refl W.heap.size W) (.cells #[.slice A1 p.vs.length c1,.slice A2 p.prs.length c2,.int .u8 p.m.k,.int .i64 p.m.n,.string p.m.s,.slice A3 p.m.ks.length c3] 28)) (.cells #[.slice A s.cells.length c,.slice B s.tin.length d,.slice D s.tout.length e] 32)
 have k0:=blk_al (heap_alloc_new W (.cells #[.slice A1 p.vs.length c1,.slice A2 p.prs.length c2,.int .u8 p.m.k,.int .i64 p.m.n,.string p.m.s,.slice A3 p.m.ks.length c3] 28)) (.cells #[.slice A s.cells.length c,.slice B s.tin.length d,.slice D s.tout.length e] 32)
 have k1:=heap_alloc_new (W.alloc (.cells #[.slice A1 p.vs.length c1,.slice A2 p.prs.length c2,.int .u8 p.m.k,.int .i64 p.m.n,.string p.m.s,.slice A3 p.m.ks.length c3] 28)) (.cells #[.slice A s.cells.length c,.slice B s.tin.length d,.slice D s.tout.length e] 32)
 rw [World.size_alloc] at k1
 obtain ⟨w2,hw2⟩:∃ x,(W.alloc (.cells #[.slice A1 p.vs.length c1,.slice A2 p.prs.length c2,.int .u8 p.m.k,.int .i64 p.m.n,.string p.m.s,.slice A3 p.m.ks.length c3] 28)).alloc (.cells #[.slice A s.cells.length c,.slice B s.tin.length d,.slice D s.tout.length e] 32)=x:=⟨_,rfl⟩
 rw [hw2] at hb2 k0 k1
 have HB2:=zh hb2
 have HK0:=zh k0
 have HK1:=zh k1
 have p0:w2.cell? ⟨W.heap.size,0,none⟩=some (.slice A1 p.vs.length c1):=zc k0 rfl
 have p1:w2.cell? ⟨W.heap.size,1,none⟩=some (.slice A2 p.prs.length c2):=zc k0 rfl
 have p2:w2.cell? ⟨W.heap.size,2,none⟩=some (.int .u8 p.m.k):=zc k0 rfl
 have p3:w2.cell? ⟨W.heap.size,3,none⟩=some (.int .i64 p.m.n):=zc k0 rfl
 have p4:w2.cell? ⟨W.heap.size,4,none⟩=some (.string p.m.s):=zc k0 rfl
 have p5:w2.cell? ⟨W.heap.size,5,none⟩=some (.slice A3 p.m.ks.length c3):=zc k0 rfl
 have hlv:=LV_int hpg.lv
 have hlp:=LV_int hpg.lp
 have HSZ:=zh (lsize_any p.m _ 150 w2 (hpg.main.later hb2) (by omega) (by omega))
 obtain ⟨x,hx⟩:∃ x,szE p.m 150=x:=⟨_,rfl⟩
 rw [hx] at HSZ
 have hlc1:s.cells.length<=17592186044416:=by unfold LI at hl1; omega
 clear hpg hr1 hr2 hr3 hb2 k0 k1 hx hc1 hc2 hc3 hl1 hl2 hl3 hl4
 go_enter Tryz.func14,Tryz.ntmps14
 by_cases h1:(4:Int)<(p.prs.length:Int)
 ·skip
  go_wp2_with fail
  go_ret
  exact (⟨true,rfl,(fun h=>by cases h),HB2.out⟩:GrP W p s F _ _)
 by_cases h2:(8:Int)<(p.vs.length:Int)
 ·skip
  go_wp2_with fail
  go_ret
  exact (⟨true,rfl,(fun h=>by cases h),HB2.out⟩:GrP W p s F _ _)
 go_wp2_with fail
 refine HSZ.out.mono ?_
 rintro e3 w3 ⟨rfl,hb3⟩
 have HB3:=zh (bl_tt HB2.out hb3)
 have ks:=blk_bl HK1.out hb3
 have kp:=blk_bl HK0.out hb3
 have s0:w3.cell? ⟨W.heap.size+1,0,none⟩=some (.slice A s.cells.length c):=zc ks rfl
 have s1:w3.cell? ⟨W.heap.size+1,1,none⟩=some (.slice B s.tin.length d):=zc ks rfl
 have s2:w3.cell? ⟨W.heap.size+1,2,none⟩=some (.slice D s.tout.length e):=zc ks rfl
 have q1:w3.cell? ⟨W.heap.size,1,none⟩=some (.slice A2 p.prs.length c2):=zc kp rfl
 have HKP:=zh kp
 have HKS:=zh ks
 clear hb3 HSZ ks kp p0 p1 p2 p3 p4 p5 hw2
 by_cases h3:x<0
 ·skip
  go_wp2_with fail
  go_ret
  exact (⟨true,rfl,(fun h=>by cases h),HB3.out⟩:GrP W p s F _ _)
 by_cases h4:(2000:Int)<F
 ·skip
  go_wp2_with fail
  go_ret
  exact (⟨true,rfl,(fun h=>by cases h),HB3.out⟩:GrP W p s F _ _)
 by_cases h5:(8:Int)<(s.cells.length:Int)
 ·skip
  go_wp2_with fail
  go_ret
  exact (⟨true,rfl,(fun h=>by cases h),HB3.out⟩:GrP W p s F _ _)
 by_cases h6:(50:Int)<(s.tin.length:Int)
 ·skip
  go_wp2_with fail
  go_ret
  exact (⟨true,rfl,(fun h=>by cases h),HB3.out⟩:GrP W p s F _ _)
 by_cases h7:(50:Int)<(s.tout.length:Int)
 ·skip
  go_wp2_with fail
  go_ret
  exact (⟨true,rfl,(fun h=>by cases h),HB3.out⟩:GrP W p s F _ _)
 go_wp2_with fail
 go_loopw [52] (fun i wr=>∃ j:Nat,j<=p.prs.length/\i=.int .i64 j/\Hid (Below w3.heap.size w3 wr)) (fun i _=>p.prs.length-(intOf i).toNat)
 case atStart=>exact ⟨0,Nat.zero_le _,rfl,zh (Below.refl _ _)⟩
 case round =>
  obtain ⟨j,hj,rfl,HBL⟩:=hrel
  clear s0 s1 s2 q1
  by_cases hlt:j<p.prs.length
  ·have hj1:(j:Int)<(p.prs.length:Int):=by omega
   have hj0:(0:Int)<=(j:Int):=by omega
   have hbb:=bl_tt HB3.out HBL.out
   obtain ⟨pa,q,B1,d1,B2,d2,rfl,-,Hq,⟨y0,y1,y2,y3,y4,y5⟩,hpr⟩:=(HPG.out.procs.later hbb).nd hlt
   have hbz:=bl_al HBL.out (.cells #[.string q.s,.slice B1 q.ps.length d1,.int .u8 q.b.k,.int .i64 q.b.n,.string q.b.s,.slice B2 q.b.ks.length d2] 61)
   have hbw:=bl_al (Below.refl wr.heap.size wr) (.cells #[.string q.s,.slice B1 q.ps.length d1,.int .u8 q.b.k,.int .i64 q.b.n,.string q.b.s,.slice B2 q.b.ks.length d2] 61)
   have HSZ:=zh (lsize_any q.b _ 150 _ (hpr.body.later hbw) (by omega) (by omega))
   obtain ⟨z,hz⟩:∃ z,szE q.b 150=z:=⟨_,rfl⟩
   rw [hz] at HSZ
   have HBZ:=zh hbz
   clear hbb hpr hbz hbw hz
   go_wp2_with fail
   refine HSZ.out.mono ?_
   rintro e4 w4 ⟨rfl,hb4⟩
   have HB4:=zh (bl_tt HBZ.out hb4)
   clear hb4 HSZ y0 y1 y2 y3 y4 y5
   by_cases hz:z<0
   ·skip
    go_wp2_with fail
    go_ret
    exact (⟨true,rfl,(fun h=>by cases h),(bl_tt HB3.out HB4.out)⟩:GrP W p s F _ _)
   ·go_wp2_with fail
    go_roundw
    case rel=>exact ⟨j+1,by omega,by go_num,HB4⟩
    case measure=>simp [intOf]; omega
  ·have hj1:¬ (j:Int)<(p.prs.length:Int):=by omega
   have hk:=blk_bl HKS.out HBL.out
   have s0:wr.cell? ⟨W.heap.size+1,0,none⟩=some (.slice A s.cells.length c):=zc hk rfl
   have HB5:=zh (bl_tt HB3.out HBL.out)
   clear hk HBL HKS
   go_wp2_with fail
   go_loopw [64] (fun i wr'=>∃ j:Nat,j<=s.cells.length/\i=.int .i64 j/\Hid (Below wr.heap.size wr wr')/\Hid (∀ q (hq:q<s.cells.length),q<j->s.cells[q].length<=50)) (fun i _=>s.cells.length-(intOf i).toNat)
   case atStart=>exact ⟨0,Nat.zero_le _,rfl,zh (Below.refl _ _),zh (fun q _ h=>absurd h (Nat.not_lt_zero _))⟩
   case round =>
    obtain ⟨j2,hj2,rfl,HBL2,HQ⟩:=hrel
    clear s0
    by_cases hlt2:j2<s.cells.length
    ·have hj3:(j2:Int)<(s.cells.length:Int):=by omega
     have hj4:(0:Int)<=(j2:Int):=by omega
     obtain ⟨a,l,Al,cl,rfl,Hl,hcl,hlc,-⟩:=(HR1.out.later (bl_tt HB5.out HBL2.out)).nd hlt2
     by_cases h50:(50:Int)<(l.length:Int)
     ·skip
      go_wp2_with fail
      go_ret
      exact (⟨true,rfl,(fun h=>by cases h),(bl_tt HB5.out HBL2.out)⟩:GrP W p s F _ _)
     ·have HQ2:=zh (show ∀ q (hq:q<s.cells.length),q<j2+1->s.cells[q].length<=50 from fun q hq hlt=>by
       by_cases e:q=j2
       ·subst e; rw [Hl.out]; omega
       ·exact HQ.out q hq (by omega))
      clear HQ
      go_wp2_with fail
      go_roundw
      case rel=>exact ⟨j2+1,by omega,by go_num,HBL2,HQ2⟩
      case measure=>simp [intOf]; omega
    ·have hj3:¬ (j2:Int)<(s.cells.length:Int):=by omega
     have HSM:=zh (show Smal p s F from ⟨by omega,by omega,by omega,by omega,by omega,by omega,fun l hl=>by
      obtain ⟨q,hq,rfl⟩:=List.getElem_of_mem hl
      exact HQ.out q hq (by omega)⟩)
     clear HQ
     go_wp2_with fail
     go_ret
     exact (⟨false,rfl,(fun _=>HSM.out),bl_tt HB5.out HBL2.out⟩:GrP W p s F _ _)
end Go.Proofs.YtgnfpcebmefhoaaGreat
