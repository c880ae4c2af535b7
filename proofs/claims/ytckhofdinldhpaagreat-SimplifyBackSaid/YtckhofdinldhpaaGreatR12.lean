/-
  Texts of the proof, put together without their remarks: Ib, If, Lfp, Rpl, Rev, Inv, Equal, Canc, SimpS, Pure, Pq, ClV.
-/
import Derived.Test.YtckhofdinldhpaaGreatR11
import Derived.RegionTactic
import Derived.BigRegion
set_option linter.unusedSimpArgs false
set_option linter.unusedVariables false
set_option maxHeartbeats 8000000
set_option maxRecDepth 100000
namespace Go.Proofs.YtckhofdinldhpaaGreat
open Go Go.RowKit
theorem zug {C:RC} (hC:C.Ok) {W:World} {r:RS} (h:RI C W r) (hG:∀ u∈C.p.m.ks,GP C.p.prs u) (g:Nat) (back:Bool) (hg:runO C.p.prs C.F g back C.p.m r ≠ .gas) (pb qb bb:Nat)
  (h0:W.cell? ⟨pb,0,none⟩=some (.pointer (some ⟨C.rb,0,none⟩))) (hq:W.heap[qb]?=some (.cells #[.slice C.A1 C.p.vs.length C.c1,.slice C.A2 C.p.prs.length C.c2,.int .u8 C.p.m.k,.int .i64 C.p.m.n,.string C.p.m.s,.slice C.A3 C.p.m.ks.length C.c3] 35 (0,0))) (hb:W.cell? ⟨bb,0,none⟩=some (.bool back)) :
  Calls Tryz.prog 117 #[.pointer (some ⟨pb,0,none⟩),.pointer (some ⟨qb,0,none⟩),.pointer (some ⟨bb,0,none⟩)] W (RunP C W (runO C.p.prs C.F g back C.p.m r)):=by
 have ax:=zh (zwA zs9 g hC h C.p.m _ back hC.pg.main hG hg);have q2:W.cell? ⟨qb,2,none⟩=some (.int .u8 C.p.m.k):=zc hq rfl;have q3:W.cell? ⟨qb,3,none⟩=some (.int .i64 C.p.m.n):=zc hq rfl;have q4:W.cell? ⟨qb,4,none⟩=some (.string C.p.m.s):=zc hq rfl;have q5:W.cell? ⟨qb,5,none⟩=some (.slice C.A3 C.p.m.ks.length C.c3):=zc hq rfl;obtain⟨o,ho⟩:∃ o,runO C.p.prs C.F g back C.p.m r=o:=⟨_,rfl⟩
 rw[ho] at ax hg ⊢;clear hC h hG hq ho;go_enter Tryz.func117,Tryz.ntmps117;go_wp2_with fail;refine ax.out.mono ?_;rintro e w1 ⟨hk1,hb1,ho1⟩
 cases o with
 | gas=>exact absurd rfl hg
 | err x =>
  subst ho1;exact⟨rfl,hk1,hb1,rfl⟩
 | ok r1 =>
  obtain⟨⟨u,rfl⟩,hr1⟩:=ho1;have HR:=zh hr1;have aD:=zh hk1;have HB1:=zh hb1;clear h0 q2 q3 q4 q5 hb hr1 hk1 hb1;go_wp2_with fail;go_end0;exact⟨aD.out,HB1.out,⟨_,rfl⟩,HR.out⟩
def outR (s:SS):Out->SS×Nat×Int×List Nat
 | .ok r=>(r.S.state,r.n,0,r.ent)
 | .err e=>(s,0,e,[])
 | .gas=>(s,0,0,[])
def resO (p:PG) (s:SS) (F:Int) (g:Nat) (back:Bool):SS×Nat×Int×List Nat :=
 if zkE p=false\/chkN p≠0 then (s,0,3,[]) else if fitB p.vs s=false then (s,0,20,[]) else outR s (runO p.prs F g back p.m ⟨newS p.vs s,0,List.replicate p.prs.length 0⟩)
def LimR (R:SS×Nat×Int×List Nat):Prop:=R.1.Lim/\(R.2.2.1=0->R.1.cells.length<=1000+R.2.1/\(∀ l∈R.1.cells,l.length<=1000)/\R.1.tin.length<=4096/\R.1.tout.length<=4096)
theorem LimR.run {r:RS} (h:r.S.WF) (hf:FB r.n r.S) (e:List Nat):LimR (r.S.state,r.n,0,e):=by
 obtain⟨-,h1,h2⟩:=zu6 h;obtain⟨kd,hb,-⟩:=h.ex;refine⟨h1,fun _=>⟨?_,h2,h.tin.1,h.tout.1⟩⟩;have:=hb.len;have:=hf.1;simp only[ST.state,List.length_map,List.length_take];omega
def ResP (W:World) (R:SS×Nat×Int×List Nat) (e:Ending) (W':World):Prop:=∃ A c v1 v2 v3,e=.returned (.tuple #[.slice A R.2.2.2.length c,.agg #[v1,v2,v3,.int .i64 (R.2.1:Int),.int .i64 R.2.2.1]]) /\
 OwnS W' W.heap.size R.1 (.agg #[v1,v2,v3])/\RowI W' (fun b=>W.heap.size<=b) A (R.2.2.2.map Int.ofNat)/\R.2.2.2.length<=c/\Below W.heap.size W W'/\LimR R
theorem OwnS.slices {W:World} {n0:Nat} {s:SS} {v:Value} (h:OwnS W n0 s v):∃ A c B d D e,v=.agg #[.slice A s.cells.length c,.slice B s.tin.length d,.slice D s.tout.length e]:=by
 obtain⟨vc,vi,vo,fc,rfl,hr,-⟩:=h;obtain⟨A,c,e1,-⟩:=zkm (hr.row .all);obtain⟨B,d,e2,-⟩:=zkm (hr.row .inp);obtain⟨D,e,e3,-⟩:=zkm (hr.row .out);change vc=.slice A s.cells.length c at e1;change vi=.slice B s.tin.length d at e2;change vo=.slice D s.tout.length e at e3;exact⟨A,c,B,d,D,e,by rw[e1,e2,e3]⟩
theorem OwnS.chg {W W':World} {n0:Nat} {s:SS} {v:Value} {Cc:Nat->Prop} (h:OwnS W n0 s v) (hc:Chg Cc W W') (hC:∀ b,Cc b->b<n0):OwnS W' n0 s v:=by
 obtain⟨vc,vi,vo,fc,rfl,hr,hi⟩:=h;exact⟨vc,vi,vo,fc,rfl,hr.chg hc fun i b hb hcb=>by have:=(hr.lt i b hb).1;have:=hC b hcb;omega,hi⟩
theorem OwnS.lower {W:World} {n0 n1:Nat} {s:SS} {v:Value} (h:OwnS W n1 s v) (hn:n0<=n1):OwnS W n0 s v:=by
 obtain⟨vc,vi,vo,fc,rfl,hr,hi⟩:=h;exact⟨vc,vi,vo,fc,rfl,hr.mono hn,hi⟩
theorem set5 {W:World} {b:Nat} {x0 x1 x2 x3 x4 u0 u1 u2 u3 u4:Value} {E:TypeId} (h:W.heap[b]?=some (.cells #[x0,x1,x2,x3,x4] E (0,0))) :
  (((((W.setCell ⟨b,0,none⟩ u0).setCell ⟨b,1,none⟩ u1).setCell ⟨b,2,none⟩ u2).setCell ⟨b,3,none⟩ u3).setCell ⟨b,4,none⟩ u4).heap[b]?=some (.cells #[u0,u1,u2,u3,u4] E (0,0)) /\
   Chg (fun q=>q=b) W (((((W.setCell ⟨b,0,none⟩ u0).setCell ⟨b,1,none⟩ u1).setCell ⟨b,2,none⟩ u2).setCell ⟨b,3,none⟩ u3).setCell ⟨b,4,none⟩ u4):=by
 refine⟨?_,(((((Chg.refl (fun q=>q=b) W).setCell (p:=⟨b,0,none⟩) (.inl rfl) _).setCell (p:=⟨b,1,none⟩) (.inl rfl) _).setCell (p:=⟨b,2,none⟩) (.inl rfl) _).setCell (p:=⟨b,3,none⟩) (.inl rfl) _).setCell (p:=⟨b,4,none⟩) (.inl rfl) _⟩;rw[heap_setCell_same _ b 4 _ _ u4 (heap_setCell_same _ b 3 _ _ u3 (heap_setCell_same _ b 2 _ _ u2 (heap_setCell_same _ b 1 _ _ u1 (heap_setCell_same W b 0 _ _ u0 h))))];simp
theorem bRes (A B D:Option Addr) (l c m d n e:Nat) (x:Int) (w:World):(Instr.build 50 #[(0,.agg #[.slice A l c,.slice B m d,.slice D n e]),(2,.int .i64 x)]).run Tryz.prog w=.ok (.agg #[.slice A l c,.slice B m d,.slice D n e,.int .i64 0,.int .i64 x]) w:=by kernel_rfl
theorem zLF (A B D:Option Addr) (l c m d n e:Nat) (x:Int) (w:World):(Instr.build 50 #[(0,.agg #[.slice A l c,.slice B m d,.slice D n e]),(1,.int .i64 x)]).run Tryz.prog w=.ok (.agg #[.slice A l c,.slice B m d,.slice D n e,.int .i64 x,.int .i64 0]) w:=by kernel_rfl
theorem zvC (n:Nat):madeCells (Value.int .i64 0).cells (n*1)=(zkj (List.replicate n 0)).toArray:=by
 apply Array.ext';apply List.ext_getElem
 ·rw[Array.length_toList,size_madeCells];simp[zkj]
 ·intro i h1 h2;have e:i % 1=0:=by omega
  simp[madeCells,zkj,Value.cells,e]
theorem bMkI (n:Nat) (hn:n<=4096) (w:World):(Instr.makeSlice 24 (.int .i64 (n:Int)) (.int .i64 (n:Int))).run Tryz.prog w=.ok (.slice (some ⟨w.heap.size,0,none⟩) n n) (w.alloc (.cells (zkj (List.replicate n 0)).toArray 3)):=by
 have h:=zpy;obtain⟨i,hi,hz⟩:=Option.map_eq_some_iff.1 h;injection hz with h1 h2;injection h2 with h2 h3;have hsc:(4096:Nat)<=9223372036854775807:=by decide
 have:=zmG (P:=Tryz.prog) 24 3 i (.int .i64 0) Tryz.underlying24 hi h1 .i64 .i64 n n (Nat.le_refl _) (by rw[h3];omega) (Nat.le_trans hn hsc) w;rw[h2,zvC] at this;exact this
theorem bRun (A1 A2 A3 E:Option Addr) (l1 c1 l2 c2 l3 c3 m d:Nat) (k n F:Int) (s:ByteArray) (sb:Nat) (w:World):(Instr.build 174 #[(0,pv A1 l1 c1 A2 l2 c2 k n s A3 l3 c3),(1,.pointer (some ⟨sb,0,none⟩)),(3,.int .i64 F),(4,.slice E m d)]).run Tryz.prog w =
  .ok (.agg #[.slice A1 l1 c1,.slice A2 l2 c2,.int .u8 k,.int .i64 n,.string s,.slice A3 l3 c3,.pointer (some ⟨sb,0,none⟩),.int .i64 0,.int .i64 F,.slice E m d]) w:=by kernel_rfl
theorem zwB {W:World} {a b:Nat} {x y:Array Value} {E F:TypeId} (ha:W.heap[a]?=some (.cells x E (0,0))) (hb:W.heap[b]?=some (.cells y F (0,0))) (hne:E≠F):a≠b:=by
 rintro rfl;rw[ha] at hb;injection hb with hb;injection hb with h1 h2;exact hne h2
theorem zr9 {W w4 w8 aJ:World} {n0:Nat} {kb:Nat->Prop} (h4:Below W.heap.size W w4) (h11:Below W.heap.size W aJ) (h48:Below w4.heap.size w4 w8) (hk:Kpt n0 kb w8 aJ) (hn:w4.heap.size<=n0):Below w4.heap.size w4 aJ :=
 ⟨h11.os.trans h4.os.symm,h11.tape.trans h4.tape.symm,h11.output.trans h4.output.symm,Nat.le_trans h48.size hk.size,fun b hb=>(hk.kept b (Nat.lt_of_lt_of_le hb h48.size) (.inl (Nat.lt_of_lt_of_le hb hn))).trans (h48.block b hb)⟩
theorem zx5:IsFn Tryz.prog 117 Tryz.f117:=⟨Tryz.func117,by kernel_rfl,by kernel_rfl⟩
theorem zx4:IsFn Tryz.prog 22 Tryz.f22:=⟨Tryz.func22,by kernel_rfl,by kernel_rfl⟩
def OkR (C:RC) (lo hi:Nat) (o:Out) (w9 w':World):Prop:=∃ r,o=.ok r/\(C.plus lo hi).Ok/\RI (C.plus lo hi) w' r/\Kpt C.n0 C.kb w9 w'
def ErX (C:RC) (o:Out) (w9:World) (x:Int) (w':World):Prop:=o=.err x/\Kpt C.n0 C.kb w9 w'/\Below C.w.heap.size C.w w'
theorem zsZ {C:RC} {w8 w9:World} {r:RS} {jb:Nat} (hC8:C.Ok) (h8:RI C w8 r) (jq:w8.alloc (.cells #[.slice none 0 0,.bool false] 179)=w9) (hjb:w8.heap.size=jb) (hG:∀ u∈C.p.m.ks,GP C.p.prs u) (g:Nat) (back:Bool) (o:Out) (ho:runO C.p.prs C.F g back C.p.m r=o) (hg:o ≠ .gas) (pb qb bb:Nat)
  (h0:w8.cell? ⟨pb,0,none⟩=some (.pointer (some ⟨C.rb,0,none⟩))) (hq:w8.heap[qb]?=some (.cells #[.slice C.A1 C.p.vs.length C.c1,.slice C.A2 C.p.prs.length C.c2,.int .u8 C.p.m.k,.int .i64 C.p.m.n,.string C.p.m.s,.slice C.A3 C.p.m.ks.length C.c3] 35 (0,0))) (hb:w8.cell? ⟨bb,0,none⟩=some (.bool back)) :
  Calls Tryz.prog 116 #[.pointer (some ⟨jb,0,none⟩),.func (.func 117) #[] #[.pointer (some ⟨pb,0,none⟩),.pointer (some ⟨qb,0,none⟩),.pointer (some ⟨bb,0,none⟩)]] w9 (AttP w9 (OkR (C.plus jb w9.heap.size) w9.heap.size (w9.heap.size+3) o w9) (ErX (C.plus jb w9.heap.size) o w9)):=by
 have hbj:=zkb (Below.refl w8.heap.size w8) (.cells #[.slice none 0 0,.bool false] 179);have kj:=heap_alloc_new w8 (.cells #[.slice none 0 0,.bool false] 179);obtain⟨hC9,h9⟩:=h8.plus hC8 hbj;rw[jq,hjb] at kj hC9 h9;rw[jq] at hbj;have hjl:=zki kj;refine zta jb _ _ zx5 _ w9 kj _ _ fun W1 hb1 hz1=>?_;obtain⟨bC,h1⟩:=h9.plus hC9 hb1;have hbt:=zka hbj hb1;have hrun:=zug bC h1 hG g back (show runO C.p.prs C.F g back C.p.m r ≠ .gas by rw[ho];exact hg) pb qb bb (zb hbt h0) (zkd hq hbt) (zb hbt hb);refine hrun.mono ?_;rintro e w' ⟨hk,hbl,hout⟩;rw[show runO ((C.plus jb w9.heap.size).plus w9.heap.size W1.heap.size).p.prs ((C.plus jb w9.heap.size).plus w9.heap.size W1.heap.size).F g back ((C.plus jb w9.heap.size).plus w9.heap.size W1.heap.size).p.m r=o from ho] at hout;refine⟨fun b hb hlt=>hk.kept b hlt (.inr ?_),?_⟩
 ·rcases hb with hb|rfl
  ·exact .inr ⟨hb,hlt⟩
  ·exact .inl (.inr ⟨Nat.le_refl _,hjl⟩)
 ·have hkk:Kpt C.n0 (C.plus jb w9.heap.size).kb w9 w':=(Kpt.of_below hb1).trans (Kpt.less (C:=C.plus jb w9.heap.size) hk)
  cases o with
  | gas=>exact absurd rfl hg
  | err x=>exact .inr ⟨x,hout,rfl,hkk,hbl⟩
  | ok r1 =>
   rw[hz1] at bC hout;exact .inl ⟨hout.1,r1,rfl,bC,hout.2,hkk⟩
theorem zu8 (p:PG) (s:SS) (F:Int) (g:Nat) (back:Bool) (v sv:Value) (W:World) (hp:PV W Any p v) (hs:SV W Any s sv) (hcl:s.cells.length<=5864062014800) (hF:I64 F) (rZ:F<=1000000) (hg:F.toNat*2000+2000<=g) :
  Calls Tryz.prog 66 #[v,sv,.int .i64 F,.bool back] W (ResP W (resO p s F g back)):=by
 have HP:=zh hp;have HS:=zh hs;obtain⟨A1,c1,A2,c2,A3,c3,rfl,jL⟩:=hp;obtain⟨A,c,B,d,D,e,rfl,hr1,hr2,hr3,hc1,hc2,hc3,hl1,hl2,hl3,hl4⟩:=hs;have HPG:=zh jL;have sK:=zh (show s.Lim from ⟨hl1,hl2,hl3,hl4⟩);have HV:=zh (fun w' (hb:Below W.heap.size W w')=>zmD p Any _ w' (HP.out.later hb));have bO:=zh (fun w' (hb:Below W.heap.size W w')=>zoF p Any _ w' (HP.out.later hb));have dO:=zh (fun w' (hb:Below W.heap.size W w')=>zy1 s _ w' (HS.out.later hb) hcl);have sH:=zh (fun w' (hb:Below W.heap.size W w')=>zKD p.vs s A1 c1 _ w' (jL.vars.later hb) jL.lv (HS.out.later hb));obtain⟨Re,hRe⟩:∃ R,resO p s F g back=R:=⟨_,rfl⟩
 have fH:=zh hRe;rw[hRe];have hb4:=zkb (zkb (zkb (zkb (Below.refl W.heap.size W) (.cells #[.slice A1 p.vs.length c1,.slice A2 p.prs.length c2,.int .u8 p.m.k,.int .i64 p.m.n,.string p.m.s,.slice A3 p.m.ks.length c3] 35)) (.cells #[.slice A s.cells.length c,.slice B s.tin.length d,.slice D s.tout.length e] 26)) (.cells #[.bool back] 4)) (.cells #[.slice none 0 0,.slice none 0 0,.slice none 0 0,.int .i64 0,.int .i64 0] 50);have k0:=zkl (zkl (zkl (heap_alloc_new W (.cells #[.slice A1 p.vs.length c1,.slice A2 p.prs.length c2,.int .u8 p.m.k,.int .i64 p.m.n,.string p.m.s,.slice A3 p.m.ks.length c3] 35)) (.cells #[.slice A s.cells.length c,.slice B s.tin.length d,.slice D s.tout.length e] 26)) (.cells #[.bool back] 4)) (.cells #[.slice none 0 0,.slice none 0 0,.slice none 0 0,.int .i64 0,.int .i64 0] 50)
 have k1:=zkl (zkl (heap_alloc_new (W.alloc (.cells #[.slice A1 p.vs.length c1,.slice A2 p.prs.length c2,.int .u8 p.m.k,.int .i64 p.m.n,.string p.m.s,.slice A3 p.m.ks.length c3] 35)) (.cells #[.slice A s.cells.length c,.slice B s.tin.length d,.slice D s.tout.length e] 26)) (.cells #[.bool back] 4)) (.cells #[.slice none 0 0,.slice none 0 0,.slice none 0 0,.int .i64 0,.int .i64 0] 50);have k2:=zkl (heap_alloc_new ((W.alloc (.cells #[.slice A1 p.vs.length c1,.slice A2 p.prs.length c2,.int .u8 p.m.k,.int .i64 p.m.n,.string p.m.s,.slice A3 p.m.ks.length c3] 35)).alloc (.cells #[.slice A s.cells.length c,.slice B s.tin.length d,.slice D s.tout.length e] 26)) (.cells #[.bool back] 4)) (.cells #[.slice none 0 0,.slice none 0 0,.slice none 0 0,.int .i64 0,.int .i64 0] 50)
 have k3:=heap_alloc_new (((W.alloc (.cells #[.slice A1 p.vs.length c1,.slice A2 p.prs.length c2,.int .u8 p.m.k,.int .i64 p.m.n,.string p.m.s,.slice A3 p.m.ks.length c3] 35)).alloc (.cells #[.slice A s.cells.length c,.slice B s.tin.length d,.slice D s.tout.length e] 26)).alloc (.cells #[.bool back] 4)) (.cells #[.slice none 0 0,.slice none 0 0,.slice none 0 0,.int .i64 0,.int .i64 0] 50);simp only[World.size_alloc] at k1 k2 k3;have uG:((((W.alloc (.cells #[.slice A1 p.vs.length c1,.slice A2 p.prs.length c2,.int .u8 p.m.k,.int .i64 p.m.n,.string p.m.s,.slice A3 p.m.ks.length c3] 35)).alloc (.cells #[.slice A s.cells.length c,.slice B s.tin.length d,.slice D s.tout.length e] 26)).alloc (.cells #[.bool back] 4)).alloc (.cells #[.slice none 0 0,.slice none 0 0,.slice none 0 0,.int .i64 0,.int .i64 0] 50)).heap.size=W.heap.size+4:=by simp
 obtain⟨w4,hw4⟩:∃ x,((((W.alloc (.cells #[.slice A1 p.vs.length c1,.slice A2 p.prs.length c2,.int .u8 p.m.k,.int .i64 p.m.n,.string p.m.s,.slice A3 p.m.ks.length c3] 35)).alloc (.cells #[.slice A s.cells.length c,.slice B s.tin.length d,.slice D s.tout.length e] 26)).alloc (.cells #[.bool back] 4)).alloc (.cells #[.slice none 0 0,.slice none 0 0,.slice none 0 0,.int .i64 0,.int .i64 0] 50))=x:=⟨_,rfl⟩
 rw[hw4] at hb4 k0 k1 k2 k3 uG;have aC:=zh hb4;have aM:=zh k0;have aD:=zh k1;have bg:=zh k2;have ji:=zh k3;have iL:=zh uG;have p0:w4.cell? ⟨W.heap.size,0,none⟩=some (.slice A1 p.vs.length c1):=zc k0 rfl;have p1:w4.cell? ⟨W.heap.size,1,none⟩=some (.slice A2 p.prs.length c2):=zc k0 rfl;have p2:w4.cell? ⟨W.heap.size,2,none⟩=some (.int .u8 p.m.k):=zc k0 rfl;have p3:w4.cell? ⟨W.heap.size,3,none⟩=some (.int .i64 p.m.n):=zc k0 rfl;have p4:w4.cell? ⟨W.heap.size,4,none⟩=some (.string p.m.s):=zc k0 rfl;have p5:w4.cell? ⟨W.heap.size,5,none⟩=some (.slice A3 p.m.ks.length c3):=zc k0 rfl;obtain⟨vb,hvb⟩:∃ b,zkE p=b:=⟨_,rfl⟩
 have dD:=zh hvb;rw[hvb] at HV bO;clear jL hr1 hr2 hr3 hRe hvb hb4 k0 k1 k2 k3 uG hl1 hl2 hl3 hl4 hc1 hc2 hc3;go_enter Tryz.func66,Tryz.ntmps66;go_wp2_with fail;refine(HV.out w4 aC.out).mono ?_;rintro e5 w5 ⟨rfl,b5⟩;clear hw4
 cases vb
 ·have HX:=zh (show Re=(s,0,3,[]) by rw[<-fH.out,resO,if_pos (.inl dD.out)]);clear p0 p1 p2 p3 p4 p5;have dC:=zkd aD.out b5;have iG:=zkd ji.out b5;have s0:w5.cell? ⟨W.heap.size+1,0,none⟩=some (.slice A s.cells.length c):=zc dC rfl;have s1:w5.cell? ⟨W.heap.size+1,1,none⟩=some (.slice B s.tin.length d):=zc dC rfl;have s2:w5.cell? ⟨W.heap.size+1,2,none⟩=some (.slice D s.tout.length e):=zc dC rfl;have aI:=zh (dO.out w5 (zka aC.out b5));have eY:=zh iG;have hbq:=b5;clear dC iG;go_wp2_with fail;refine aI.out.mono ?_;rintro e9 w9 ⟨v9,rfl,dx,bJ⟩;obtain⟨A9,c9,B9,d9,D9,e9,rfl⟩:=dx.slices;have dU:=zh dx;have dh:=zh (zka hbq bJ);have aH:=zkd eY.out bJ;have x0:w9.cell? ⟨W.heap.size+3,0,none⟩=some (.slice none 0 0):=zc aH rfl;have x1:w9.cell? ⟨W.heap.size+3,1,none⟩=some (.slice none 0 0):=zc aH rfl
  have x2:w9.cell? ⟨W.heap.size+3,2,none⟩=some (.slice none 0 0):=zc aH rfl;have x3:w9.cell? ⟨W.heap.size+3,3,none⟩=some (.int .i64 0):=zc aH rfl;have x4:w9.cell? ⟨W.heap.size+3,4,none⟩=some (.int .i64 0):=zc aH rfl;have xf:∀ o,w9.frozen? ⟨W.heap.size+3,o,none⟩=false:=fun _=>zf aH;have iN:=zh aH;have hbr:=bRes;have oZ:W.heap.size+4<=w5.heap.size:=by have:=hbq.size;rw[iL.out] at this;exact this
  clear s0 s1 s2 aH dx bJ hbq aI;go_wp2_with fail;obtain⟨hh,hch⟩:=set5 (u0:=.slice A9 s.cells.length c9) (u1:=.slice B9 s.tin.length d9) (u2:=.slice D9 s.tout.length e9) (u3:=.int .i64 0) (u4:=.int .i64 3) iN.out;obtain⟨aQ,dw⟩:∃ zz,(((((w9.setCell ⟨W.heap.size+3,0,none⟩ (.slice A9 s.cells.length c9)).setCell ⟨W.heap.size+3,1,none⟩ (.slice B9 s.tin.length d9)).setCell ⟨W.heap.size+3,2,none⟩ (.slice D9 s.tout.length e9)).setCell ⟨W.heap.size+3,3,none⟩ (.int .i64 0)).setCell ⟨W.heap.size+3,4,none⟩ (.int .i64 3))=zz:=⟨_,rfl⟩
  rw[dw] at hh hch ⊢;have t0:aQ.cell? ⟨W.heap.size+3,0,none⟩=some (.slice A9 s.cells.length c9):=zc hh rfl;have t1:aQ.cell? ⟨W.heap.size+3,1,none⟩=some (.slice B9 s.tin.length d9):=zc hh rfl;have t2:aQ.cell? ⟨W.heap.size+3,2,none⟩=some (.slice D9 s.tout.length e9):=zc hh rfl;have t3:aQ.cell? ⟨W.heap.size+3,3,none⟩=some (.int .i64 0):=zc hh rfl;have t4:aQ.cell? ⟨W.heap.size+3,4,none⟩=some (.int .i64 3):=zc hh rfl;refine bodyPost_ret (v:=.tuple #[.slice none 0 0,.agg #[.slice A9 s.cells.length c9,.slice B9 s.tin.length d9,.slice D9 s.tout.length e9,.int .i64 0,.int .i64 3]]) (by simp[results,Tryz.results66,go_sem,t0,t1,t2,t3,t4]) rfl ?_;rw[HX.out]
  exact⟨none,0,_,_,_,rfl,(dU.out.chg hch fun b hb=>by omega).lower (by omega),fun i hi=>absurd hi (by simp),Nat.le_refl _,(zka aC.out dh.out).trans (hch.below (zka aC.out dh.out).size fun b hb=>by omega),sK.out,fun h=>by first|(simp at h;done)|exact absurd h uY.out⟩
 ·have q0:=zb b5 p0;have q1:=zb b5 p1;have q2:=zb b5 p2;have q3:=zb b5 p3;have q4:=zb b5 p4;have q5:=zb b5 p5;have uz:=zh (show Calls Tryz.prog 53 #[pv A1 p.vs.length c1 A2 p.prs.length c2 p.m.k p.m.n p.m.s A3 p.m.ks.length c3] w5 (fun e w'=>∃ A c,e=Ending.returned (.slice A (chkN p) c)/\Below w5.heap.size w5 w') from (bO.out w5 (zka aC.out b5)).mono (fun e w' ⟨A,c,h1,h2⟩=>⟨A,c,by rw[h1,if_pos rfl],h2⟩));clear p0 p1 p2 p3 p4 p5 bO HV;go_wp2_with fail;refine uz.out.mono ?_;rintro e6 w6 ⟨AA,cc,rfl,b6⟩;have kU:=zka b5 b6;clear q0 q1 q2 q3 q4 q5;by_cases hn:chkN p=0
  ·obtain⟨n,hnn⟩:∃ n,chkN p=n:=⟨_,rfl⟩
   rw[hnn];obtain rfl:n=0:=by omega
   have hng:¬ (0:Int)<((0:Nat):Int):=by omega
   have ja:=zkd aM.out kU;have dC:=zkd aD.out kU;have p0:w6.cell? ⟨W.heap.size,0,none⟩=some (.slice A1 p.vs.length c1):=zc ja rfl;have s0:w6.cell? ⟨W.heap.size+1,0,none⟩=some (.slice A s.cells.length c):=zc dC rfl;have s1:w6.cell? ⟨W.heap.size+1,1,none⟩=some (.slice B s.tin.length d):=zc dC rfl;have s2:w6.cell? ⟨W.heap.size+1,2,none⟩=some (.slice D s.tout.length e):=zc dC rfl;have eH:=zh hnn;clear ja dC hn hnn;go_wp2_with fail;refine(sH.out w6 (zka aC.out kU)).mono ?_;rintro e7 w7 ⟨b7,⟨hfit,rfl⟩|⟨hfit,P,rfl,wG⟩⟩
   ·have HX:=zh (show Re=(s,0,20,[]) by rw[<-fH.out,resO,if_neg (by rw[dD.out,eH.out];simp),if_pos hfit]);have nZ:=zka kU b7;clear p0 s0 s1 s2 hfit;have dC:=zkd aD.out nZ;have iG:=zkd ji.out nZ;have s0:w7.cell? ⟨W.heap.size+1,0,none⟩=some (.slice A s.cells.length c):=zc dC rfl;have s1:w7.cell? ⟨W.heap.size+1,1,none⟩=some (.slice B s.tin.length d):=zc dC rfl;have s2:w7.cell? ⟨W.heap.size+1,2,none⟩=some (.slice D s.tout.length e):=zc dC rfl;have aI:=zh (dO.out w7 (zka aC.out nZ));have eY:=zh iG;have hbq:=nZ;clear dC iG;go_wp2_with fail;refine aI.out.mono ?_;rintro e9 w9 ⟨v9,rfl,dx,bJ⟩;obtain⟨A9,c9,B9,d9,D9,e9,rfl⟩:=dx.slices;have dU:=zh dx;have dh:=zh (zka hbq bJ);have aH:=zkd eY.out bJ;have x0:w9.cell? ⟨W.heap.size+3,0,none⟩=some (.slice none 0 0):=zc aH rfl;have x1:w9.cell? ⟨W.heap.size+3,1,none⟩=some (.slice none 0 0):=zc aH rfl
    have x2:w9.cell? ⟨W.heap.size+3,2,none⟩=some (.slice none 0 0):=zc aH rfl;have x3:w9.cell? ⟨W.heap.size+3,3,none⟩=some (.int .i64 0):=zc aH rfl;have x4:w9.cell? ⟨W.heap.size+3,4,none⟩=some (.int .i64 0):=zc aH rfl;have xf:∀ o,w9.frozen? ⟨W.heap.size+3,o,none⟩=false:=fun _=>zf aH;have iN:=zh aH;have hbr:=bRes;have oZ:W.heap.size+4<=w7.heap.size:=by have:=hbq.size;rw[iL.out] at this;exact this
    clear s0 s1 s2 aH dx bJ hbq aI;go_wp2_with fail;obtain⟨hh,hch⟩:=set5 (u0:=.slice A9 s.cells.length c9) (u1:=.slice B9 s.tin.length d9) (u2:=.slice D9 s.tout.length e9) (u3:=.int .i64 0) (u4:=.int .i64 20) iN.out;obtain⟨aQ,dw⟩:∃ zz,(((((w9.setCell ⟨W.heap.size+3,0,none⟩ (.slice A9 s.cells.length c9)).setCell ⟨W.heap.size+3,1,none⟩ (.slice B9 s.tin.length d9)).setCell ⟨W.heap.size+3,2,none⟩ (.slice D9 s.tout.length e9)).setCell ⟨W.heap.size+3,3,none⟩ (.int .i64 0)).setCell ⟨W.heap.size+3,4,none⟩ (.int .i64 20))=zz:=⟨_,rfl⟩
    rw[dw] at hh hch ⊢;have t0:aQ.cell? ⟨W.heap.size+3,0,none⟩=some (.slice A9 s.cells.length c9):=zc hh rfl;have t1:aQ.cell? ⟨W.heap.size+3,1,none⟩=some (.slice B9 s.tin.length d9):=zc hh rfl;have t2:aQ.cell? ⟨W.heap.size+3,2,none⟩=some (.slice D9 s.tout.length e9):=zc hh rfl;have t3:aQ.cell? ⟨W.heap.size+3,3,none⟩=some (.int .i64 0):=zc hh rfl;have t4:aQ.cell? ⟨W.heap.size+3,4,none⟩=some (.int .i64 20):=zc hh rfl;refine bodyPost_ret (v:=.tuple #[.slice none 0 0,.agg #[.slice A9 s.cells.length c9,.slice B9 s.tin.length d9,.slice D9 s.tout.length e9,.int .i64 0,.int .i64 20]]) (by simp[results,Tryz.results66,go_sem,t0,t1,t2,t3,t4]) rfl ?_;rw[HX.out]
    exact⟨none,0,_,_,_,rfl,(dU.out.chg hch fun b hb=>by omega).lower (by omega),fun i hi=>absurd hi (by simp),Nat.le_refl _,(zka aC.out dh.out).trans (hch.below (zka aC.out dh.out).size fun b hb=>by omega),sK.out,fun h=>by first|(simp at h;done)|exact absurd h uY.out⟩
   ·have nZ:=zka kU b7;have nM:=zh hfit;have xy:=zh wG;clear p0 s0 s1 s2 hfit wG;have ja:=zkd aM.out nZ;have p0:w7.cell? ⟨W.heap.size,0,none⟩=some (.slice A1 p.vs.length c1):=zc ja rfl;have p1:w7.cell? ⟨W.heap.size,1,none⟩=some (.slice A2 p.prs.length c2):=zc ja rfl;have p2:w7.cell? ⟨W.heap.size,2,none⟩=some (.int .u8 p.m.k):=zc ja rfl;have p3:w7.cell? ⟨W.heap.size,3,none⟩=some (.int .i64 p.m.n):=zc ja rfl;have p4:w7.cell? ⟨W.heap.size,4,none⟩=some (.string p.m.s):=zc ja rfl;have p5:w7.cell? ⟨W.heap.size,5,none⟩=some (.slice A3 p.m.ks.length c3):=zc ja rfl;obtain⟨hvl,hpl,hpp,-,hpm⟩:=zlX dD.out;have hmk:=bMkI p.prs.length (by omega);obtain⟨np,jy⟩:∃ n,p.prs.length=n:=⟨_,rfl⟩
    rw[jy] at p1 hmk;have oC:=zh jy;obtain⟨HH,hHH⟩:∃ H:World->Prop,H=fun w':World=>w'.cell? ⟨W.heap.size,0,none⟩=some (.slice A1 p.vs.length c1)/\w'.cell? ⟨W.heap.size,1,none⟩=some (.slice A2 np c2)/\w'.cell? ⟨W.heap.size,2,none⟩=some (.int .u8 p.m.k)/\w'.cell? ⟨W.heap.size,3,none⟩=some (.int .i64 p.m.n)/\w'.cell? ⟨W.heap.size,4,none⟩=some (.string p.m.s)/\w'.cell? ⟨W.heap.size,5,none⟩=some (.slice A3 p.m.ks.length c3):=⟨_,rfl⟩
    have aP:=zh (show ∀ w',Below w7.heap.size w7 w'->HH w' by
     rw[hHH];exact fun w' hb=>⟨zb hb p0,zb hb p1,zb hb p2,zb hb p3,zb hb p4,zb hb p5⟩)
    rw[jy];go_upto_region 6 with fail;have hSS:HH w7.drew/\(fun _:World=>True) w7.drew:=⟨aP.out _ (Below.refl _ _).drew,trivial⟩
    refine wp_region_noPanic ?_;refine zkc HH (fun _:World=>True) 10 (by kernel_rfl) ?_;subst hHH;refine zT 0 hSS ?_;(try simp only[zQ]);refine zT 1 hSS ?_;(try simp only[zQ]);refine zT 2 hSS ?_;(try simp only[zQ]);refine zT 3 hSS ?_;(try simp only[zQ]);refine zT 4 hSS ?_;(try simp only[zQ]);refine zT 5 hSS ?_;(try simp only[zQ]);clear p0 p1 p2 p3 p4 p5 ja jy;refine ztc (fun A f l a wr=>∃ (l6 l7 l8 l9:Bool) (v43 v44 v45 v12:Value) (eb rb pb:Nat),f=(!l6).toNat+(!l7).toNat+(!l8).toNat+(!l9).toNat+1/\l = #[true,true,true,true,true,true,l6,l7,l8,l9,false] /\
     a=(((A.put (some 43) v43).put (some 44) v44).put (some 45) v45).put (some 12) v12/\Hid (Below w7.heap.size w7 wr) /\
     Hid ((l7=true->l6=true)/\(l8=true->l7=true)/\(l6=true->v43=.slice (some ⟨eb,0,none⟩) np np/\wr.heap[eb]?=some (.cells (zkj (List.replicate np 0)).toArray 3 (0,0))/\w7.heap.size<=eb) /\
      (l7=true->v44=.agg #[.slice A1 p.vs.length c1,.slice A2 np c2,.int .u8 p.m.k,.int .i64 p.m.n,.string p.m.s,.slice A3 p.m.ks.length c3,.pointer (some ⟨P.sb,0,none⟩),.int .i64 0,.int .i64 F,.slice (some ⟨eb,0,none⟩) np np]) /\
      (l8=true->v45=.pointer (some ⟨rb,0,none⟩)/\wr.heap[rb]?=some (.cells #[.slice A1 p.vs.length c1,.slice A2 np c2,.int .u8 p.m.k,.int .i64 p.m.n,.string p.m.s,.slice A3 p.m.ks.length c3,.pointer (some ⟨P.sb,0,none⟩),.int .i64 0,.int .i64 F,.slice (some ⟨eb,0,none⟩) np np] 174 (0,0))/\w7.heap.size<=rb) /\
      (l9=true->v12=.pointer (some ⟨pb,0,none⟩)/\wr.heap[pb]?=some (.cells #[.pointer none] 172 (0,0))/\w7.heap.size<=pb)) /\
     Hid ((l6=false->v43=undef)/\(l7=false->v44=undef)/\(l8=false->v45=undef)/\(l9=false->v12=undef))) (fun A f l a wr h=>?_) ?_ ⟨false,false,false,false,undef,undef,undef,undef,0,0,0,rfl,rfl,(by simp only[Act.put,zD,zE,zF]),zh (Below.refl _ _).drew,zh ⟨fun h=>(by cases h),fun h=>(by cases h),fun h=>(by cases h),fun h=>(by cases h),fun h=>(by cases h),fun h=>(by cases h)⟩,zh ⟨fun _=>rfl,fun _=>rfl,fun _=>rfl,fun _=>rfl⟩⟩
    ·obtain⟨_,_,_,_,_,_,_,_,_,_,_,_,_,_,hb,_⟩:=h;exact⟨aP.out _ hb.out,trivial⟩
    rintro A' hA f l a wr ⟨l6,l7,l8,l9,v43,v44,v45,v12,eb,rb,pb,hf,rfl,ha,aj,HC,HU⟩;by_cases hall:(l6&&l7&&l8&&l9)=true
    ·left
     simp only[Bool.and_eq_true] at hall;obtain⟨⟨⟨rfl,rfl⟩,rfl⟩,rfl⟩:=hall;obtain⟨-,-,h6,h7,h8,h9⟩:=HC.out;obtain⟨rfl,he,hel⟩:=h6 rfl;obtain rfl:=h7 rfl;obtain⟨rfl,hr,hrl⟩:=h8 rfl;obtain⟨rfl,hq,mi⟩:=h9 rfl;subst hf ha hA;have hner:eb≠rb:=zwB he hr (by decide);have hneq:eb≠pb:=zwB he hq (by decide);have hnrq:rb≠pb:=zwB hr hq (by decide);have c0:wr.cell? ⟨pb,0,none⟩=some (.pointer none):=zc hq rfl;have cf:∀ j,wr.frozen? ⟨pb,j,none⟩=false:=fun j=>zf hq;refine zp 10 fun K hK=>?_;(try simp only[zQ]);go_simp;have hch:Chg (fun b=>b=pb) wr (wr.setCell ⟨pb,0,none⟩ (.pointer (some ⟨rb,0,none⟩))):=(Chg.refl (fun b=>b=pb) wr).setCell (p:=⟨pb,0,none⟩) (.inl rfl) _;have hh:(wr.setCell ⟨pb,0,none⟩ (.pointer (some ⟨rb,0,none⟩))).heap[pb]?=some (.cells #[.pointer (some ⟨rb,0,none⟩)] 172 (0,0)):=by
      rw[heap_setCell_same wr pb 0 _ _ (.pointer (some ⟨rb,0,none⟩)) hq];rfl
     have jW:=zh (show Below w7.heap.size w7 (wr.setCell ⟨pb,0,none⟩ (.pointer (some ⟨rb,0,none⟩))) from aj.out.trans (hch.below aj.out.size fun b e=>by omega));have xR:=zh (hch.keep he hneq);have lX:=zh (hch.keep hr hnrq);have vz:=zh hh;obtain⟨w8,hw8⟩:∃ x,wr.setCell ⟨pb,0,none⟩ (.pointer (some ⟨rb,0,none⟩))=x:=⟨_,rfl⟩
     rw[hw8] at jW xR lX vz ⊢;refine hK.out _ _ (aP.out _ jW.out) ?_;clear hK K hSS hch hh hw8 c0 cf he hr hq h6 h7 h8 h9 HC HU aj hmk aP;refine zd ?_;refine NoPanic.normal ?_;(try simp only[zQ]);have hlt_e:=zki xR.out;have hlt_r:=zki lX.out;have hlt_q:=zki vz.out;obtain⟨C,hC⟩:∃ C:RC,C=⟨W,w6.heap.size,P.sb,rb,p,A1,c1,A2,c2,A3,c3,F,.slice (some ⟨eb,0,none⟩) np np,fun b=>b=pb⟩:=⟨_,rfl⟩
     have hs67:=b7.size;have hs46:=kU.size;have uG:=iL.out;have hbWw6:=zka aC.out kU;have uw:=zh (show C.Ok by
      rw[hC];exact⟨HPG.out,hF,rZ,⟨by simp only;omega,by simp only;exact hnrq⟩,⟨by simp[Value.ownBlock];exact hner,fun b hb hk=>by simp only[Value.ownBlock,Option.some.injEq] at hb;simp only at hk;omega⟩,fun q hq=>by have:=(hpp q hq).1;omega⟩)
     have dM:=zh (show RI C w8 ⟨newS p.vs s,0,List.replicate np 0⟩ by
      rw[hC];have hks:=(KS.new hbWw6 b7 xy.out).also jW.out (kb':=fun b=>b=pb\/b=rb\/(Value.slice (some ⟨eb,0,none⟩) np np).ownBlock=some b) (fun b hb=>.inr (by
       rcases hb with rfl|rfl|hb
       ·exact⟨mi,hlt_q⟩
       ·exact⟨hrl,hlt_r⟩
       ·simp[Value.ownBlock] at hb;subst hb;exact⟨hel,hlt_e⟩))
      refine⟨hks,by rw[<-oC.out] at lX;simpa[RC.cells,oC.out] using lX.out,?_,by simp[oC.out],fun c hc=>by simp at hc;omega,by simp,?_⟩
      ·refine⟨by simp[zkj],.inr ⟨eb,np,_,by simp,Nat.le_trans hs67 hel,xR.out,by simp,by unfold maxLen;have:=oC.out;omega,by simp[zkj],by simp[zkj]⟩⟩
      ·exact⟨by simp only[newS];omega,fun f hf=>by simp[newS] at hf⟩)
     have HGP:=zh (zs8 dD.out eH.out);obtain⟨o,ho⟩:∃ o,runO p.prs F g back p.m ⟨newS p.vs s,0,List.replicate np 0⟩=o:=⟨_,rfl⟩
     have hog:o ≠ .gas:=ho▸(ztj dD.out hg back (newS p.vs s) (List.replicate np 0)).1;have hon:Nz o:=ho▸zvd zs9 HGP.out;have HRR:=zh (show Re=outR s o by rw[<-fH.out,resO,if_neg (by rw[dD.out,eH.out];simp),if_neg (by rw[nM.out];simp),<-ho,<-oC.out]);have jc:=zka nZ jW.out;obtain⟨jb,hjb⟩:∃ x,w8.heap.size=x:=⟨_,rfl⟩
     obtain⟨w9,jq⟩:∃ x,w8.alloc (.cells #[.slice none 0 0,.bool false] 179)=x:=⟨_,rfl⟩
     have HAT:=zh (zsZ uw.out dM.out jq hjb (by rw[hC];exact HGP.out) g back o (by rw[hC];exact ho) hog pb W.heap.size (W.heap.size+1+1) (by rw[hC];exact zc vz.out rfl) (by rw[hC];simp only;rw[oC.out];have:=zkd aM.out jc;rw[oC.out] at this;exact this) (zc (zkd bg.out jc) rfl));have uF:w9.heap.size=jb+1:=by rw[<-jq];simp[hjb]
     have HK89:=zh (show Kpt C.n0 C.kb w8 w9 from Kpt.of_below (jq▸zkb (Below.refl w8.heap.size w8) _));have uO:∀ (fn:Fn) (first cap:Array Value) (w:World),(Instr.makeFunc fn first cap).run Tryz.prog w=.ok (.func fn first cap) w:=fun _ _ _ _=>rfl;have HN0C:=zh (show C.n0=w6.heap.size/\C.w=W/\C.rb=rb/\C.ev=.slice (some ⟨eb,0,none⟩) np np/\(C.kb=fun b=>b=pb)/\C.sb=P.sb/\C.p=p by rw[hC];exact⟨rfl,rfl,rfl,rfl,rfl,rfl,rfl⟩);have HHB48:=zh jc;have iY:=aC.out;have hb4s:W.heap.size<=w6.heap.size:=hbWw6.size;clear hC jc ho hlt_e hlt_r;go_wp2_with fail;refine HAT.out.mono ?_;rintro e10 aJ hat;clear HAT jq uO;rcases hat with⟨rfl,aQ,⟨r,rfl,hok,aU,hkp⟩,hch⟩|⟨x,rfl,aQ,⟨rfl,hkp,hbl⟩,hch⟩
     ·obtain⟨hn0,hcw,mK,kG,jB,mJ,hcp⟩:=HN0C.out;have hri1:=RI.chgK (C:=C.plus jb w9.heap.size) hok aU hch (by show C.w.heap.size<=_;rw[hcw];have:=jW.out.size;omega);have iC:RI C aJ r:=hri1.less.less;have hkk:Kpt C.n0 C.kb w8 aJ:=HK89.out.trans ((Kpt.less (C:=C) hkp).trans (Kpt.chg hch fun b hb=>⟨by rw[hn0];omega,by rw[jB];intro e;subst e;omega⟩));have dm:=zr9 iY (by have:=iC.below;rw[hcw] at this;exact this) HHB48.out hkk (by rw[hn0];exact hs46);have fG:=zh iC;have HX:=zh (show Re=(r.S.state,r.n,0,r.ent) from HRR.out);obtain⟨-,x7,-,x9,-⟩:=iC.cells;rw[mK] at x7 x9;rw[kG] at x9;have xp:aJ.cell? ⟨pb,0,none⟩=some (.pointer (some ⟨rb,0,none⟩)):=zc (hkk.blk (.inr (by rw[jB])) vz.out) rfl;have HKR:=zh (zkd ji.out dm);have lL:=zh dm;have hls:=iC.ks;have HST:=zh (fun w' (hb:Below aJ.heap.size aJ w')=>(hls.later hb).state)
      rw[mJ] at HST;have xG:=zh (show r.ent.length=np by rw[iC.el,hcp,oC.out]);have lG:=zh iC.ent;rw[hn0,kG] at lG;have hne0:(0:Int)=0:=rfl;have aP:=zh (show ∀ w',Below aJ.heap.size aJ w'->(fun w':World=>w'.cell? ⟨pb,0,none⟩=some (.pointer (some ⟨rb,0,none⟩))/\w'.cell? ⟨rb,7,none⟩=some (.int .i64 r.n)/\w'.cell? ⟨rb,9,none⟩=some (.slice (some ⟨eb,0,none⟩) np np)) w' from fun w' hb=>⟨zb hb xp,zb hb x7,zb hb x9⟩);clear aU hri1 iC hkk hkp hls hn0 hcw mK kG jB mJ hch x7 x9 xp dm hok;go_upto_region 10 with fail;have hSS:(fun w':World=>w'.cell? ⟨pb,0,none⟩=some (.pointer (some ⟨rb,0,none⟩))/\w'.cell? ⟨rb,7,none⟩=some (.int .i64 r.n)/\w'.cell? ⟨rb,9,none⟩=some (.slice (some ⟨eb,0,none⟩) np np)) aJ.drew/\(fun _:World=>True) aJ.drew:=⟨aP.out _ (Below.refl _ _).drew,trivial⟩
      refine wp_region_noPanic ?_;refine zkc (fun w':World=>w'.cell? ⟨pb,0,none⟩=some (.pointer (some ⟨rb,0,none⟩))/\w'.cell? ⟨rb,7,none⟩=some (.int .i64 r.n)/\w'.cell? ⟨rb,9,none⟩=some (.slice (some ⟨eb,0,none⟩) np np)) (fun _:World=>True) 12 (by kernel_rfl) ?_;refine zT 0 hSS ?_;(try simp only[zQ]);refine zT 1 hSS ?_;(try simp only[zQ]);refine zT 2 hSS ?_;(try simp only[zQ]);refine zT 3 hSS ?_;(try simp only[zQ]);refine zT 4 hSS ?_;(try simp only[zQ]);refine zT 6 hSS ?_;(try simp only[zQ]);refine zT 7 hSS ?_;(try simp only[zQ]);refine zT 8 hSS ?_;(try simp only[zQ]);refine zT 9 hSS ?_;(try simp only[zQ]);have had:Calls Tryz.prog 22 [.pointer (some ⟨P.sb,0,none⟩)].toArray aJ.drew fun e W'=>∃ v,e=.returned v/\(OwnS W' aJ.heap.size r.S.state v/\Below aJ.heap.size aJ W') :=
       (HST.out _ (Below.refl _ _).drew).mono fun e w' ⟨v,h1,h2,h3⟩=>⟨v,h1,h2,zka (Below.refl aJ.heap.size aJ).drew h3⟩
      refine zo 5 fun K hK=>?_;refine zkh (by rfl) (.func 22) [.tmp 59] _ (by rfl) 22 _ zx4 (by rfl) _ (by rfl) _ had ?_;rintro v12 fU ⟨o8,mV⟩;obtain⟨A9,c9,B9,d9,D9,e9,rfl⟩:=o8.slices;have HO12:=zh o8;have fQ:=zh mV;refine hK.out _ _ ⟨aP.out _ mV,trivial⟩ ?_;have aB:(fun w':World=>w'.cell? ⟨pb,0,none⟩=some (.pointer (some ⟨rb,0,none⟩))/\w'.cell? ⟨rb,7,none⟩=some (.int .i64 r.n)/\w'.cell? ⟨rb,9,none⟩=some (.slice (some ⟨eb,0,none⟩) np np)) fU/\(fun _:World=>True) fU:=⟨aP.out _ mV,trivial⟩
      clear hK K hSS had o8 mV;(try simp only[zQ]);have hbr:=zLF;refine zT 10 aB ?_;(try simp only[zQ]);refine zo 11 fun K hK=>?_;(try simp only[zA,zB,zC]);go_simp;refine hK.out _ _ ⟨aP.out _ fQ.out,trivial⟩ ?_;clear hK K;(try simp only[zQ]);have aH:=zkd HKR.out fQ.out;have x0:fU.cell? ⟨W.heap.size+3,0,none⟩=some (.slice none 0 0):=zc aH rfl;have x1:fU.cell? ⟨W.heap.size+3,1,none⟩=some (.slice none 0 0):=zc aH rfl;have x2:fU.cell? ⟨W.heap.size+3,2,none⟩=some (.slice none 0 0):=zc aH rfl;have x3:fU.cell? ⟨W.heap.size+3,3,none⟩=some (.int .i64 0):=zc aH rfl;have x4:fU.cell? ⟨W.heap.size+3,4,none⟩=some (.int .i64 0):=zc aH rfl;have xf:∀ o,fU.frozen? ⟨W.heap.size+3,o,none⟩=false:=fun _=>zf aH;refine zp 12 fun K hK=>?_;(try simp only[zQ]);go_simp
      obtain⟨hh,hch⟩:=set5 (u0:=.slice A9 r.S.state.cells.length c9) (u1:=.slice B9 r.S.state.tin.length d9) (u2:=.slice D9 r.S.state.tout.length e9) (u3:=.int .i64 r.n) (u4:=.int .i64 0) aH;obtain⟨rO,hw13⟩:∃ zz,(((((fU.setCell ⟨W.heap.size+3,0,none⟩ (.slice A9 r.S.state.cells.length c9)).setCell ⟨W.heap.size+3,1,none⟩ (.slice B9 r.S.state.tin.length d9)).setCell ⟨W.heap.size+3,2,none⟩ (.slice D9 r.S.state.tout.length e9)).setCell ⟨W.heap.size+3,3,none⟩ (.int .i64 r.n)).setCell ⟨W.heap.size+3,4,none⟩ (.int .i64 0))=zz:=⟨_,rfl⟩
      rw[hw13] at hh hch ⊢;have fO:=zh hch;have t0:rO.cell? ⟨W.heap.size+3,0,none⟩=some (.slice A9 r.S.state.cells.length c9):=zc hh rfl;have t1:rO.cell? ⟨W.heap.size+3,1,none⟩=some (.slice B9 r.S.state.tin.length d9):=zc hh rfl;have t2:rO.cell? ⟨W.heap.size+3,2,none⟩=some (.slice D9 r.S.state.tout.length e9):=zc hh rfl;have t3:rO.cell? ⟨W.heap.size+3,3,none⟩=some (.int .i64 r.n):=zc hh rfl;have t4:rO.cell? ⟨W.heap.size+3,4,none⟩=some (.int .i64 0):=zc hh rfl;have hszs:W.heap.size+4<=aJ.heap.size:=by have:=lL.out.size;omega
      have hplt:W.heap.size+3<w7.heap.size:=by have:=nZ.size;omega
      refine hK.out _ _ ?_ ?_
      ·obtain⟨q1,q2,q3⟩:=aP.out _ fQ.out;exact⟨zlc hch q1 (by simp only;omega),zlc hch q2 (by simp only;omega),zlc hch q3 (by simp only;omega)⟩
      clear hK K hch hh hw13 x0 x1 x2 x3 x4 xf aH aB aP;(try simp only[zQ]);refine zd ?_;refine NoPanic.normal ?_;go_wp2_with fail;have hrow:=zk7 lG.out fQ.out;have hrow2:=zqQ hrow (fun b hb=>fO.out.block b (hrow.lt b hb).2 (by have:=(hrow.lt b hb).1;omega));have hI:∀ z∈r.ent.map Int.ofNat,I64 z:=fun z hz=>by
       obtain⟨q,hq,rfl⟩:=List.mem_map.1 hz;have h1:=fG.out.en q hq;have h2:=fG.out.n;exact⟨by simp only[Int.ofNat_eq_natCast];omega,by simp only[Int.ofNat_eq_natCast];omega⟩
      obtain⟨Ae,ce,he1,he2,he3⟩:=zKK (l:=r.ent.map Int.ofNat) (by simpa using hrow2) hI;injection he1 with he1 _ he4;subst he1 he4;refine bodyPost_ret (v:=.tuple #[.slice (some ⟨eb,0,none⟩) np np,.agg #[.slice A9 r.S.state.cells.length c9,.slice B9 r.S.state.tin.length d9,.slice D9 r.S.state.tout.length e9,.int .i64 r.n,.int .i64 0]]) (by simp[results,Tryz.results66,go_sem,t0,t1,t2,t3,t4]) rfl ?_;rw[HX.out];refine⟨_,_,_,_,_,by rw[xG.out],(HO12.out.chg fO.out fun b hb=>by omega).lower (by omega),he3.keep (fun b hb _=>by have:=hb4s;omega) (fun _ _ _=>rfl),by simpa using he2,?_⟩;exact⟨(zka iY (zka lL.out fQ.out)).trans (fO.out.below (zka iY (zka lL.out fQ.out)).size fun b hb=>by omega),LimR.run fG.out.ks.wf fG.out.fb _⟩
     ·have hx:x≠0:=fun e=>hon (by rw[e]);obtain⟨hn0,hcw,mK,kG,jB,mJ,-⟩:=HN0C.out;have hkk:Kpt C.n0 C.kb w8 aJ:=HK89.out.trans ((Kpt.less (C:=C) hkp).trans (Kpt.chg hch fun b hb=>⟨by rw[hn0];omega,by rw[jB];intro e;subst e;omega⟩));have mO:Below C.w.heap.size C.w aQ:=hbl;rw[hcw] at mO;have hs8:=jW.out.size;have mP:Below W.heap.size W aJ:=mO.trans (hch.below mO.size fun b hb=>by omega);have dm:=zr9 iY mP HHB48.out hkk (by rw[hn0];exact hs46);have HX:=zh (show Re=(s,0,x,[]) from HRR.out);have e1:(x != 0)=true:=by simpa using hx
      have uY:=zh hx;clear hn0 hcw mK kG jB mJ hkk mP hkp hbl mO hch hon;have dC:=zkd aD.out dm;have iG:=zkd ji.out dm;have s0:aJ.cell? ⟨W.heap.size+1,0,none⟩=some (.slice A s.cells.length c):=zc dC rfl;have s1:aJ.cell? ⟨W.heap.size+1,1,none⟩=some (.slice B s.tin.length d):=zc dC rfl;have s2:aJ.cell? ⟨W.heap.size+1,2,none⟩=some (.slice D s.tout.length e):=zc dC rfl;have aI:=zh (dO.out aJ (zka aC.out dm));have eY:=zh iG;have hbq:=dm;clear dC iG;go_wp2_with fail;refine aI.out.mono ?_;rintro e9 w9 ⟨v9,rfl,dx,bJ⟩;obtain⟨A9,c9,B9,d9,D9,e9,rfl⟩:=dx.slices;have dU:=zh dx;have dh:=zh (zka hbq bJ);have aH:=zkd eY.out bJ;have x0:w9.cell? ⟨W.heap.size+3,0,none⟩=some (.slice none 0 0):=zc aH rfl;have x1:w9.cell? ⟨W.heap.size+3,1,none⟩=some (.slice none 0 0):=zc aH rfl
      have x2:w9.cell? ⟨W.heap.size+3,2,none⟩=some (.slice none 0 0):=zc aH rfl;have x3:w9.cell? ⟨W.heap.size+3,3,none⟩=some (.int .i64 0):=zc aH rfl;have x4:w9.cell? ⟨W.heap.size+3,4,none⟩=some (.int .i64 0):=zc aH rfl;have xf:∀ o,w9.frozen? ⟨W.heap.size+3,o,none⟩=false:=fun _=>zf aH;have iN:=zh aH;have hbr:=bRes;have oZ:W.heap.size+4<=aJ.heap.size:=by have:=hbq.size;rw[iL.out] at this;exact this
      clear s0 s1 s2 aH dx bJ hbq aI;go_wp2_with fail;obtain⟨hh,hch⟩:=set5 (u0:=.slice A9 s.cells.length c9) (u1:=.slice B9 s.tin.length d9) (u2:=.slice D9 s.tout.length e9) (u3:=.int .i64 0) (u4:=.int .i64 x) iN.out;obtain⟨aQ,dw⟩:∃ zz,(((((w9.setCell ⟨W.heap.size+3,0,none⟩ (.slice A9 s.cells.length c9)).setCell ⟨W.heap.size+3,1,none⟩ (.slice B9 s.tin.length d9)).setCell ⟨W.heap.size+3,2,none⟩ (.slice D9 s.tout.length e9)).setCell ⟨W.heap.size+3,3,none⟩ (.int .i64 0)).setCell ⟨W.heap.size+3,4,none⟩ (.int .i64 x))=zz:=⟨_,rfl⟩
      rw[dw] at hh hch ⊢;have t0:aQ.cell? ⟨W.heap.size+3,0,none⟩=some (.slice A9 s.cells.length c9):=zc hh rfl;have t1:aQ.cell? ⟨W.heap.size+3,1,none⟩=some (.slice B9 s.tin.length d9):=zc hh rfl;have t2:aQ.cell? ⟨W.heap.size+3,2,none⟩=some (.slice D9 s.tout.length e9):=zc hh rfl;have t3:aQ.cell? ⟨W.heap.size+3,3,none⟩=some (.int .i64 0):=zc hh rfl;have t4:aQ.cell? ⟨W.heap.size+3,4,none⟩=some (.int .i64 x):=zc hh rfl;refine bodyPost_ret (v:=.tuple #[.slice none 0 0,.agg #[.slice A9 s.cells.length c9,.slice B9 s.tin.length d9,.slice D9 s.tout.length e9,.int .i64 0,.int .i64 x]]) (by simp[results,Tryz.results66,go_sem,t0,t1,t2,t3,t4]) rfl ?_;rw[HX.out]
      exact⟨none,0,_,_,_,rfl,(dU.out.chg hch fun b hb=>by omega).lower (by omega),fun i hi=>absurd hi (by simp),Nat.le_refl _,(zka aC.out dh.out).trans (hch.below (zka aC.out dh.out).size fun b hb=>by omega),sK.out,fun h=>by first|(simp at h;done)|exact absurd h uY.out⟩
    ·right
     have bA:=HC.out;have il:=HU.out;have hcc:(l7=true->l6=true)/\(l8=true->l7=true):=⟨bA.1,bA.2.1⟩
     refine⟨f-1,?_,?_,?_⟩
     ·clear HC bA HU il ha aj hcc;subst hf;revert hall;revert l6 l7 l8 l9
      decide
     ·clear HC bA HU il ha aj hf;revert hall hcc;revert l6 l7 l8 l9
      decide +kernel
     intro i hi;have hcase:(i=6/\l6=false/\l7=false/\l8=false)\/(i=7/\l7=false/\l6=true/\l8=false)\/(i=8/\l8=false/\l6=true/\l7=true)\/(i=9/\l9=false):=by
      refine of_decide_eq_true ((List.all_eq_true (p:=fun i=>decide ((i=6/\l6=false/\l7=false/\l8=false)\/(i=7/\l7=false/\l6=true/\l8=false)\/(i=8/\l8=false/\l6=true/\l7=true)\/(i=9/\l9=false)))).1 ?_ i hi);clear HC bA HU il ha aj hf hi;revert hall hcc;revert l6 l7 l8 l9
      decide +kernel
     clear hi hall;subst ha hA;rcases hcase with⟨rfl,rfl,rfl,rfl⟩|⟨rfl,rfl,rfl,rfl⟩|⟨rfl,rfl,rfl,rfl⟩|⟨rfl,rfl⟩
     ·refine wpOp_step rfl (fun K' dK=>?_);have hK:=zh dK;clear dK;have hU1:=il.1 rfl;have wT:=il.2.1 rfl;have tL:=il.2.2.1 rfl;subst hU1 wT tL;(try simp only[zQ]);go_simp;have hsz:=aj.out.size;exact hK.out _ _ ⟨true,false,false,l9,_,undef,undef,v12,wr.heap.size,0,pb,(by subst hf;simp<;>omega),rfl,(by simp only[zQ]),zh (zkb aj.out _),zh ⟨fun h=>(by cases h),fun h=>(by cases h),fun _=>⟨rfl,heap_alloc_new wr _,hsz⟩,fun h=>(by cases h),fun h=>(by cases h),fun h=>⟨(bA.2.2.2.2.2 h).1,zkl (bA.2.2.2.2.2 h).2.1 _,(bA.2.2.2.2.2 h).2.2⟩⟩,zh ⟨fun h=>(by cases h),fun _=>rfl,fun _=>rfl,il.2.2.2⟩⟩
     ·refine wpOp_step rfl (fun K' dK=>?_);have hK:=zh dK;clear dK;have wT:=il.2.1 rfl;have tL:=il.2.2.1 rfl;obtain⟨hv6,he,hel⟩:=bA.2.2.1 rfl;subst wT tL hv6;have hbn:=bRun;(try simp only[zQ]);go_simp;exact hK.out _ _ ⟨true,true,false,l9,_,_,undef,v12,eb,0,pb,(by subst hf;simp<;>omega),rfl,(by simp only[zQ]),aj,zh ⟨fun _=>rfl,fun h=>(by cases h),fun _=>⟨rfl,he,hel⟩,fun _=>rfl,fun h=>(by cases h),bA.2.2.2.2.2⟩,zh ⟨fun h=>(by cases h),fun h=>(by cases h),fun _=>rfl,il.2.2.2⟩⟩
     ·refine wpOp_step rfl (fun K' dK=>?_);have hK:=zh dK;clear dK;have tL:=il.2.2.1 rfl;obtain⟨hv6,he,hel⟩:=bA.2.2.1 rfl;have hv7:=bA.2.2.2.1 rfl;subst tL hv6 hv7;(try simp only[zQ]);go_simp;have hsz:=aj.out.size;exact hK.out _ _ ⟨true,true,true,l9,_,_,_,v12,eb,wr.heap.size,pb,(by subst hf;simp<;>omega),rfl,(by simp only[zQ]),zh (zkb aj.out _),zh ⟨fun _=>rfl,fun _=>rfl,fun _=>⟨rfl,zkl he _,hel⟩,fun _=>rfl,fun _=>⟨rfl,heap_alloc_new wr _,hsz⟩,fun h=>⟨(bA.2.2.2.2.2 h).1,zkl (bA.2.2.2.2.2 h).2.1 _,(bA.2.2.2.2.2 h).2.2⟩⟩,zh ⟨fun h=>(by cases h),fun h=>(by cases h),fun h=>(by cases h),il.2.2.2⟩⟩
     ·refine wpOp_step rfl (fun K' dK=>?_);have hK:=zh dK;clear dK;have hU4:=il.2.2.2 rfl;subst hU4;(try simp only[zQ]);go_simp;have hsz:=aj.out.size;exact hK.out _ _ ⟨l6,l7,l8,true,v43,v44,v45,_,eb,rb,wr.heap.size,(by subst hf;simp<;>omega),rfl,(by simp only[zQ]),zh (zkb aj.out _),zh ⟨bA.1,bA.2.1,fun h=>⟨(bA.2.2.1 h).1,zkl (bA.2.2.1 h).2.1 _,(bA.2.2.1 h).2.2⟩,bA.2.2.2.1,fun h=>⟨(bA.2.2.2.2.1 h).1,zkl (bA.2.2.2.2.1 h).2.1 _,(bA.2.2.2.2.1 h).2.2⟩,fun _=>⟨rfl,heap_alloc_new wr _,hsz⟩⟩,zh ⟨il.1,il.2.1,il.2.2.1,fun h=>(by cases h)⟩⟩
  ·have HX:=zh (show Re=(s,0,3,[]) by rw[<-fH.out,resO,if_pos (.inr hn)]);obtain⟨n,hnn⟩:∃ n,chkN p=n:=⟨_,rfl⟩
   rw[hnn];have hng:(0:Int)<(n:Int):=by omega
   clear hn hnn;have dC:=zkd aD.out kU;have iG:=zkd ji.out kU;have s0:w6.cell? ⟨W.heap.size+1,0,none⟩=some (.slice A s.cells.length c):=zc dC rfl;have s1:w6.cell? ⟨W.heap.size+1,1,none⟩=some (.slice B s.tin.length d):=zc dC rfl;have s2:w6.cell? ⟨W.heap.size+1,2,none⟩=some (.slice D s.tout.length e):=zc dC rfl;have aI:=zh (dO.out w6 (zka aC.out kU));have eY:=zh iG;have hbq:=kU;clear dC iG;go_wp2_with fail;refine aI.out.mono ?_;rintro e9 w9 ⟨v9,rfl,dx,bJ⟩;obtain⟨A9,c9,B9,d9,D9,e9,rfl⟩:=dx.slices;have dU:=zh dx;have dh:=zh (zka hbq bJ);have aH:=zkd eY.out bJ;have x0:w9.cell? ⟨W.heap.size+3,0,none⟩=some (.slice none 0 0):=zc aH rfl;have x1:w9.cell? ⟨W.heap.size+3,1,none⟩=some (.slice none 0 0):=zc aH rfl;have x2:w9.cell? ⟨W.heap.size+3,2,none⟩=some (.slice none 0 0):=zc aH rfl;have x3:w9.cell? ⟨W.heap.size+3,3,none⟩=some (.int .i64 0):=zc aH rfl
   have x4:w9.cell? ⟨W.heap.size+3,4,none⟩=some (.int .i64 0):=zc aH rfl;have xf:∀ o,w9.frozen? ⟨W.heap.size+3,o,none⟩=false:=fun _=>zf aH;have iN:=zh aH;have hbr:=bRes;have oZ:W.heap.size+4<=w6.heap.size:=by have:=hbq.size;rw[iL.out] at this;exact this
   clear s0 s1 s2 aH dx bJ hbq aI;go_wp2_with fail;obtain⟨hh,hch⟩:=set5 (u0:=.slice A9 s.cells.length c9) (u1:=.slice B9 s.tin.length d9) (u2:=.slice D9 s.tout.length e9) (u3:=.int .i64 0) (u4:=.int .i64 3) iN.out;obtain⟨aQ,dw⟩:∃ zz,(((((w9.setCell ⟨W.heap.size+3,0,none⟩ (.slice A9 s.cells.length c9)).setCell ⟨W.heap.size+3,1,none⟩ (.slice B9 s.tin.length d9)).setCell ⟨W.heap.size+3,2,none⟩ (.slice D9 s.tout.length e9)).setCell ⟨W.heap.size+3,3,none⟩ (.int .i64 0)).setCell ⟨W.heap.size+3,4,none⟩ (.int .i64 3))=zz:=⟨_,rfl⟩
   rw[dw] at hh hch ⊢;have t0:aQ.cell? ⟨W.heap.size+3,0,none⟩=some (.slice A9 s.cells.length c9):=zc hh rfl;have t1:aQ.cell? ⟨W.heap.size+3,1,none⟩=some (.slice B9 s.tin.length d9):=zc hh rfl;have t2:aQ.cell? ⟨W.heap.size+3,2,none⟩=some (.slice D9 s.tout.length e9):=zc hh rfl;have t3:aQ.cell? ⟨W.heap.size+3,3,none⟩=some (.int .i64 0):=zc hh rfl;have t4:aQ.cell? ⟨W.heap.size+3,4,none⟩=some (.int .i64 3):=zc hh rfl;refine bodyPost_ret (v:=.tuple #[.slice none 0 0,.agg #[.slice A9 s.cells.length c9,.slice B9 s.tin.length d9,.slice D9 s.tout.length e9,.int .i64 0,.int .i64 3]]) (by simp[results,Tryz.results66,go_sem,t0,t1,t2,t3,t4]) rfl ?_;rw[HX.out]
   exact⟨none,0,_,_,_,rfl,(dU.out.chg hch fun b hb=>by omega).lower (by omega),fun i hi=>absurd hi (by simp),Nat.le_refl _,(zka aC.out dh.out).trans (hch.below (zka aC.out dh.out).size fun b hb=>by omega),sK.out,fun h=>by first|(simp at h;done)|exact absurd h uY.out⟩
def Fl (F':Int) (n:Nat) (o o':Out):Prop:=∀ r',o=.ok r'->n<=r'.n/\((r'.n:Int)<=F'\/r'.n=n->o'=.ok r')/\(F'<(r'.n:Int)->n<r'.n->o'=.err 18)
theorem Fl.bind {F':Int} {n:Nat} {o o':Out} {f f':RS->Out} (h:Fl F' n o o') (hf:∀ r,n<=r.n->Fl F' r.n (f r) (f' r)):Fl F' n (o.bind f) (o'.bind f'):=by
 intro r2 e
 cases o with
 | gas=>cases e
 | err x=>cases e
 | ok r1 =>
  obtain⟨h1,h2,h3⟩:=h r1 rfl;obtain⟨g1,g2,g3⟩:=hf r1 h1 r2 e;refine⟨by omega,fun hc=>?_,fun a b=>?_⟩
  ·rw[h2 (by omega)];exact g2 (by omega)
  ·by_cases hc:(r1.n:Int)<=F'\/r1.n=n
   ·rw[h2 hc];exact g3 a (by omega)
   ·rw[h3 (by omega) (by omega)];rfl
theorem Fl.err {F':Int} {n:Nat} {x:Int} {o':Out}:Fl F' n (.err x) o':=fun _ e=>by cases e
theorem Fl.gas {F':Int} {n:Nat} {o':Out}:Fl F' n .gas o':=fun _ e=>by cases e
theorem Fl.same {F':Int} {r:RS}:Fl F' r.n (.ok r) (.ok r):=fun r' e=>by
 injection e with e;subst e;exact⟨Nat.le_refl _,fun _=>rfl,fun _ h=>absurd h (Nat.lt_irrefl _)⟩
theorem Fl.step (F F':Int) (r:RS):Fl F' r.n (zkw F r) (zkw F' r):=fun r' e=>by
 obtain⟨rfl,-⟩:=zky e;refine⟨by simp only;omega,fun h=>?_,fun h _=>?_⟩
 ·unfold zkw;rw[if_neg (by simp only at h;omega)]
 ·unfold zkw;rw[if_pos (by simp only at h;omega)]
theorem Fl.store {F':Int} {r:RS} (R:Int×ST):Fl F' r.n (zkf r R) (zkf r R):=by
 unfold zkf
 split
 ·exact Fl.err
 ·intro r' e;injection e with e;subst e;exact⟨Nat.le_refl _,fun _=>rfl,fun _ h=>absurd h (Nat.lt_irrefl _)⟩
theorem Fl.val {F':Int} {n:Nat} {t:T} {r:RS} {f f':Int->RS->Out} (h:∀ x,Fl F' n (f x r) (f' x r)):Fl F' n (valO t r f) (valO t r f'):=by
 unfold valO
 split
 ·exact Fl.err
 ·exact h _
theorem Fl.holds {F F':Int} {t:T} {r:RS} {f f':Bool->RS->Out} (h:∀ b r1,r.n<=r1.n->Fl F' r1.n (f b r1) (f' b r1)):Fl F' r.n (zk0 F t r f) (zk0 F' t r f'):=by
 unfold zk0;exact(Fl.step F F' r).bind fun r1 h1=>Fl.val fun x=>h _ _ h1
theorem Fl.assert {F F':Int} {t:T} {b:Bool} {r:RS}:Fl F' r.n (zkn F t b r) (zkn F' t b r):=by
 unfold zkn;refine Fl.holds fun b1 r1 _=>?_
 split
 ·exact Fl.same
 ·exact Fl.err
theorem Fl.body {F':Int} {f f':T->RS->Out}:∀ (l:List T) (r:RS),(∀ t∈l,∀ r',Fl F' r'.n (f t r') (f' t r'))->Fl F' r.n (zkp f l r) (zkp f' l r)
 | [],r,_=>Fl.same
 | t::ts,r,h=>by
  rw[zkp,zkp];exact(h t (List.mem_cons_self ..) r).bind fun r1 _=>Fl.body ts r1 fun u hu r'=>h u (List.mem_cons_of_mem _ hu) r'
theorem Fl.loop {F F':Int} {f f':T->RS->Out} {entry test:T} {l1 l2:List T} (h1:∀ t∈l1,∀ r',Fl F' r'.n (f t r') (f' t r')) (h2:∀ t∈l2,∀ r',Fl F' r'.n (f t r') (f' t r')):∀ (m:Nat) (r:RS),Fl F' r.n (zk9 F f entry test l1 l2 m r) (zk9 F' f' entry test l1 l2 m r)
 | 0,r=>Fl.gas
 | m+1,r=>by
  rw[zk9,zk9];refine(Fl.body l1 r h1).bind fun r1 _=>Fl.holds fun b r2 _=>?_
  split
  ·exact Fl.same
  ·exact(Fl.body l2 r2 h2).bind fun r3 _=>Fl.assert.bind fun r4 _=>Fl.loop h1 h2 m r4
theorem znt {prs:List PR} {F F':Int}:∀ (g:Nat) (back:Bool) (t:T) (r:RS),Fl F' r.n (zkk prs F g back t r) (zkk prs F' g back t r)
 | 0,_,_,_=>Fl.gas
 | g+1,back,t,r=>by
  have hb:∀ back (l:List T) r1,Fl F' r1.n (zkp (zkk prs F g back) l r1) (zkp (zkk prs F' g back) l r1):=fun back l r1=>Fl.body l r1 fun u _ r'=>znt g back u r';rw[zkk,zkk]
  split
  ·exact Fl.holds fun yes r1 _=>(hb _ _ r1).bind fun r2 _=>Fl.assert
  ·split
   ·exact Fl.assert.bind fun r1 _=>Fl.loop (fun u _ r'=>znt g back u r') (fun u _ r'=>znt g back u r') g r1
   ·split
    ·refine(Fl.step F F' r).bind fun r1 _=>Fl.val fun x=>(Fl.store _).bind fun r2 _=>(hb _ _ r2).bind fun r3 _=>(Fl.step F F' r3).bind fun r4 _=>Fl.val fun x=>Fl.store _
    ·split
     ·exact(Fl.step F F' r).bind fun r1 _=>(Fl.store _).bind fun r2 _=>(hb _ _ r2).bind fun r3 _=>(Fl.step F F' r3).bind fun r4 _=>Fl.store _
     ·split
      ·split
       ·exact Fl.err
       ·exact(Fl.step F F' r).bind fun r1 _=>(Fl.store _).bind fun r2 _=>Fl.bind (hb _ _ { r2 with ent:=_ }) fun r3 _=>(Fl.step F F' r3).bind fun r4 _=>Fl.store _
      ·exact(Fl.step F F' r).bind fun r1 _=>Fl.store _
theorem zpl {prs:List PR} {F F':Int} (g:Nat) (back:Bool) (b:T) (r:RS):Fl F' r.n (runO prs F g back b r) (runO prs F' g back b r):=Fl.body _ _ fun u _ r'=>znt g back u r'
theorem zvi {p:PG} {s:SS} {F:Int} {g:Nat} {back:Bool} (hg:F.toNat*2000+2000<=g) (h:(resO p s F g back).2.2.1=0) :
  zkE p=true/\chkN p=0/\fitB p.vs s=true/\∃ r,runO p.prs F g back p.m ⟨newS p.vs s,0,List.replicate p.prs.length 0⟩=.ok r/\resO p s F g back=(r.S.state,r.n,0,r.ent):=by
 unfold resO at h ⊢
 split at h
 ·simp at h
 ·rename_i h1;rw[if_neg h1];simp only[not_or,Bool.not_eq_false,Decidable.not_not] at h1
  split at h
  ·simp at h
  ·rename_i h2;rw[if_neg h2];simp only[Bool.not_eq_false] at h2;refine⟨h1.1,by simpa using h1.2,h2,?_⟩;have hz:Nz (runO p.prs F g back p.m ⟨newS p.vs s,0,List.replicate p.prs.length 0⟩):=zvd zs9 (zs8 h1.1 (by simpa using h1.2));have hg0:=(ztj (F:=F) (g:=g) h1.1 hg back (newS p.vs s) (List.replicate p.prs.length 0)).1
   cases ho:runO p.prs F g back p.m ⟨newS p.vs s,0,List.replicate p.prs.length 0⟩ with
   | gas=>exact absurd ho hg0
   | err e =>
    rw[ho] at h hz;simp only[outR] at h;rw[h] at hz;exact absurd rfl hz
   | ok r=>exact⟨r,rfl,rfl⟩
theorem zqN {p:PG} {s:SS} {F:Int} {g:Nat} {back:Bool} (h1:zkE p=true) (h2:chkN p=0) (h3:fitB p.vs s=true) :
  resO p s F g back=outR s (runO p.prs F g back p.m ⟨newS p.vs s,0,List.replicate p.prs.length 0⟩):=by
 unfold resO;rw[if_neg (by rw[h1,h2];simp),if_neg (by rw[h3];simp)]
theorem ztJ {p:PG} {s:SS} {F:Int} {g:Nat} {back:Bool} (hg:F.toNat*2000+2000<=g) (h:(resO p s F g back).2.2.1=0) :
  ((resO p s F g back).2.1:Int)<=max F 0/\(∀ F':Int,((resO p s F g back).2.1:Int)<=F'->resO p s F' g back=resO p s F g back) /\
   ∀ F':Int,F'<((resO p s F g back).2.1:Int)->0<(resO p s F g back).2.1->(resO p s F' g back).2.2.1=18:=by
 obtain⟨h1,h2,h3,r,hr,he⟩:=zvi hg h;rw[he];simp only;have key:=fun F'=>zpl (prs:=p.prs) (F:=F) (F':=F') g back p.m ⟨newS p.vs s,0,List.replicate p.prs.length 0⟩ r hr;refine⟨?_,fun F' hF=>?_,fun F' hF h0=>?_⟩
 ·rcases Int.lt_or_le (max F 0) (r.n:Int) with hlt|hle
  ·have:=(key F).2.2 (by omega) (by simp only;omega);rw[hr] at this
   cases this
  ·exact hle
 ·rw[zqN h1 h2 h3,(key F').2.1 (.inl hF)];rfl
 ·rw[zqN h1 h2 h3,(key F').2.2 hF h0];rfl
theorem ztX {prs:List PR} {k:Int} {s:ByteArray} {vs:List VD} (hi:∀ i,zlz k s i vs=vs):∀ {ks:List T} {i:Nat},cntK prs k s i ks vs=0->∀ t∈ks,cntV prs t vs=0
 | [],_,_,t,ht=>by cases ht
 | u::us,i,h,t,ht=>by
  rw[cntK] at h;obtain⟨h1,h2⟩:=Nat.add_eq_zero_iff.1 h;rcases List.mem_cons.1 ht with rfl|ht
  ·rw[hi] at h1;exact h1
  ·exact ztX hi h2 t ht
theorem zqw {s s':ByteArray} (h:s.toList=s'.toList):∀ vs:List VD,zlj vs s=zlj vs s'
 | []=>rfl
 | v::vs=>by
  simp only[zlj];rw[zqw h vs,h]
theorem zpb {vs:List VD} {s:ByteArray} {k:Int} (h:zlj vs s=none):useE vs s k≠0:=by
 unfold useE;rw[h]
 show(6:Int)≠0
 decide
theorem ztf:∀ {l:List Nat},l.sum=0->∀ x∈l,x=0
 | a::l,h,x,hx=>by
  rw[List.sum_cons] at h;obtain⟨h1,h2⟩:=Nat.add_eq_zero_iff.1 h;rcases List.mem_cons.1 hx with rfl|hx
  ·exact h1
  ·exact ztf h2 x hx
theorem zy8 {prs:List PR} {vs:List VD} {nm:ByteArray} (hn:zlj vs nm=none):∀ t,isE t=true->cntV prs t vs=0->menB t nm=false:=by
 intro t
 induction t using T.ind with
 | _ k n s ks ih =>
  intro he h;have hk:=zrM _ he;simp only[T.k_nd] at hk;rw[cntV] at h;have h50:¬ (k=50\/k=51):=by omega
  rw[if_neg h50] at h;obtain⟨h1,h2⟩:=Nat.add_eq_zero_iff.1 h;have hkids:=ztX (fun i=>by unfold zlz;rw[if_neg (by omega),if_neg (by omega)]) h2;rw[menB,po,List.any_cons,Bool.or_eq_false_iff];refine⟨?_,?_⟩
  ·unfold zmx;simp only[T.k_nd,T.s_nd,Bool.and_eq_false_iff];by_cases hs:s.toList=nm.toList
   ·left
    have hf:zlj vs s=none:=(zqw hs vs).trans hn;have h0:=zpq h1;unfold zld at h0;by_cases e2:k=2
    ·rw[if_pos e2] at h0;exact absurd h0 (zpb hf)
    by_cases e3:k=3
    ·rw[if_neg e2,if_pos e3] at h0;exact absurd h0 (zpb hf)
    by_cases e4:k=4\/k=5
    ·rw[if_neg e2,if_neg e3,if_pos (by omega)] at h0;exact absurd h0 (zpb hf)
    simp only[Bool.or_eq_false_iff,beq_eq_false_iff_ne];omega
   ·right
    simpa using hs
  ·rw[List.any_eq_false];intro u hu;obtain⟨t,ht,hx⟩:=zk8.1 hu;have:=ih t ht (zoX he t ht) (hkids t ht);rw[menB,List.any_eq_false] at this;exact this u hx
def LocN (u:T):Prop:=u.k=54->menB (kid u 0) u.s=false/\menB (kid u 2) u.s=false
theorem zqW {t:T} (h:isE t=true):∀ u∈po t,LocN u:=fun u hu hk=>by
 have:=zrM u (zvQ t h u hu);omega
theorem zy9:∀ (t:T) (prs:List PR) (vs:List VD),(isS t=true\/isB t=true\/isE t=true)->cntV prs t vs=0->∀ u∈po t,LocN u:=by
 intro t
 induction t using T.ind with
 | _ k n s ks ih =>
  intro prs vs ht h u hu;rcases ht with hs|hb|he
  ·rw[cntV] at h;obtain⟨h1,h2⟩:=Nat.add_eq_zero_iff.1 h;simp only[po,List.mem_cons] at hu;rcases hu with rfl|hu
   ·intro bu;simp only[T.k_nd] at bu;rcases zlb hs with⟨h9,_⟩|⟨h9,_⟩|⟨_,_,a,b,c,rfl,ha,hb,hc⟩|⟨h9,_⟩
    ·omega
    ·omega
    ·have hf:zlj vs s=none:=by
      have h0:=zpq h1;unfold zld at h0;rw[if_neg (by omega),if_neg (by omega),if_neg (by omega),if_pos (by omega)] at h0;unfold zmR at h0
      cases hv:zlj vs s with
      | none=>rfl
      | some v=>rw[hv] at h0;simp at h0
     rw[if_neg (by omega)] at h2;simp only[cntK] at h2;have e0:zlz k s 0 vs=vs:=by unfold zlz;rw[if_neg (by omega),if_neg (by omega)]
     have e2:zlz k s (0+1+1) vs=vs:=by unfold zlz;rw[if_neg (by omega),if_neg (by omega)]
     rw[e0,e2] at h2;exact⟨zy8 (prs:=prs) hf a ha (by omega),zy8 (prs:=prs) hf c hc (by omega)⟩
    ·omega
   ·obtain⟨t,ht,hx⟩:=zk8.1 hu;by_cases hc:k=50\/k=51
    ·have h57:t.k≠57:=by
      rcases zlb hs with⟨_,h1⟩|⟨h1,_⟩|⟨h1,_⟩|⟨h1,_⟩
      ·exact h1 t ht
      all_goals omega
     rcases(zoK hs).2 t ht with h1|h1
     ·exact zqW h1 u hx
     ·exact absurd (zuu h1) h57
    ·rw[if_neg hc] at h2;obtain⟨vs',hv⟩:=znf h2 t ht;rcases(zoK hs).2 t ht with h1|h1
     ·exact zqW h1 u hx
     ·exact ih t ht prs vs' (.inr (.inl h1)) hv u hx
  ·obtain⟨h57,hks⟩:=zob _ _ _ _ hb;rw[cntV,if_neg (by omega)] at h;simp only[po,List.mem_cons] at hu;rcases hu with rfl|hu
   ·intro bu;simp only[T.k_nd] at bu;omega
   ·obtain⟨t,ht,hx⟩:=zk8.1 hu;obtain⟨vs',hv⟩:=znf (Nat.add_eq_zero_iff.1 h).2 t ht;exact ih t ht prs vs' (.inl (hks t ht)) hv u hx
  ·exact zqW he u hu
theorem zrv {l:List T} (h:rejN l=0):∀ x∈l,rejE x=0:=by
 intro x hx;unfold rejN at h;have:=List.filter_eq_nil_iff.1 (List.length_eq_zero_iff.1 h) x hx;simpa using this
theorem zpr {p:PG} (h:okB p=true):zkE p=true/\chkN p=0/\rjT p=0:=by
 unfold okB at h;simp only[Bool.and_eq_true,decide_eq_true_eq] at h;exact⟨h.1.1,h.1.2,h.2⟩
theorem zyQ {p:PG} (h:okB p=true):∀ u∈p.m.ks,RvT p.prs u:=by
 obtain⟨hv,hc,hr⟩:=zpr h;obtain⟨hb,hbs⟩:=zo8 hv;unfold rjT at hr;have hm:∀ u∈po p.m,OkN u:=fun u hu=>⟨zrv (by omega) u hu,zy9 p.m p.prs p.vs (.inr (.inl hb)) (by unfold chkN at hc;omega) u hu⟩
 have hq:∀ q∈p.prs,∀ u∈po q.b,OkN u:=fun q hq u hu=>by
  refine⟨?_,?_⟩
  ·have h0:rjP p.prs=0:=by omega
   unfold rjP at h0;have:=ztf h0 (rejN (po q.b)) (List.mem_map.2 ⟨q,hq,rfl⟩);exact zrv this u hu
  ·obtain⟨i,hi,rfl⟩:=List.getElem_of_mem hq;have:=zpm (Nat.le_refl _) (show prcN p.prs p.prs.length=0 by unfold chkN at hc;omega) i hi hi;unfold prcE at this;exact zy9 p.prs[i].b p.prs p.prs[i].ps (.inr (.inl (hbs _ hq))) (by omega) u hu
 exact fun u hu=>⟨zs8 hv hc u hu,fun w hw=>hm w (zxG hu w hw),hq⟩
section
variable {vs:List VD} {s:SS} {r':RS} {e:List Nat}
theorem zu7 (hv:vs.length<=1000) (h0:fitB vs s=true) (hf:∀ v∈vs,FldV v) (hI:s.I):RInv ⟨newS vs s,0,e⟩/\NdS (newS vs s):=by
 have hw:=zsF h0 hf hI.1 hI.2.1 hI.2.2 vs.length (Nat.le_refl _);rw[List.take_of_length_le (Nat.le_refl _)] at hw;refine⟨⟨hw,⟨by show vs.length<=1000+0;omega,fun f hf=>by cases hf⟩,Nat.zero_le _⟩,⟨List.nodup_range,fun f hf=>by cases hf⟩⟩
end
theorem PV.lit {p:PG} {w:World} {S:Nat->Prop} {v:Value} (h:PV w S p v) (hv:zkE p=true):LitB p.m/\PrB p.prs/\∀ u∈p.vs,FldV u:=by
 obtain⟨A1,c1,A2,c2,A3,c3,-,jL⟩:=h;obtain⟨-,-,h3,-⟩:=zlX hv;refine⟨NV.lit _ _ jL.main,fun q hq=>?_,fun u hu=>?_⟩
 ·have hb:=(h3 q hq).1;obtain⟨i,hi,rfl⟩:=List.getElem_of_mem hq;obtain⟨a,B1,d1,B2,d2,-,-,-,hr⟩:=jL.procs i hi;refine⟨NV.lit _ _ hr.body,fun v hv=>?_,by omega⟩;obtain⟨j,hj,rfl⟩:=List.getElem_of_mem hv;obtain⟨-,-,-,-,hf⟩:=hr.row j hj;exact hf
 ·obtain⟨j,hj,rfl⟩:=List.getElem_of_mem hu;obtain⟨-,-,-,-,hf⟩:=jL.vars j hj;exact hf
theorem SV.nums {s:SS} {w:World} {S:Nat->Prop} {v:Value} (h:SV w S s v):s.I:=by
 obtain⟨A,c,B,d,D,e,-,hr,hi,ho,-⟩:=h;have key:∀ {A:Option Addr} {xs:List Int},RowI w S A xs->∀ x∈xs,I64 x:=fun hr x hx=>by
  obtain⟨i,hi,rfl⟩:=List.getElem_of_mem hx;obtain⟨_,_,_,_,h⟩:=hr i hi;exact h
 refine⟨fun l hl=>?_,key hi,key ho⟩;obtain⟨i,hi,rfl⟩:=List.getElem_of_mem hl;obtain⟨_,_,_,_,_,_,_,h⟩:=hr i hi;exact key h
end Go.Proofs.YtckhofdinldhpaaGreat
namespace Go.Proofs.YtckhofdinldhpaaGreat
open Go.RowKit
def zrb (ts L:List T) (j:Nat):Prop:=L.length=ts.length/\∀ q (h:q<L.length) (h1:q<ts.length) (h2:ts.length-1-q<ts.length),L[q]=if q<j\/ts.length-j<=q then ts[ts.length-1-q] else ts[q]
theorem zrb.zero (ts:List T):zrb ts ts 0:=⟨rfl,fun q h h1 h2=>by rw[if_neg (by omega)]⟩
theorem zrb.done {ts L:List T} {j:Nat} (h:zrb ts L j) (hj:ts.length<=j+j+1):L=ts.reverse:=by
 refine List.ext_getElem (by simp[h.1]) fun q hq hq'=>?_;have h1:q<ts.length:=by simpa using hq'
 rw[h.2 q hq h1 (by omega),List.getElem_reverse]
 split
 ·rfl
 ·have e:ts.length-1-q=q:=by omega
  simp only[e]
theorem zrb.swap {ts L:List T} {j m:Nat} (h:zrb ts L j) (hm:m+j+1=ts.length) (hjm:j<m) (hj:j<L.length) (pz:m<L.length):zrb ts ((L.set j L[m]).set m L[j]) (j+1):=by
 refine⟨by simp[h.1],fun q hq h1 h2=>?_⟩;have hl:=h.1;rw[List.getElem_set]
 split
 ·rename_i e;subst e;rw[h.2 j hj (by omega) (by omega),if_neg (by omega),if_pos (by omega)];have e:ts.length-1-m=j:=by omega
  simp only[e]
 ·rw[List.getElem_set]
  split
  ·rename_i e;subst e;rw[h.2 m pz (by omega) (by omega),if_neg (by omega),if_pos (by omega)];have e:ts.length-1-j=m:=by omega
   simp only[e]
  ·rw[h.2 q (by omega) h1 h2]
   split
   ·rw[if_pos (by omega)]
   ·rw[if_neg (by omega)]
theorem zs4 (w:World) (base:Nat) (S:Nat->Prop) (g l cap:Nat) (ts:List T) (hown:OwnN w base 29 S (.slice (some ⟨g,0,none⟩) l cap) ts) :
  Calls Tryz.prog 160 #[.slice (some ⟨g,0,none⟩) l cap] w fun e w'=>e=.returned (.tuple #[])/\OwnN w' base 29 S (.slice (some ⟨g,0,none⟩) l cap) ts.reverse/\w.grownBy w' (some g):=by
 have hlk:=zkx hown.lk;obtain⟨hl,hcap,_,_⟩:=hown.len;have HL:=zh hl;have hl':l<=2513169434916:=by omega
 clear hl hlk;go_enter Tryz.func160,Tryz.ntmps160;go_wp2
 go_loopw [2,3] (fun i k wr=>∃ (j:Nat) (L:List T),j<=l/\i=.int .i64 j/\k=.int .i64 ((l:Int)-1-j)/\Hid (zrb ts L j)/\OwnN wr base 29 S (.slice (some ⟨g,0,none⟩) l cap) L/\w.grownBy wr (some g)) (fun i _ _=>l-(intOf i).toNat)
 case atStart=>exact⟨0,ts,Nat.zero_le _,rfl,by simp,zrb.zero ts,hown,zlZ _ _⟩
 case round =>
  obtain⟨j,L,hjl,rfl,rfl,HR,ho,hg⟩:=hrel;clear hown;by_cases hlt:(j:Int)<(l:Int)-1-j
  ·obtain⟨m,hm⟩:∃ m:Nat,m+j+1=l:=⟨l-1-j,by omega⟩
   have hp:(l:Int)-1-j=(m:Int):=by omega
   have hm1:m<l:=by omega
   have hj1:j<m:=by omega
   have hj:j<l:=by omega
   have i1:(0:Int)<=(j:Int):=by omega
   have i2:(j:Int)<(l:Int):=by omega
   have i3:(m:Int)<(l:Int):=by omega
   have i4:(0:Int)<=(m:Int):=by omega
   have mE:m<L.length:=by rw[ho.len.1];exact hm1
   have mF:j<L.length:=by rw[ho.len.1];exact hj
   obtain⟨t1,A1,c1,H1,a0,a1,a2,a3,hn1⟩:=ho.nd mE;obtain⟨t2,A2,c2,H2,b0,b1,b2,b3,hn2⟩:=ho.nd mF;have fz:=ho.frozen;rw[hp] at *
   have HM:=zh hm;clear hm hlt hp;go_wp2_with fail
   go_region
   go_wp2_with fail;have hw1:=ho.set4 mF hn1;have hk:∀ b,S b/\some b≠some g->b<wr.heap.size->((((wr.setCell ⟨g,j*4,none⟩ (.int .u8 t1.k)).setCell ⟨g,j*4+1,none⟩ (.int .i64 t1.n)).setCell ⟨g,j*4+2,none⟩ (.string t1.s)).setCell ⟨g,j*4+3,none⟩ (.slice A1 t1.ks.length c1)).heap[b]?=wr.heap[b]?:=by
    intro b hb _;have hne:b≠g:=fun e=>hb.2 (by rw[e]);rw[Below.heap_setCell _ _ _ _ hne,Below.heap_setCell _ _ _ _ hne,Below.heap_setCell _ _ _ _ hne,Below.heap_setCell _ _ _ _ hne]
   have hw2:=hw1.set4 (i:=m) (by simpa using mE) (hn2.keep (fun _ h _=>h) hk);have hsw:=HR.out.swap (m:=m) (by rw[HL.out];exact HM.out) hj1 mF mE;rw[H1.out,H2.out] at hsw
   go_roundw
   case rel=>exact⟨j+1,_,by omega,by go_num,by have:=HM.out;congr 1;omega,hsw,hw2.drew,zvv (zlu (zlu (zlu (zlu (zlu (zlu (zlu (zlu hg rfl _) rfl _) rfl _) rfl _) rfl _) rfl _) rfl _) rfl _)⟩
   case measure=>simp[intOf];omega
  ·go_wp2_with fail;go_end0;have e:L=ts.reverse:=HR.out.done (by rw[HL.out];omega);exact⟨rfl,by rw[<-e];exact ho,hg⟩
theorem zmP (k:Int) (w:World):Calls Tryz.prog 161 #[.int .u8 k] w fun e w'=>e=.returned (.int .u8 (exch k))/\w=w':=by
 go_enter Tryz.func161,Tryz.ntmps161;go_wp2
 all_goals (go_ret;exact⟨by simp_all [exch],rfl⟩)
theorem zLa (k n:Int) (s:ByteArray) (A:Option Addr) (l c:Nat) (w:World):(Instr.build 29 #[(0,.int .u8 k),(1,.int .i64 n),(2,.string s),(3,.slice A l c)]).run Tryz.prog w=.ok (nv k n s A l c) w:=by kernel_rfl
theorem zqm (keep:Bool) (t:T):∀ (v:Value) (w:World),NV w Any t v->okT t->Calls Tryz.prog 127 #[v,.bool keep] w (znV w (inv keep t)):=by
 obtain⟨i0,hi0,hz0,hz1,hz2⟩:=info_parts zn7
 induction t using T.ind with
 | _ k n s ks ih =>
 intro v w hv hok;obtain⟨A,c,rfl,hf,hlk,hlc,hrow⟩:=hv.open_;simp only[T.k_nd,T.n_nd,T.s_nd,T.ks_nd] at *
 have ak:=zkx hlk;have hmk:=fun W=>zmG (P:=Tryz.prog) 27 29 i0 _ Tryz.underlying27 hi0 hz0 .i64 .i64 ks.length ks.length (Nat.le_refl _) (by rw[hz2];omega) (by omega) W;rw[hz1] at hmk;have hb4:=zLa;have IH:=zh ih;have ll:=zh hok;clear hv ih hok;go_enter Tryz.func127,Tryz.ntmps127;go_upto_region 1 with fail
 go_cut [5] (fun s5 wx=>∃ gm gr:Nat,s5=.pointer (some ⟨gm,0,none⟩)/\zls w wx 29 k n s A ks.length c k gm gr (List.replicate ks.length zeroT))
 case first =>
  go_region
  ·go_wp2_with fail
   go_meet
   exact⟨_,_,rfl,zls.start1 w _ k n s A _ c hlk⟩
  ·go_wp2_with fail
   go_meet
   exact⟨_,_,rfl,zls.start2 w _ k n s A _ c hlk⟩
 case rest =>
  obtain⟨gm,gr,rfl,hst⟩:=hcut;have p8:wc.cell? ⟨w.heap.size,3,none⟩=some (.slice A ks.length c):=zc hst.arg rfl;clear hmk hb4;go_wp2_with fail
  go_loopw [23] (fun i wr=>∃ j:Nat,j<=ks.length/\i=.int .i64 j/\zls w wr 29 k n s A ks.length c k gm gr (znd (invK keep (k==57)) ks j)) (fun i _=>ks.length-(intOf i).toNat)
  case atStart=>exact⟨0,Nat.zero_le _,rfl,by rw[zsP];exact hst⟩
  case round =>
   obtain⟨j,hj,rfl,hs⟩:=hrel;clear hst p8;by_cases hlt:j<ks.length
   ·obtain⟨a,t,A1,c1,rfl,_,Ht,⟨q0,q1,q2,q3⟩,hn⟩:=(hrow.later hs.below).nd hlt;have hokt:k=57\/t.k=57->okT t:=fun h=>by
     have:=zzN k n s ks ll.out ks[j] (List.getElem_mem hlt);rw[Ht.out] at this;exact this h
    have HKT:=zh hokt;have ih1:=IH.out ks[j] (List.getElem_mem hlt);rw[Ht.out] at ih1;have IH1:=zh ih1;have a0:wr.cell? ⟨w.heap.size,0,none⟩=some (.int .u8 k):=zc hs.arg rfl;have g3:wr.cell? ⟨gm,3,none⟩=some (.slice (some ⟨gr,0,none⟩) ks.length ks.length):=zc hs.box rfl;have a0':=zke a0;have hgm:=zki hs.box;have hgr:=hs.grlo;have hlo:=hs.lo;have hne1:gm≠gr:=hs.ne;have hne2:wr.heap.size≠gr:=by omega
    have hne3:wr.heap.size≠gm:=by omega
    have mF:j<(znd (invK keep (k==57)) ks j).length:=by rw[zuz _ _ _ hj];exact hlt
    have i1:(0:Int)<=(j:Int):=by omega
    have i2:(j:Int)<(ks.length:Int):=by omega
    have hsz:=hs.size;clear ih1 hokt hrow;by_cases hB:k=57\/t.k=57
    ·have HK:=zh (show invK keep (k==57) t=inv keep t by unfold invK;rw[if_pos];rcases hB with h|h<;>simp[h]);have HB:=zh hB;rcases Bool.eq_false_or_eq_true (k==57) with hk1|hk1
     all_goals
      have hk2:((k==57)||(t.k==57))=true:=by rcases hB with h|h<;>simp[h]
      simp only[hk1,Bool.true_or,Bool.false_or] at hk2;clear hB;have HS:∀ w',Below (wr.heap.size+1) (wr.alloc (.cells #[.int .u8 t.k,.int .i64 t.n,.string t.s,.slice A1 t.ks.length c1] 29)) w'->(w'.cell? ⟨gm,3,none⟩=some (.slice (some ⟨gr,0,none⟩) ks.length ks.length)/\w'.cell? ⟨wr.heap.size,0,none⟩=some (.int .u8 t.k)/\w'.cell? ⟨wr.heap.size,1,none⟩=some (.int .i64 t.n)/\w'.cell? ⟨wr.heap.size,2,none⟩=some (.string t.s)/\w'.cell? ⟨wr.heap.size,3,none⟩=some (.slice A1 t.ks.length c1)):=by
       intro w' h;refine⟨(h.cell (p:=⟨gm,3,none⟩) (by simp;omega)).trans (zke g3 _),?_,?_,?_,?_⟩
       ·exact(h.cell (p:=⟨wr.heap.size,0,none⟩) (by simp)).trans (by simp)
       ·exact(h.cell (p:=⟨wr.heap.size,1,none⟩) (by simp)).trans (by simp)
       ·exact(h.cell (p:=⟨wr.heap.size,2,none⟩) (by simp)).trans (by simp)
       ·exact(h.cell (p:=⟨wr.heap.size,3,none⟩) (by simp)).trans (by simp)
      have bG:=zh HS;clear HS;go_wp2_with fail
      go_region_held3 (fun w'=>(w'.cell? ⟨gm,3,none⟩=some (.slice (some ⟨gr,0,none⟩) ks.length ks.length)/\w'.cell? ⟨wr.heap.size,0,none⟩=some (.int .u8 t.k)/\w'.cell? ⟨wr.heap.size,1,none⟩=some (.int .i64 t.n)/\w'.cell? ⟨wr.heap.size,2,none⟩=some (.string t.s)/\w'.cell? ⟨wr.heap.size,3,none⟩=some (.slice A1 t.ks.length c1)))
       (first|exact bG.out _ (Below.refl _ _).drew|exact bG.out _ ((Below.refl _ _).drew.trans (hb1.mono (by simp)))|(have hx:=bG.out _ ((Below.refl _ _).drew.trans (hb1.mono (by simp)));exact⟨zlW hne1 hx.1,zlW hne2 hx.2.1,zlW hne2 hx.2.2.1,zlW hne2 hx.2.2.2.1,zlW hne2 hx.2.2.2.2⟩))
       (first|(go_at_call 127;refine(IH1.out _ _ (hn.later ((Below.refl _ _).alloc (Nat.le_refl _) _).drew) (HKT.out HB.out)).mono ?_;rintro e w1 ⟨k1,n1,s1,A2,l1,c2,rfl,hn1,hb1⟩;have hs1:=hs.later (((Below.refl _ _).alloc (Nat.le_refl _) _).drew.trans (hb1.mono (by simp)));obtain⟨t0,A0,c0,_,z0,z1,z2,z3,_⟩:=hs1.own.nd mF;have fz:=hs1.own.frozen))
      rename_i gP;clear gP;go_wp2_with fail
      go_roundw
      case rel =>
       refine⟨j+1,by omega,by go_num,?_⟩;rw[<-zqy _ _ _ hlt,Ht.out,HK.out];refine hs1.store mF (hn1.mono fun b hb=>?_);have hb':wr.heap.size+1<=b:=by simpa using hb
       exact⟨⟨by omega,by omega⟩,fun e=>by injection e with e;omega⟩
      case measure=>simp[intOf];omega
    ·have hk1:(k==57)=false:=by simp;omega
     have hk2:(t.k==57)=false:=by simp;omega
     have HK:=zh (show invK keep (k==57) t=t by unfold invK;rw[if_neg];simp[hk1,hk2]);clear hB;have HS:∀ w',Below (wr.heap.size+1) (wr.alloc (.cells #[.int .u8 t.k,.int .i64 t.n,.string t.s,.slice A1 t.ks.length c1] 29)) w'->(w'.cell? ⟨gm,3,none⟩=some (.slice (some ⟨gr,0,none⟩) ks.length ks.length)/\w'.cell? ⟨wr.heap.size,0,none⟩=some (.int .u8 t.k)/\w'.cell? ⟨wr.heap.size,1,none⟩=some (.int .i64 t.n)/\w'.cell? ⟨wr.heap.size,2,none⟩=some (.string t.s)/\w'.cell? ⟨wr.heap.size,3,none⟩=some (.slice A1 t.ks.length c1)):=by
      intro w' h;refine⟨(h.cell (p:=⟨gm,3,none⟩) (by simp;omega)).trans (zke g3 _),?_,?_,?_,?_⟩
      ·exact(h.cell (p:=⟨wr.heap.size,0,none⟩) (by simp)).trans (by simp)
      ·exact(h.cell (p:=⟨wr.heap.size,1,none⟩) (by simp)).trans (by simp)
      ·exact(h.cell (p:=⟨wr.heap.size,2,none⟩) (by simp)).trans (by simp)
      ·exact(h.cell (p:=⟨wr.heap.size,3,none⟩) (by simp)).trans (by simp)
     have bG:=zh HS;clear HS;go_wp2_with fail
     go_region_held3 (fun w'=>(w'.cell? ⟨gm,3,none⟩=some (.slice (some ⟨gr,0,none⟩) ks.length ks.length)/\w'.cell? ⟨wr.heap.size,0,none⟩=some (.int .u8 t.k)/\w'.cell? ⟨wr.heap.size,1,none⟩=some (.int .i64 t.n)/\w'.cell? ⟨wr.heap.size,2,none⟩=some (.string t.s)/\w'.cell? ⟨wr.heap.size,3,none⟩=some (.slice A1 t.ks.length c1)))
      (first|exact bG.out _ (Below.refl _ _).drew|exact bG.out _ ((Below.refl _ _).drew.trans (hb1.mono (by simp)))|(have hx:=bG.out _ ((Below.refl _ _).drew.trans (hb1.mono (by simp)));exact⟨zlW hne1 hx.1,zlW hne2 hx.2.1,zlW hne2 hx.2.2.1,zlW hne2 hx.2.2.2.1,zlW hne2 hx.2.2.2.2⟩))
      (first|(go_at_call 76;refine(zmE t _ _ (hn.later ((Below.refl _ _).alloc (Nat.le_refl _) _).drew)).mono ?_;rintro e w1 ⟨k1,n1,s1,A2,l1,c2,rfl,hn1,hb1⟩;have hs1:=hs.later (((Below.refl _ _).alloc (Nat.le_refl _) _).drew.trans (hb1.mono (by simp)));obtain⟨t0,A0,c0,_,z0,z1,z2,z3,_⟩:=hs1.own.nd mF;have fz:=hs1.own.frozen))
     rename_i gP;clear gP;go_wp2_with fail
     go_roundw
     case rel =>
      refine⟨j+1,by omega,by go_num,?_⟩;rw[<-zqy _ _ _ hlt,Ht.out,HK.out];refine hs1.store mF (hn1.mono fun b hb=>?_);have hb':wr.heap.size+1<=b:=by simpa using hb
      exact⟨⟨by omega,by omega⟩,fun e=>by injection e with e;omega⟩
     case measure=>simp[intOf];omega
   ·obtain rfl:j=ks.length:=by omega
    rw[zuA] at hs;have a0:wr.cell? ⟨w.heap.size,0,none⟩=some (.int .u8 k):=zc hs.arg rfl;have g0:wr.cell? ⟨gm,0,none⟩=some (.int .u8 k):=zc hs.box rfl;have g1:wr.cell? ⟨gm,1,none⟩=some (.int .i64 n):=zc hs.box rfl;have g2:wr.cell? ⟨gm,2,none⟩=some (.string s):=zc hs.box rfl;have g3:wr.cell? ⟨gm,3,none⟩=some (.slice (some ⟨gr,0,none⟩) ks.length ks.length):=zc hs.box rfl;have gz:∀ i,wr.frozen? ⟨gm,i,none⟩=false:=fun i=>zf hs.box;have r0:wr.cell? ⟨w.heap.size+1,0,none⟩=some (.int .u8 0):=zc hs.res rfl;have r1:wr.cell? ⟨w.heap.size+1,1,none⟩=some (.int .i64 0):=zc hs.res rfl;have r2:wr.cell? ⟨w.heap.size+1,2,none⟩=some (.string ⟨#[]⟩):=zc hs.res rfl;have r3:wr.cell? ⟨w.heap.size+1,3,none⟩=some (.slice none 0 0):=zc hs.res rfl;have rz:∀ i,wr.frozen? ⟨w.heap.size+1,i,none⟩=false:=fun i=>zf hs.res;have hgr:=hs.grlo;have hlo:=hs.lo;have hne1:¬ gm=gr:=hs.ne
    have hne4:¬ gm=w.heap.size+1:=by omega
    have hne5:¬ w.heap.size+1=gm:=by omega
    have hne6:¬ gr=w.heap.size+1:=by omega
    have hne7:¬ w.heap.size+1=gr:=by omega
    have hne8:¬ w.heap.size=gm:=by omega
    have hne9:¬ gm=w.heap.size:=by omega
    clear hrow;by_cases lN:k=57
    ·subst lN;have HX:=zh (show inv keep (.nd 57 n s ks)=.nd 57 n s (ks.map (invK keep ((57:Int)==57))).reverse by
      rw[inv,if_pos rfl,zlV];rfl)
     go_wp2_with fail;refine(zs4 _ _ _ gr _ _ _ hs.own).mono ?_;rintro e w1 ⟨rfl,ho1,hg1⟩;have hs1:=hs.rowed ho1 hg1;have g0:w1.cell? ⟨gm,0,none⟩=some (.int .u8 57):=zc hs1.box rfl;have g1:w1.cell? ⟨gm,1,none⟩=some (.int .i64 n):=zc hs1.box rfl;have g2:w1.cell? ⟨gm,2,none⟩=some (.string s):=zc hs1.box rfl;have g3:w1.cell? ⟨gm,3,none⟩=some (.slice (some ⟨gr,0,none⟩) ks.length ks.length):=zc hs1.box rfl;have r0:w1.cell? ⟨w.heap.size+1,0,none⟩=some (.int .u8 0):=zc hs1.res rfl;have r1:w1.cell? ⟨w.heap.size+1,1,none⟩=some (.int .i64 0):=zc hs1.res rfl;have r2:w1.cell? ⟨w.heap.size+1,2,none⟩=some (.string ⟨#[]⟩):=zc hs1.res rfl;have r3:w1.cell? ⟨w.heap.size+1,3,none⟩=some (.slice none 0 0):=zc hs1.res rfl;have rz:∀ i,w1.frozen? ⟨w.heap.size+1,i,none⟩=false:=fun i=>zf hs1.res;have hr:=hs1.result hf;go_wp2_with fail
     refine bodyPost_ret (v:=nv 57 n s (some ⟨gr,0,none⟩) ks.length ks.length) (by simp[results,Tryz.results127,go_sem,r0,r1,r2,r3]) rfl ⟨57,n,s,some ⟨gr,0,none⟩,ks.length,ks.length,rfl,?_,hr.2⟩;rw[HX.out];exact hr.1
    by_cases nR:k=52\/k=53\/k=54
    ·have hl2:=zxJ k n s ks ll.out nR;have mE:ks.length-1<(ks.map (invK keep (k==57))).length:=by simp;omega
     have wZ:0<(ks.map (invK keep (k==57))).length:=by simp;omega
     obtain⟨t1,A1,c1,H1,p0,p1,p2,p3,hn1⟩:=hs.own.nd mE;obtain⟨t2,A2,c2,H2,q0,q1,q2,q3,hn2⟩:=hs.own.nd wZ;simp only[Nat.zero_mul,Nat.zero_add] at q0 q1 q2 q3;have fz:=hs.own.frozen;have HX:=zh (show inv keep (.nd k n s ks)=.nd k n s (((ks.map (invK keep (k==57))).set 0 t1).set (ks.length-1) t2) by
      rw[zxY keep k n s ks lN nR wZ mE,H1.out,H2.out])
     have hw1:=hs.store wZ hn1;have hk:∀ b,(w.heap.size+2<=b/\b≠gm)/\some b≠some gr->b<wr.heap.size->((((wr.setCell ⟨gr,0*4,none⟩ (.int .u8 t1.k)).setCell ⟨gr,0*4+1,none⟩ (.int .i64 t1.n)).setCell ⟨gr,0*4+2,none⟩ (.string t1.s)).setCell ⟨gr,0*4+3,none⟩ (.slice A1 t1.ks.length c1)).heap[b]?=wr.heap[b]?:=by
      intro b hb _;have hne:b≠gr:=fun e=>hb.2 (by rw[e]);rw[Below.heap_setCell _ _ _ _ hne,Below.heap_setCell _ _ _ _ hne,Below.heap_setCell _ _ _ _ hne,Below.heap_setCell _ _ _ _ hne]
     have hw2:=hw1.store (i:=ks.length-1) (by simpa using mE) (hn2.keep (fun _ h _=>h) hk);have hr:=hw2.result hf;simp only[Nat.zero_mul,Nat.zero_add] at hr;have HW:=zh (And.intro (hr.1.later (Below.refl _ _).drew) hr.2.drew);have i1:(0:Int)<=(ks.length:Int)-1:=by omega
     have i2:(ks.length:Int)-1<(ks.length:Int):=by omega
     have i3:(0:Int)<(ks.length:Int):=by omega
     have i4:0<ks.length:=by omega
     have i5:¬ (ks.length-1)*4=0:=by omega
     clear hw1 hw2 hk hr;rcases nR with rfl|rfl|rfl
     ·go_wp2_with fail
      go_region
      go_wp2_with fail;refine bodyPost_ret (v:=nv 52 n s (some ⟨gr,0,none⟩) ks.length ks.length) (by simp[results,Tryz.results127,go_sem,r0,r1,r2,r3]) rfl ⟨52,n,s,some ⟨gr,0,none⟩,ks.length,ks.length,rfl,?_,HW.out.2⟩;rw[HX.out];exact HW.out.1
     ·go_wp2_with fail
      go_region
      go_wp2_with fail;refine bodyPost_ret (v:=nv 53 n s (some ⟨gr,0,none⟩) ks.length ks.length) (by simp[results,Tryz.results127,go_sem,r0,r1,r2,r3]) rfl ⟨53,n,s,some ⟨gr,0,none⟩,ks.length,ks.length,rfl,?_,HW.out.2⟩;rw[HX.out];exact HW.out.1
     ·go_wp2_with fail
      go_region
      go_wp2_with fail;refine bodyPost_ret (v:=nv 54 n s (some ⟨gr,0,none⟩) ks.length ks.length) (by simp[results,Tryz.results127,go_sem,r0,r1,r2,r3]) rfl ⟨54,n,s,some ⟨gr,0,none⟩,ks.length,ks.length,rfl,?_,HW.out.2⟩;rw[HX.out];exact HW.out.1
    by_cases sQ:k=50\/k=51
    ·have HX:=zh (show inv keep (.nd k n s ks)=.nd (if keep then k else exch k) n s (ks.map (invK keep (k==57))) by
      rw[inv,if_neg lN,if_neg nR,if_pos sQ,zlV];have:(k==57)=false:=by simpa using lN
      rw[this])
     cases keep
     ·rcases sQ with rfl|rfl
      ·go_wp2_with fail;refine(zmP _ _).mono ?_;rintro e w' ⟨rfl,rfl⟩;have hs2:=hs.kind (exch 50);have hr:=hs2.result ⟨zsR 50 hf.1,hf.2⟩;go_wp2_with fail;refine bodyPost_ret (v:=nv (exch 50) n s (some ⟨gr,0,none⟩) ks.length ks.length) (by simp[results,Tryz.results127,go_sem,r0,r1,r2,r3]) rfl ⟨exch 50,n,s,some ⟨gr,0,none⟩,ks.length,ks.length,rfl,?_,hr.2⟩;rw[HX.out];exact hr.1
      ·go_wp2_with fail;refine(zmP _ _).mono ?_;rintro e w' ⟨rfl,rfl⟩;have hs2:=hs.kind (exch 51);have hr:=hs2.result ⟨zsR 51 hf.1,hf.2⟩;go_wp2_with fail;refine bodyPost_ret (v:=nv (exch 51) n s (some ⟨gr,0,none⟩) ks.length ks.length) (by simp[results,Tryz.results127,go_sem,r0,r1,r2,r3]) rfl ⟨exch 51,n,s,some ⟨gr,0,none⟩,ks.length,ks.length,rfl,?_,hr.2⟩;rw[HX.out];exact hr.1
     ·have hr:=hs.result hf;rcases sQ with rfl|rfl
      ·go_wp2_with fail;refine bodyPost_ret (v:=nv 50 n s (some ⟨gr,0,none⟩) ks.length ks.length) (by simp[results,Tryz.results127,go_sem,r0,r1,r2,r3]) rfl ⟨50,n,s,some ⟨gr,0,none⟩,ks.length,ks.length,rfl,?_,hr.2⟩;rw[HX.out];exact hr.1
      ·go_wp2_with fail;refine bodyPost_ret (v:=nv 51 n s (some ⟨gr,0,none⟩) ks.length ks.length) (by simp[results,Tryz.results127,go_sem,r0,r1,r2,r3]) rfl ⟨51,n,s,some ⟨gr,0,none⟩,ks.length,ks.length,rfl,?_,hr.2⟩;rw[HX.out];exact hr.1
    ·have HX:=zh (show inv keep (.nd k n s ks)=.nd (exch k) n s (ks.map (invK keep (k==57))) by
      rw[inv,if_neg lN,if_neg nR,if_neg sQ,zlV];have:(k==57)=false:=by simpa using lN
      rw[this])
     have n57:(k==57)=false:=by simp;omega
     have n52:(k==52)=false:=by simp;omega
     have n53:(k==53)=false:=by simp;omega
     have n54:(k==54)=false:=by simp;omega
     have n50:(k==50)=false:=by simp;omega
     have n51:(k==51)=false:=by simp;omega
     clear lN nR sQ;go_wp2_with fail;refine(zmP _ _).mono ?_;rintro e w' ⟨rfl,rfl⟩;have hs2:=hs.kind (exch k);have hr:=hs2.result ⟨zsR k hf.1,hf.2⟩;go_wp2_with fail;refine bodyPost_ret (v:=nv (exch k) n s (some ⟨gr,0,none⟩) ks.length ks.length) (by simp[results,Tryz.results127,go_sem,r0,r1,r2,r3]) rfl ⟨exch k,n,s,some ⟨gr,0,none⟩,ks.length,ks.length,rfl,?_,hr.2⟩;rw[HX.out];exact hr.1
mutual
/-- Two trees are alike. -/
def teq:T->T->Bool
 | .nd k n s ks,.nd k' n' s' ks'=>k==k'&&n==n'&&s.toList==s'.toList&&teqs ks ks'
def teqs:List T->List T->Bool
 | [],[]=>true
 | a::xs,b::ys=>teq a b&&teqs xs ys
 | _,_=>false
end
theorem znY:∀ (xs ys:List T),teqs xs ys=true↔xs.length=ys.length/\∀ i (h:i<xs.length) (h':i<ys.length),teq xs[i] ys[i]=true
 | [],[]=>by simp[teqs]
 | [],_::_=>by simp[teqs]
 | _::_,[]=>by simp[teqs]
 | a::xs,b::ys=>by
  rw[teqs,Bool.and_eq_true,znY xs ys]
  constructor
  ·rintro⟨h1,h2,h3⟩;refine⟨by simp[h2],fun i h h'=>?_⟩
   cases i with
   | zero=>exact h1
   | succ i=>exact h3 i (by simpa using h) (by simpa using h')
  ·rintro⟨h1,h2⟩;exact⟨h2 0 (Nat.zero_lt_succ _) (Nat.zero_lt_succ _),by simpa using h1,fun i h h'=>h2 (i+1) (Nat.succ_lt_succ h) (Nat.succ_lt_succ h')⟩
theorem zu0 {xs ys:List T} (hl:xs.length=ys.length) (h:∀ i (h:i<xs.length) (h':i<ys.length),teq xs[i] ys[i]=true):teqs xs ys=true:=(znY xs ys).2 ⟨hl,h⟩
theorem zxp {xs ys:List T} (hl:xs.length≠ys.length):teqs xs ys=false:=by
 rw[Bool.eq_false_iff,ne_eq,znY];exact fun h=>hl h.1
theorem zzx {xs ys:List T} {i:Nat} (h:i<xs.length) (h':i<ys.length) (hf:teq xs[i] ys[i]=false):teqs xs ys=false:=by
 rw[Bool.eq_false_iff,ne_eq,znY];intro hh;have:=hh.2 i h h';simp[hf] at this
theorem zzy (a:T):∀ b,teq a b=true↔a=b:=by
 induction a using T.ind with
 | _ k n s ks ih =>
 rintro⟨k',n',s',ks'⟩;simp only[teq,Bool.and_eq_true,beq_iff_eq,T.nd.injEq,znY]
 constructor
 ·rintro⟨⟨⟨h1,h2⟩,h3⟩,h4,h5⟩;refine⟨h1,h2,zLc h3,List.ext_getElem h4 fun i hi hi'=>(ih _ (List.getElem_mem hi) _).1 (h5 i hi hi')⟩
 ·rintro⟨h1,h2,h3,h4⟩;subst h4;exact⟨⟨⟨h1,h2⟩,by rw[h3]⟩,rfl,fun i hi _=>(ih _ (List.getElem_mem hi) _).2 rfl⟩
def EqC (f:FuncId) (a b:T):Prop:=∀ (v1 v2:Value) (w:World),NV w Any a v1->NV w Any b v2->Calls Tryz.prog f #[v1,v2] w fun e w'=>e=.returned (.bool (teq a b))/\Below w.heap.size w w'
theorem zrh (xs ys:List T) (A B:Option Addr) (ca cb:Nat) (w:World) (ha:zkX w Any A xs) (hb:zkX w Any B ys) (hla:xs.length<=LK) (hlb:ys.length<=LK) (f:FuncId) (fn:Func) (hfn:IsFn Tryz.prog f fn)
  (hc:∀ i (hi:i<xs.length) (hi':i<ys.length),EqC f xs[i] ys[i]) :
  Calls Tryz.prog 158 #[.slice A xs.length ca,.slice B ys.length cb,.func (.func f) #[] #[]] w fun e w'=>e=.returned (.bool (teqs xs ys))/\Below w.heap.size w w':=by
 have hla':=zkx hla;have hlb':=zkx hlb;have hcall:=zkP hfn;have HC:=zh hc;clear hc hfn hla hlb;by_cases hl:xs.length=ys.length
 ·have HL:=zh hl;have h1:((xs.length:Int) != (ys.length:Int))=false:=by simp[hl]
  have h2:(xs.length != ys.length)=false:=by simp[hl]
  have h3:xs.length<=ys.length:=by omega
  clear hl;go_enter Tryz.func158,Tryz.ntmps158;go_wp2
  go_loopw [6,17] (fun r i wr=>∃ j:Nat,j<=xs.length/\i=.int .i64 j/\r=.bool false/\Hid (∀ q (h:q<xs.length) (h':q<ys.length),q<j->teq xs[q] ys[q]=true)/\Below w.heap.size w wr) (fun _ i _=>xs.length-(intOf i).toNat)
  case atStart=>exact⟨0,Nat.zero_le _,rfl,rfl,fun q hq _ h=>by omega,Below.refl _ _⟩
  case round =>
   obtain⟨j,hj,rfl,rfl,HP,hbl⟩:=hrel;by_cases hlt:j<xs.length
   ·have hlt2:j<ys.length:=by omega
    obtain⟨a,t,A',c',rfl,_,Ht,c0,c1,c2,c3,hn⟩:=(ha.later hbl).get hlt;obtain⟨a2,t2,A2,c2',rfl,_,xn,d0,d1,d2,d3,hn2⟩:=(hb.later hbl).get hlt2;have h0:=HC.out j hlt hlt2;rw[Ht.out,xn.out] at h0;have H0:=zh h0;clear h0 ha hb;have e0:=zke d0;have e1:=zke d1;have e2:=zke d2;have e3:=zke d3;go_wp2_with fail;refine(H0.out _ _ _ (hn.later (((Below.refl _ _).alloc (Nat.le_refl _) _).alloc (by simp) _)) (hn2.later (((Below.refl _ _).alloc (Nat.le_refl _) _).alloc (by simp) _))).mono ?_;rintro e w1 ⟨rfl,hb1⟩;have hb2:Below w.heap.size w w1:=((hbl.alloc hbl.size _).alloc (by have:=hbl.size;simp;omega) _).trans (hb1.mono (by have:=hbl.size;simp;omega))
    cases hp:teq t t2
    ·go_wp2_with fail;go_ret;exact⟨by rw[zzx hlt hlt2 (by rw[Ht.out,xn.out];exact hp)];rfl,hb2⟩
    ·have jh:=zh hp;clear hp;go_wp2_with fail
     go_roundw
     case rel =>
      refine⟨j+1,by omega,by go_num,rfl,?_,hb2⟩;intro q hq hq' hqj;by_cases e:q=j
      ·subst e;rw[Ht.out,xn.out];exact jh.out
      ·exact HP.out q hq hq' (by omega)
     case measure=>simp[intOf];omega
   ·have hlt':xs.length<=j:=by omega
    go_wp2_with fail;go_ret;exact⟨by rw[zu0 HL.out (fun q hq hq'=>HP.out q hq hq' (by omega))];rfl,hbl⟩
 ·have h1:((xs.length:Int) != (ys.length:Int))=true:=by simp;omega
  have h2:(xs.length != ys.length)=true:=by simpa using hl
  have HX:=zh (zxp hl);clear hl ha hb HC;generalize xs.length=la,ys.length=lb at *
  go_enter Tryz.func158,Tryz.ntmps158;go_wp2;go_ret;exact⟨by rw[HX.out];rfl,Below.refl _ _⟩
theorem zz2:IsFn Tryz.prog 123 Tryz.f123:=⟨Tryz.func123,by kernel_rfl,by kernel_rfl⟩
theorem zxa (a:T):∀ b,EqC 123 a b:=by
 induction a using T.ind with
 | _ k n s ks ih =>
 rintro⟨k',n',s',ks'⟩ v1 v2 w hv1 hv2;obtain⟨A,c,rfl,hf,hlk,hlc,hrow⟩:=hv1.open_;obtain⟨A',c',rfl,hf',ak,pF,hrow'⟩:=hv2.open_;simp only[T.k_nd,T.n_nd,T.s_nd,T.ks_nd] at *
 have IH:=zh ih;clear ih hf hf' hlc pF hv1 hv2;have hb0:∀ o o',Below w.heap.size w ((w.alloc o).alloc o'):=fun o o'=>((Below.refl _ _).alloc (Nat.le_refl _) _).alloc (by simp) _;have HB:=zh hb0;clear hb0;have HX:=zh (show teq (.nd k n s ks) (.nd k' n' s' ks')=(k==k'&&n==n'&&s.toList==s'.toList&&teqs ks ks') by rw[teq]);by_cases h1:(k==k')=true
 ·by_cases h2:(n==n')=true
  ·by_cases h3:(s.toList==s'.toList)=true
   ·go_enter Tryz.func123,Tryz.ntmps123;go_wp2_with fail;refine(zrh ks ks' A A' c c' _ (hrow.later (HB.out _ _)) (hrow'.later (HB.out _ _)) hlk ak _ _ zz2 (fun i hi hi'=>IH.out _ (List.getElem_mem hi) _)).mono ?_;rintro e w1 ⟨rfl,hb1⟩;go_wp2_with fail;go_ret;exact⟨by rw[HX.out];simp[*],(HB.out _ _).trans (hb1.mono (by simp;omega))⟩
   ·have h3':(s.toList==s'.toList)=false:=by simpa using h3
    clear h3;go_enter Tryz.func123,Tryz.ntmps123;go_wp2_with fail;go_ret;exact⟨by rw[HX.out];simp[*],HB.out _ _⟩
  ·have h2':(n==n')=false:=by simpa using h2
   clear h2;go_enter Tryz.func123,Tryz.ntmps123;go_wp2_with fail;go_ret;exact⟨by rw[HX.out];simp[*],HB.out _ _⟩
 ·have h1':(k==k')=false:=by simpa using h1
  clear h1;go_enter Tryz.func123,Tryz.ntmps123;go_wp2_with fail;go_ret;exact⟨by rw[HX.out];simp[*],HB.out _ _⟩
def zLJ (w:World) (t:T) (e:Ending) (w':World):Prop:=∃ k n s A l c,e=.returned (.tuple #[nv k n s A l c,.int .i64 0])/\NV w' (From w.heap.size) (inv false t) (nv k n s A l c)/\Below w.heap.size w w'
theorem zKA (t:T) (v:Value) (w:World) (hv:NV w Any t v) (hok:okT t):Calls Tryz.prog 122 #[v] w (zLJ w t):=by
 have HV:=zh hv;have ll:=zh hok;have hor:isS t=true\/(isS t=false/\isB t=true):=by
  rcases hok with h|h
  ·exact .inl h
  ·cases hs:isS t
   ·exact .inr ⟨rfl,h⟩
   ·exact .inl rfl
 obtain⟨A,c,rfl,hf,hlk,hlc,hrow⟩:=hv.open_;clear hf hlk hrow hv hlc hok;generalize t.k=k,t.n=n,t.s=s,t.ks.length=l at *
 have hb2:∀ o o',Below w.heap.size w ((w.alloc o).alloc o'):=fun o o'=>((Below.refl _ _).alloc (Nat.le_refl _) _).alloc (by simp) _;have HB2:=zh hb2;clear hb2;rcases hor with hs|⟨hs,hB⟩
 ·have hns:(!isS t)=false:=by simp[hs]
  go_enter Tryz.func122,Tryz.ntmps122;go_wp2_with fail;refine(zle t _ _ (HV.out.later (HB2.out _ _))).mono ?_;rintro e w1 ⟨rfl,hb1⟩;obtain⟨hc1,hf1⟩:=zlf hb1;have hbb:Below w.heap.size w w1:=(HB2.out _ _).trans (hb1.mono (by simp;omega));go_wp2_with fail;refine(zqm false t _ _ (HV.out.later hbb) ll.out).mono ?_;rintro e w2 ⟨k1,n1,s1,A1,l1,c1,rfl,hn2,hb2⟩;have hsz:w.heap.size+2<=w1.heap.size:=by have:=hb1.size;simpa using this
  have hc2:∀ i u,w1.cell? ⟨w.heap.size+1,i,none⟩=some u->w2.cell? ⟨w.heap.size+1,i,none⟩=some u:=fun i u h=>zb hb2 h;have r0:w2.cell? ⟨w.heap.size+1,0,none⟩=some (.int .u8 0):=zb hb2 (zb hb1 (by simp));have r1:w2.cell? ⟨w.heap.size+1,1,none⟩=some (.int .i64 0):=zb hb2 (zb hb1 (by simp));have r2:w2.cell? ⟨w.heap.size+1,2,none⟩=some (.string ⟨#[]⟩):=zb hb2 (zb hb1 (by simp));have r3:w2.cell? ⟨w.heap.size+1,3,none⟩=some (.slice none 0 0):=zb hb2 (zb hb1 (by simp));have rz:∀ i,w2.frozen? ⟨w.heap.size+1,i,none⟩=false:=fun i=>by
   rw[hb2.frozen (p:=⟨w.heap.size+1,i,none⟩) (by simp;omega),hb1.frozen (p:=⟨w.heap.size+1,i,none⟩) (by simp)];simp
  clear hc1 hf1 hc2;go_wp2_with fail;refine bodyPost_ret (v:=.tuple #[nv k1 n1 s1 A1 l1 c1,.int .i64 0]) (by simp[results,Tryz.results122,go_sem,r0,r1,r2,r3]) rfl ⟨k1,n1,s1,A1,l1,c1,rfl,?_,?_⟩
  ·refine hn2.keep (fun b hb _=>Nat.le_trans hbb.size hb) fun b hb _=>?_;have hb':w1.heap.size<=b:=hb;rw[Below.heap_setCell _ _ _ _ (by simp;omega),Below.heap_setCell _ _ _ _ (by simp;omega),Below.heap_setCell _ _ _ _ (by simp;omega),Below.heap_setCell _ _ _ _ (by simp;omega)]
  ·have hx:Below w.heap.size w w2:=hbb.trans (hb2.mono hbb.size);exact(((hx.setCell (by simp) _).setCell (by simp) _).setCell (by simp) _).setCell (by simp) _
 ·have hns:(!isS t)=true:=by simp[hs]
  have hnb:(!isB t)=false:=by simp[hB]
  go_enter Tryz.func122,Tryz.ntmps122;go_wp2_with fail;refine(zle t _ _ (HV.out.later (HB2.out _ _))).mono ?_;rintro e w1 ⟨rfl,hb1⟩;obtain⟨hc1,hf1⟩:=zlf hb1;have hbb:Below w.heap.size w w1:=(HB2.out _ _).trans (hb1.mono (by simp;omega));have hsz1:w.heap.size+2<=w1.heap.size:=by have:=hb1.size;simpa using this
  go_wp2_with fail;refine(znW t _ _ (HV.out.later hbb)).mono ?_;rintro e w3 ⟨rfl,hb3⟩;have cB:Below ((w.alloc (.cells #[.int .u8 k,.int .i64 n,.string s,.slice A l c] 29)).alloc (.cells #[.int .u8 0,.int .i64 0,.string ⟨#[]⟩,.slice none 0 0] 29)).heap.size ((w.alloc (.cells #[.int .u8 k,.int .i64 n,.string s,.slice A l c] 29)).alloc (.cells #[.int .u8 0,.int .i64 0,.string ⟨#[]⟩,.slice none 0 0] 29)) w3:=hb1.trans (hb3.mono (by simpa using hsz1));have eu:Below w.heap.size w w3:=hbb.trans (hb3.mono hbb.size);clear hc1 hf1;obtain⟨hc1,hf1⟩:=zlf cB;go_wp2_with fail;refine(zqm false t _ _ (HV.out.later eu) ll.out).mono ?_;rintro e w2 ⟨k1,n1,s1,A1,l1,c1,rfl,hn2,hb2⟩;have hsz:w.heap.size+2<=w3.heap.size:=by have:=cB.size;simpa using this
  have r0:w2.cell? ⟨w.heap.size+1,0,none⟩=some (.int .u8 0):=zb hb2 (zb cB (by simp));have r1:w2.cell? ⟨w.heap.size+1,1,none⟩=some (.int .i64 0):=zb hb2 (zb cB (by simp));have r2:w2.cell? ⟨w.heap.size+1,2,none⟩=some (.string ⟨#[]⟩):=zb hb2 (zb cB (by simp));have r3:w2.cell? ⟨w.heap.size+1,3,none⟩=some (.slice none 0 0):=zb hb2 (zb cB (by simp));have rz:∀ i,w2.frozen? ⟨w.heap.size+1,i,none⟩=false:=fun i=>by
   rw[hb2.frozen (p:=⟨w.heap.size+1,i,none⟩) (by simp;omega),cB.frozen (p:=⟨w.heap.size+1,i,none⟩) (by simp)];simp
  clear hc1 hf1;go_wp2_with fail;refine bodyPost_ret (v:=.tuple #[nv k1 n1 s1 A1 l1 c1,.int .i64 0]) (by simp[results,Tryz.results122,go_sem,r0,r1,r2,r3]) rfl ⟨k1,n1,s1,A1,l1,c1,rfl,?_,?_⟩
  ·refine hn2.keep (fun b hb _=>Nat.le_trans eu.size hb) fun b hb _=>?_;have hb':w3.heap.size<=b:=hb;rw[Below.heap_setCell _ _ _ _ (by simp;omega),Below.heap_setCell _ _ _ _ (by simp;omega),Below.heap_setCell _ _ _ _ (by simp;omega),Below.heap_setCell _ _ _ _ (by simp;omega)]
  ·have hx:Below w.heap.size w w2:=eu.trans (hb2.mono eu.size);exact(((hx.setCell (by simp) _).setCell (by simp) _).setCell (by simp) _).setCell (by simp) _
def canc (a b:T):Bool:=isS a&&isS b && !(a.k==56)&&teq b (inv false a)
theorem zpW (a b:T) (v1 v2:Value) (w:World) (hv1:NV w Any a v1) (hv2:NV w Any b v2):Calls Tryz.prog 75 #[v1,v2] w fun e w'=>e=.returned (.bool (canc a b))/\Below w.heap.size w w':=by
 have uf:=zh hv1;have nz:=zh hv2;obtain⟨A,c,rfl,hf,hlk,hlc,hrow⟩:=hv1.open_;obtain⟨A',c',rfl,hf',ak,pF,hrow'⟩:=hv2.open_;clear hf hlk hrow hv1 hlc hf' ak hrow' hv2 pF;have HX:=zh (show canc a b=(isS a&&isS b && !(a.k==56)&&teq b (inv false a)) from rfl);generalize a.k=k,a.n=n,a.s=s,a.ks.length=l at *
 generalize b.k=k',b.n=n',b.s=s',b.ks.length=l' at *
 have hb2:∀ o o',Below w.heap.size w ((w.alloc o).alloc o'):=fun o o'=>((Below.refl _ _).alloc (Nat.le_refl _) _).alloc (by simp) _;have HB2:=zh hb2;clear hb2
 cases ha:isS a
 ·go_enter Tryz.func75,Tryz.ntmps75;go_wp2_with fail;refine(zle a _ _ (uf.out.later (HB2.out _ _))).mono ?_;rintro e w1 ⟨rfl,hb1⟩;have hbb:Below w.heap.size w w1:=(HB2.out _ _).trans (hb1.mono (by simp;omega));go_wp2_with fail;go_ret;exact⟨by rw[HX.out];simp[ha],hbb⟩
 ·cases hb:isS b
  ·go_enter Tryz.func75,Tryz.ntmps75;go_wp2_with fail;refine(zle a _ _ (uf.out.later (HB2.out _ _))).mono ?_;rintro e w1 ⟨rfl,hb1⟩;have hbb:Below w.heap.size w w1:=(HB2.out _ _).trans (hb1.mono (by simp;omega));obtain⟨hc1,hf1⟩:=zlf hb1;go_wp2_with fail;refine(zle b _ _ (nz.out.later hbb)).mono ?_;rintro e w3 ⟨rfl,hb3⟩;go_wp2_with fail;go_ret;exact⟨by rw[HX.out];simp[hb],hbb.trans (hb3.mono hbb.size)⟩
  ·cases hk:(k==56)
   ·have HA:=zh ha;go_enter Tryz.func75,Tryz.ntmps75;go_wp2_with fail;refine(zle a _ _ (uf.out.later (HB2.out _ _))).mono ?_;rintro e w1 ⟨rfl,hb1⟩;have hbb:Below w.heap.size w w1:=(HB2.out _ _).trans (hb1.mono (by simp;omega));obtain⟨hc1,hf1⟩:=zlf hb1;go_wp2_with fail;refine(zle b _ _ (nz.out.later hbb)).mono ?_;rintro e w3 ⟨rfl,hb3⟩;have hsz1:w.heap.size+2<=w1.heap.size:=by have:=hb1.size;simpa using this
    have cB:=hb1.trans (hb3.mono (by simpa using hsz1));have eu:Below w.heap.size w w3:=hbb.trans (hb3.mono hbb.size);clear hc1 hf1;obtain⟨hc1,hf1⟩:=zlf cB;go_wp2_with fail;refine(zKA a _ _ (uf.out.later eu) (.inl HA.out)).mono ?_;rintro e w4 ⟨k1,n1,s1,A1,l1,c1,rfl,wL,hb4⟩;have hsz3:w.heap.size+2<=w3.heap.size:=by have:=cB.size;simpa using this
    have jC:=cB.trans (hb4.mono (by simpa using hsz3));have kI:Below w.heap.size w w4:=eu.trans (hb4.mono eu.size);have hsz4:w.heap.size+2<=w4.heap.size:=by have:=jC.size;simpa using this
    clear hc1 hf1;obtain⟨hc1,hf1⟩:=zlf jC;have b0:=zke (zb jC (p:=⟨w.heap.size+1,0,none⟩) (u:=.int .u8 k') (by simp));have b1:=zke (zb jC (p:=⟨w.heap.size+1,1,none⟩) (u:=.int .i64 n') (by simp));have b2:=zke (zb jC (p:=⟨w.heap.size+1,2,none⟩) (u:=.string s') (by simp));have b3:=zke (zb jC (p:=⟨w.heap.size+1,3,none⟩) (u:=.slice A' l' c') (by simp));go_wp2_with fail;refine(zxa b (inv false a) _ _ _ (nz.out.later (kI.alloc kI.size _)) (wL.any.later ((Below.refl _ _).alloc (Nat.le_refl _) _))).mono ?_;rintro e w5 ⟨rfl,hb5⟩;go_wp2_with fail;go_ret;exact⟨by rw[HX.out];simp[ha,hb,hk],(kI.alloc kI.size _).trans (hb5.mono (by have:=kI.size;simp;omega))⟩
   ·go_enter Tryz.func75,Tryz.ntmps75;go_wp2_with fail;refine(zle a _ _ (uf.out.later (HB2.out _ _))).mono ?_;rintro e w1 ⟨rfl,hb1⟩;have hbb:Below w.heap.size w w1:=(HB2.out _ _).trans (hb1.mono (by simp;omega));obtain⟨hc1,hf1⟩:=zlf hb1;go_wp2_with fail;refine(zle b _ _ (nz.out.later hbb)).mono ?_;rintro e w3 ⟨rfl,hb3⟩;have hsz1:w.heap.size+2<=w1.heap.size:=by have:=hb1.size;simpa using this
    have cB:=hb1.trans (hb3.mono (by simpa using hsz1));have eu:Below w.heap.size w w3:=hbb.trans (hb3.mono hbb.size);clear hc1 hf1;obtain⟨hc1,hf1⟩:=zlf cB;go_wp2_with fail;go_ret;exact⟨by rw[HX.out];simp[hk],eu⟩
def zl6 (acc:List T) (t:T):List T:=match acc.getLast? with
 | some a=>if canc a t then acc.dropLast else acc++[t]
 | none=>[t]
def foldC (l:List T):List T:=l.foldl zl6 []
mutual
/-- simplify.simplified. -/
def simp:T->T
 | .nd _ _ _ ks=>.nd 57 0 ⟨#[]⟩ (foldC (stms ks))
/-- A statement with its blocks simplified. -/
def stm:T->T
 | .nd k n s ks=>.nd k n s (sks ks)
def stms:List T->List T
 | []=>[]
 | t::ts=>stm t::stms ts
def sks:List T->List T
 | []=>[]
 | t::ts=>(if t.k==57 then simp t else t)::sks ts
end
def skF (t:T):T:=if t.k==57 then simp t else t
theorem zss:∀ ks:List T,sks ks=ks.map skF
 | []=>by simp[sks]
 | t::ts=>by simp[sks,zss ts,skF]
theorem zn1:∀ ks:List T,stms ks=ks.map stm
 | []=>by simp[stms]
 | t::ts=>by simp[stms,zn1 ts]
theorem zlB (l:List T) (t:T):foldC (l++[t])=zl6 (foldC l) t:=by simp[foldC,List.foldl_append]
theorem zu4 (acc:List T) (t:T):(zl6 acc t).length<=acc.length+1:=by
 unfold zl6
 split
 ·split
  ·simp;omega
  ·simp
 ·simp
theorem zvV (l:List T):(foldC l).length<=l.length:=by
 unfold foldC
 suffices h:∀ (l acc:List T),(l.foldl zl6 acc).length<=acc.length+l.length by simpa using h l []
 intro l
 induction l with
 | nil=>intro acc;simp
 | cons t l ih =>
  intro acc;have h1:=ih (zl6 acc t);have h2:=zu4 acc t;simp only[List.foldl_cons,List.length_cons];omega
theorem zlG {acc:List T} {a t:T} (h:canc a t=true):zl6 (acc++[a]) t=acc:=by simp[zl6,h]
theorem zlx {acc:List T} {a t:T} (h:canc a t=false):zl6 (acc++[a]) t=acc++[a]++[t]:=by simp[zl6,h]
theorem zpe (t:T):zl6 [] t=[t]:=rfl
theorem OwnN.pop {w:World} {base:Nat} {E:TypeId} {S:Nat->Prop} {A:Option Addr} {l cap:Nat} {ts:List T} {x:T} (h:OwnN w base E S (.slice A (l+1) cap) (ts++[x])):OwnN w base E S (.slice A l cap) ts:=by
 obtain⟨xs,ho,hl,hn⟩:=h;rcases ho.2 with⟨e,_⟩|⟨g,cap',cur,e,hb,hg,hc,hm,hz,hx⟩
 ·injection e with _ e;omega
 ·injection e with e1 e2 e3;subst e1 e3;have hll:l=ts.length:=by simp at e2;omega
  subst hll;refine⟨xs.take (ts.length*4),⟨by have:=ho.1;simp at this;simp;omega,.inr ⟨g,cap,cur,rfl,hb,hg,by simp at hc;omega,hm,hz,?_⟩⟩,by simp at hl;omega,fun i hi=>?_⟩
  ·rw[<-hx,List.take_take];congr 1;simp
  ·obtain⟨u0,u1,u2,u3,h0,h1,h2,h3,hv⟩:=hn i (by simp;omega);refine⟨u0,u1,u2,u3,?_,?_,?_,?_,?_⟩
   ·rw[List.getElem?_take_of_lt (by omega)];exact h0
   ·rw[List.getElem?_take_of_lt (by omega)];exact h1
   ·rw[List.getElem?_take_of_lt (by omega)];exact h2
   ·rw[List.getElem?_take_of_lt (by omega)];exact h3
   ·rw[List.getElem_append_left hi] at hv;exact hv
theorem zzf {wr w1 W:World} {B:Nat} {E:TypeId} {v x:Value} {L:List T} {t:T} {o:Obj} (ho:OwnN wr B E (From B) v L) (hB:B<=wr.heap.size) (hn:NV w1 (From (wr.alloc o).heap.size) t x) (hb:Below w1.heap.size w1 W) :
  NV W (fun b=>From B b/\some b≠v.ownBlock) t x:=by
 refine(hn.later hb).mono fun b hb=>?_;have hb':wr.heap.size+1<=b:=by simpa using hb
 refine⟨by show B<=b;omega,fun e=>?_⟩;have:=(ho.block b e.symm).2;omega
theorem zor {p:List T->Prop} (h0:p []) (h1:∀ l a,p l->p (l++[a])):∀ l,p l:=by
 intro l;rw[<-List.reverse_reverse l]
 induction l.reverse with
 | nil=>exact h0
 | cons a r ih=>rw[List.reverse_cons];exact h1 _ _ ih
theorem zwd (k:Int):exch (exch k)=k:=by
 unfold exch
 repeat' split
 all_goals first|omega|rfl
theorem zxW (k n:Int) (s:ByteArray) (ks:List T):isS (.nd (exch k) n s ks)=isS (.nd k n s ks):=by
 by_cases tQ:k=40
 ·subst tQ;simp[exch,isS]
 by_cases tO:k=41
 ·subst tO;simp[exch,isS]
 by_cases lU:k=44
 ·subst lU;simp[exch,isS]
 by_cases h45:k=45
 ·subst h45;simp[exch,isS]
 by_cases h46:k=46
 ·subst h46;simp[exch,isS]
 by_cases h47:k=47
 ·subst h47;simp[exch,isS]
 by_cases h48:k=48
 ·subst h48;simp[exch,isS]
 by_cases qf:k=49
 ·subst qf;simp[exch,isS]
 by_cases h50:k=50
 ·subst h50;simp[exch,isS]
 by_cases iH:k=51
 ·subst iH;simp[exch,isS]
 have e:exch k=k:=by unfold exch;simp[tQ,tO,lU,h45,h46,h47,h48,qf,h50,iH]
 rw[e]
theorem ztH {all:Bool} {t:T} (h:isE t=true):invK false false t=t:=by simp[invK,zze h]
theorem ztI {t:T} (h:isB t=true):invK false false t=inv false t:=by simp[invK,zuu h]
theorem zxP {ks:List T} (h:∀ t∈ks,t.k≠57):ks.map (invK false false)=ks:=by
 conv=>rhs;rw[<-List.map_id ks]
 refine List.map_congr_left fun t ht=>?_;have:(t.k==57)=false:=by simpa using h t ht
 simp[invK,this]
theorem zmy {k n:Int} {s:ByteArray} {ks:List T} (hk:k≠52/\k≠53/\k≠54/\k≠55/\k≠57) (h:∀ t∈ks,t.k≠57):inv false (.nd k n s ks)=.nd (exch k) n s ks:=by
 rw[inv,if_neg (by omega),if_neg (by omega),zlV,zxP h]
 split<;>rfl
theorem zrN {k n:Int} {s:ByteArray} {a b c d:T} (hk:k=52\/k=53) (ha:isE a=true) (hb:isB b=true) (hc:isB c=true) (hd:isE d=true):inv false (.nd k n s [a,b,c,d])=.nd k n s [d,inv false b,inv false c,a]:=by
 rw[inv,if_neg (by omega),if_pos (by omega),zlV];simp[ztH (all:=false) ha,ztI hb,ztI hc,ztH (all:=false) hd,zn0]
theorem zm6 {n:Int} {s:ByteArray} {a b c:T} (ha:isE a=true) (hb:isB b=true) (hc:isE c=true):inv false (.nd 54 n s [a,b,c])=.nd 54 n s [c,inv false b,a]:=by
 rw[inv,if_neg (by omega),if_pos (by omega),zlV];simp[ztH (all:=false) ha,ztI hb,ztH (all:=false) hc,zn0]
theorem zmz {n:Int} {s:ByteArray} {b:T} (hb:isB b=true):inv false (.nd 55 n s [b])=.nd 55 n s [inv false b]:=by
 rw[inv,if_neg (by omega),if_neg (by omega),if_neg (by omega),zlV];simp[ztI hb,exch]
theorem zm8 (n:Int) (s:ByteArray) (ks:List T):inv false (.nd 57 n s ks)=.nd 57 n s (ks.map (inv false)).reverse:=by
 rw[inv,if_pos rfl,zlV];congr 2
theorem ztG (t:T):(isS t=true->isS (inv false t)=true/\inv false (inv false t)=t)/\(isB t=true->isB (inv false t)=true/\inv false (inv false t)=t):=by
 induction t using T.ind with
 | _ k n s ks ih =>
 constructor
 ·intro h;rcases zlb h with⟨hk,hks⟩|⟨hk,hp,a,b,c,d,rfl,ha,hb,hc,hd⟩|⟨rfl,hp,a,b,c,rfl,ha,hb,hc⟩|⟨rfl,hp,b,rfl,hb⟩
  ·rw[zmy hk hks];have hk':exch k≠52/\exch k≠53/\exch k≠54/\exch k≠55/\exch k≠57:=by
    unfold exch
    repeat' split
    all_goals omega
   rw[zmy hk' hks,zwd,zxW];exact⟨h,rfl⟩
  ·obtain⟨b1,b2⟩:=(ih b (by simp)).2 hb;obtain⟨c1,c2⟩:=(ih c (by simp)).2 hc;rw[zrN hk ha hb hc hd,zrN hk hd b1 c1 ha,b2,c2];exact⟨zzd hk hp hd b1 c1 ha,rfl⟩
  ·obtain⟨b1,b2⟩:=(ih b (by simp)).2 hb;rw[zm6 ha hb hc,zm6 hc b1 ha,b2];exact⟨zrK hp hc b1 ha,rfl⟩
  ·obtain⟨b1,b2⟩:=(ih b (by simp)).2 hb;rw[zmz hb,zmz b1,b2];exact⟨zqj hp b1,rfl⟩
 ·intro h;obtain⟨rfl,hp,hks⟩:=(zmt _ _ _ _).1 h;rw[zm8,zm8];refine⟨(zmt _ _ _ _).2 ⟨rfl,hp,fun t ht=>?_⟩,?_⟩
  ·rw[List.mem_reverse,List.mem_map] at ht;obtain⟨u,hu,rfl⟩:=ht;exact((ih u hu).1 (hks u hu)).1
  ·rw[List.map_reverse,List.reverse_reverse,List.map_map];congr 1
   conv=>rhs;rw[<-List.map_id ks]
   exact List.map_congr_left fun u hu=>((ih u hu).1 (hks u hu)).2
theorem zm7 {t:T} (h:isS t=true):inv false (inv false t)=t:=((ztG t).1 h).2
theorem zq0 {t:T} (h:isB t=true):isB (inv false t)=true:=((ztG t).2 h).1
theorem znw (a b:T):canc a b=true↔isS a=true/\isS b=true/\a.k≠56/\b=inv false a:=by
 unfold canc;simp only[Bool.and_eq_true,Bool.not_eq_true',beq_eq_false_iff_ne,and_assoc,<-zzy]
theorem zt1 {a b:T} (ha:isS a=true) (hb:isS b=true):canc (inv false a) (inv false b)=canc b a:=by
 rw[Bool.eq_iff_iff,znw,znw]
 constructor
 ·rintro⟨_,_,h3,h4⟩;rw[zm7 ha] at h4;have:inv false a=b:=by rw[<-h4,zm7 hb]
  exact⟨hb,ha,by rw[<-this];exact h3,h4.symm⟩
 ·rintro⟨_,_,h3,h4⟩;subst h4;rw[zm7 hb];exact⟨hb,ha,h3,rfl⟩
theorem zuF {a b c:T} (h1:canc c a=true) (h2:canc a b=true):b=c:=by
 obtain⟨hc,_,_,rfl⟩:=(znw _ _).1 h1;obtain⟨_,_,_,rfl⟩:=(znw _ _).1 h2;exact zm7 hc
def Red (l:List T):Prop:=∀ i (h:i+1<l.length),canc (l[i]'(by omega)) l[i+1]=false
theorem Red.nil:Red []:=fun i h=>by simp at h
theorem Red.one (t:T):Red [t]:=fun i h=>by simp at h
theorem Red.init {l:List T} {t:T} (h:Red (l++[t])):Red l:=fun i hi=>by
 have:=h i (by simp;omega);rw[List.getElem_append_left (by omega),List.getElem_append_left hi] at this;exact this
theorem Red.last {l:List T} {a t:T} (h:Red (l++[a]++[t])):canc a t=false:=by
 have:=h l.length (by simp);rw[List.getElem_append_left (by simp),List.getElem_append_right (by simp)] at this;simpa using this
theorem Red.snoc {l:List T} {a t:T} (h:Red (l++[a])) (hc:canc a t=false):Red (l++[a]++[t]):=by
 intro i hi;by_cases e:i=l.length
 ·subst e;rw[List.getElem_append_left (by simp),List.getElem_append_right (by simp)];simpa using hc
 ·have hi':i+1<(l++[a]).length:=by simp at hi ⊢;omega
  have:=h i hi';rw[List.getElem_append_left (Nat.lt_of_succ_lt hi'),List.getElem_append_left hi'];exact this
theorem Red.step {acc:List T} (t:T) (h:Red acc):Red (zl6 acc t):=by
 rcases List.eq_nil_or_concat acc with rfl|⟨l,a,rfl⟩
 ·exact Red.one t
 ·rw[List.concat_eq_append] at *
  cases hc:canc a t
  ·rw[zlx hc];exact h.snoc hc
  ·rw[zlG hc];exact h.init
theorem Red.foldl {acc:List T} (l:List T) (h:Red acc):Red (l.foldl zl6 acc):=by
 induction l generalizing acc with
 | nil=>exact h
 | cons t l ih=>exact ih (h.step t)
theorem Red.foldC (l:List T):Red (foldC l):=Red.foldl l Red.nil
theorem zso {acc:List T} {a b:T} (h:Red acc) (hc:canc a b=true):zl6 (zl6 acc a) b=acc:=by
 rcases List.eq_nil_or_concat acc with rfl|⟨l,c,rfl⟩
 ·have:=zlG (acc:=[]) hc;simpa[zpe] using this
 ·rw[List.concat_eq_append] at *
  cases h1:canc c a
  ·rw[zlx h1,zlG hc]
  ·rw[zlG h1];have e:=zuF h1 hc;subst e;rcases List.eq_nil_or_concat l with rfl|⟨l',d,rfl⟩
   ·rfl
   ·rw[List.concat_eq_append] at *
    rw[zlx h.last]
theorem zsL {acc:List T} (h:Red acc) (l:List T):(foldC l).foldl zl6 acc=l.foldl zl6 acc:=by
 induction l using zor with
 | h0=>rfl
 | h1 l a ih =>
  rw[zlB,List.foldl_append,List.foldl_cons,List.foldl_nil,<-ih];generalize hf:foldC l=f;rcases List.eq_nil_or_concat f with rfl|⟨m,b,rfl⟩
  ·rfl
  ·rw[List.concat_eq_append]
   cases hc:canc b a
   ·rw[zlx hc,List.foldl_append (l:=m++[b])];rfl
   ·rw[zlG hc,List.foldl_append];exact(zso (Red.foldl m h) hc).symm
theorem zrR {l:List T} (h:Red l):foldC l=l:=by
 induction l using zor with
 | h0=>rfl
 | h1 l a ih =>
  rw[zlB,ih h.init];rcases List.eq_nil_or_concat l with rfl|⟨m,b,rfl⟩
  ·rfl
  ·rw[List.concat_eq_append] at *
   rw[zlx h.last]
theorem zrS (l m:List T):foldC (l++m)=m.foldl zl6 (foldC l):=by simp[foldC,List.foldl_append]
theorem zl1 {l:List T}:∀ t∈foldC l,t∈l:=by
 induction l using zor with
 | h0=>intro t ht;exact ht
 | h1 l a ih =>
  intro t ht;rw[zlB] at ht;unfold zl6 at ht
  split at ht
  ·split at ht
   ·exact List.mem_append_left _ (ih t (List.dropLast_subset _ ht))
   ·rcases List.mem_append.1 ht with ht|ht
    ·exact List.mem_append_left _ (ih t ht)
    ·exact List.mem_append_right _ ht
  ·exact List.mem_append_right _ ht
theorem Red.rev {l:List T} (hs:∀ t∈l,isS t=true) (h:Red l):Red (l.map (inv false)).reverse:=by
 intro i hi;have hl:i+1<l.length:=by simpa using hi
 rw[List.getElem_reverse,List.getElem_reverse];simp only[List.getElem_map,List.length_map];rw[zt1 (hs _ (List.getElem_mem _)) (hs _ (List.getElem_mem _))];have:=h (l.length-1-(i+1)) (by omega);have e:l.length-1-(i+1)+1=l.length-1-i:=by omega
 simp only[e] at this;exact this
theorem zrQ (l:List T) (hs:∀ t∈l,isS t=true):foldC (l.map (inv false)).reverse=((foldC l).map (inv false)).reverse:=by
 induction l using zor with
 | h0=>rfl
 | h1 l a ih =>
  have ha:=hs a (by simp);have hl:∀ t∈l,isS t=true:=fun t ht=>hs t (by simp[ht]);have hr:∀ t∈foldC l,isS t=true:=fun t ht=>hl t (zl1 t ht);have ih':=ih hl;have e1:((l++[a]).map (inv false)).reverse=inv false a::(l.map (inv false)).reverse:=by simp
  rw[e1];have e2:foldC (inv false a::(l.map (inv false)).reverse)=((l.map (inv false)).reverse).foldl zl6 [inv false a]:=rfl;rw[e2,<-zsL (Red.one _),ih',zlB];have hrd:=Red.foldC l;generalize foldC l=r at *
  rcases List.eq_nil_or_concat r with rfl|⟨m,b,rfl⟩
  ·rfl
  ·rw[List.concat_eq_append] at *
   have hb:=hr b (by simp);have hm:∀ t∈m,isS t=true:=fun t ht=>hr t (by simp[ht])
   cases hc:canc b a
   ·rw[zlx hc];have hrev:=Red.rev (l:=m++[b]++[a]) (fun t ht=>by
     rcases List.mem_append.1 ht with ht|ht
     ·exact hr t ht
     ·rw[List.mem_singleton.1 ht];exact ha) (hrd.snoc hc)
    have e3:((m++[b]++[a]).map (inv false)).reverse=inv false a::((m++[b]).map (inv false)).reverse:=by simp
    rw[e3] at hrev ⊢;exact zrR hrev
   ·rw[zlG hc];have e4:((m++[b]).map (inv false)).reverse=inv false b::(m.map (inv false)).reverse:=by simp
    rw[e4,List.foldl_cons];have e5:zl6 [inv false a] (inv false b)=[]:=by
     have:canc (inv false a) (inv false b)=true:=by rw[zt1 ha hb];exact hc
     exact zlG (acc:=[]) this
    rw[e5];exact zrR (Red.rev hm hrd.init)
theorem zKH (t:T):(stm t).k=t.k:=by cases t;rw[stm];rfl
theorem znG {t:T} (h:isE t=true):skF t=t:=by simp[skF,zze h]
theorem znH {t:T} (h:isB t=true):skF t=simp t:=by simp[skF,zuu h]
theorem zqT {ks:List T} (h:∀ t∈ks,t.k≠57):ks.map skF=ks:=by
 conv=>rhs;rw[<-List.map_id ks]
 refine List.map_congr_left fun t ht=>?_;have:(t.k==57)=false:=by simpa using h t ht
 simp[skF,this]
theorem zxH:zks 0 ⟨#[]⟩=true:=by simp[zks,Go.ByteArray.toList_eq]
theorem zlq (k n:Int) (s:ByteArray) (ks:List T):stm (.nd k n s ks)=.nd k n s (ks.map skF):=by rw[stm,zss]
theorem znI (k n:Int) (s:ByteArray) (ks:List T):simp (.nd k n s ks)=.nd 57 0 ⟨#[]⟩ (foldC (ks.map stm)):=by rw[simp,zn1]
theorem zrr (t:T):(isS t=true->isS (stm t)=true/\stm (inv false t)=inv false (stm t))/\(isB t=true->isB (simp t)=true/\simp (inv false t)=inv false (simp t)):=by
 induction t using T.ind with
 | _ k n s ks ih =>
 constructor
 ·intro h;rcases zlb h with⟨hk,hks⟩|⟨hk,hp,a,b,c,d,rfl,ha,hb,hc,hd⟩|⟨rfl,hp,a,b,c,rfl,ha,hb,hc⟩|⟨rfl,hp,b,rfl,hb⟩
  ·rw[zmy hk hks,zlq,zlq,zqT hks,zmy hk hks];exact⟨h,rfl⟩
  ·obtain⟨b1,b2⟩:=(ih b (by simp)).2 hb;obtain⟨c1,c2⟩:=(ih c (by simp)).2 hc;rw[zrN hk ha hb hc hd,zlq,zlq];simp only[List.map_cons,List.map_nil,znG ha,znH hb,znH hc,znG hd,znH (zq0 hb),znH (zq0 hc)];rw[zrN hk ha b1 c1 hd,b2,c2];exact⟨zzd hk hp ha b1 c1 hd,rfl⟩
  ·obtain⟨b1,b2⟩:=(ih b (by simp)).2 hb;rw[zm6 ha hb hc,zlq,zlq];simp only[List.map_cons,List.map_nil,znG ha,znH hb,znG hc,znH (zq0 hb)];rw[zm6 ha b1 hc,b2];exact⟨zrK hp ha b1 hc,rfl⟩
  ·obtain⟨b1,b2⟩:=(ih b (by simp)).2 hb;rw[zmz hb,zlq,zlq];simp only[List.map_cons,List.map_nil,znH hb,znH (zq0 hb)];rw[zmz b1,b2];exact⟨zqj hp b1,rfl⟩
 ·intro h;obtain⟨rfl,hp,hks⟩:=(zmt _ _ _ _).1 h;have hst:∀ t∈ks.map stm,isS t=true:=fun t ht=>by
   obtain⟨u,hu,rfl⟩:=List.mem_map.1 ht;exact((ih u hu).1 (hks u hu)).1
  rw[zm8,znI,znI,zm8];refine⟨(zmt _ _ _ _).2 ⟨rfl,zxH,fun t ht=>hst t (zl1 t ht)⟩,?_⟩;congr 1;rw[<-zrQ _ hst];congr 1;rw[List.map_reverse,List.map_map,List.map_map];congr 1;exact List.map_congr_left fun u hu=>((ih u hu).1 (hks u hu)).2
theorem zow {t:T} (h:isS t=true):isS (stm t)=true:=((zrr t).1 h).1
theorem ztE {t:T} (h:isB t=true):isB (simp t)=true:=((zrr t).2 h).1
theorem zKt (A:Option Addr) (l c:Nat) (k n:Int) (s:ByteArray) (A':Option Addr) (l' c':Nat) (w:World):(Instr.build 35 #[(0,.slice A l c),(2,nv k n s A' l' c')]).run Tryz.prog w=.ok (pv A l c none 0 0 k n s A' l' c') w:=by kernel_rfl
theorem zKO:(Tryz.prog.info? 103).map (fun i=>(i.zero,i.size,i.bytes))=some (some (.agg #[.string ⟨#[]⟩,.slice none 0 0,.int .u8 0,.int .i64 0,.string ⟨#[]⟩,.slice none 0 0]),6,96):=by kernel_rfl
theorem zKo (a0 a1 a2 a3 a4 a5:Value) (w:World):(Instr.buildSlice 33 1 #[(0,.agg #[a0,a1,a2,a3,a4,a5])]).run Tryz.prog w=.ok (.slice (some ⟨w.heap.size,0,none⟩) 1 1) (w.alloc (.cells #[a0,a1,a2,a3,a4,a5] 103)):=by kernel_rfl
theorem zKr (s0:ByteArray) (A:Option Addr) (l c:Nat) (k n:Int) (s:ByteArray) (A':Option Addr) (l' c':Nat) (w:World):(Instr.build 103 #[(0,.string s0),(1,.slice A l c),(2,nv k n s A' l' c')]).run Tryz.prog w=.ok (.agg #[.string s0,.slice A l c,.int .u8 k,.int .i64 n,.string s,.slice A' l' c']) w:=by kernel_rfl
structure Pq (w wx:World) (E:TypeId) (vo:Option (Option Addr×List VD)) (mo:Option (Value×T)) (b:Option Nat):Prop where
 low:Below w.heap.size w wx
 vars:∀ A vs,vo=some (A,vs)->RowV wx (fun b'=>w.heap.size<=b'/\b≠some b') A vs
 main:∀ v t,mo=some (v,t)->NV wx (fun b'=>w.heap.size<=b'/\b≠some b') t v
 box:∀ g,b=some g->w.heap.size<=g/\wx.heap[g]?=some (.cells ZP E (0,0))
section
variable {w wx w':World} {E:TypeId} {vo:Option (Option Addr×List VD)} {mo:Option (Value×T)} {b:Option Nat}
theorem Pq.start (w:World) (E:TypeId):Pq w w E none none none :=
 ⟨Below.refl _ _,(by intro _ _ h;cases h),(by intro _ _ h;cases h),(by intro _ h;cases h)⟩
theorem Pq.later (h:Pq w wx E vo mo b) (hb:Below wx.heap.size wx w'):Pq w w' E vo mo b where
 low:=h.low.trans (hb.mono h.low.size)
 vars A vs e:=(h.vars A vs e).later hb
 main v t e:=(h.main v t e).later hb
 box g e:=let ⟨h1,h2⟩:=h.box g e;⟨h1,(hb.block _ (zki h2)).trans h2⟩
theorem Pq.drew (h:Pq w wx E vo mo b):Pq w wx.drew E vo mo b:=h.later (Below.refl _ _).drew
theorem Pq.alloc (h:Pq w wx E vo mo b) (ob:Obj):Pq w (wx.alloc ob) E vo mo b:=h.later ((Below.refl _ _).alloc (Nat.le_refl _) _)
theorem Pq.lay (h:Pq w wx E vo mo none):Pq w (wx.alloc (.cells ZP E)) E vo mo (some wx.heap.size) :=
 { h.alloc (.cells ZP E) with
  vars:=fun A vs e=>(h.vars A vs e).keep (fun b hb hlt=>⟨hb.1,by simp;omega⟩) fun b _ hlt=>Below.heap_alloc wx _ b hlt
  main:=fun v t e=>(h.main v t e).keep (fun b hb hlt=>⟨hb.1,by simp;omega⟩) fun b _ hlt=>Below.heap_alloc wx _ b hlt
  box:=fun g e=>by injection e with e;subst e;exact⟨h.low.size,heap_alloc_new wx _⟩ }
theorem Pq.putV {A:Option Addr} {vs:List VD} (h:Pq w wx E none mo b) (hr:RowV w' (From wx.heap.size) A vs) (hb:Below wx.heap.size wx w'):Pq w w' E (some (A,vs)) mo b :=
 { h.later hb with
  vars:=fun A' vs' e=>by
   injection e with e;injection e with e1 e2;subst e1 e2;refine hr.mono fun b' hb'=>⟨Nat.le_trans h.low.size hb',fun e=>?_⟩
   have:=zki (h.box b' e).2;have:wx.heap.size<=b':=hb';omega }
theorem Pq.putM {v:Value} {t:T} (h:Pq w wx E vo none b) (hr:NV w' (From wx.heap.size) t v) (hb:Below wx.heap.size wx w'):Pq w w' E vo (some (v,t)) b :=
 { h.later hb with
  main:=fun v' t' e=>by
   injection e with e;injection e with e1 e2;subst e1 e2;refine hr.mono fun b' hb'=>⟨Nat.le_trans h.low.size hb',fun e=>?_⟩
   have:=zki (h.box b' e).2;have:wx.heap.size<=b':=hb';omega }
theorem Pq.set6 {g:Nat} (h:Pq w wx E vo mo (some g)) (u0 u1 u2 u3 u4 u5:Value):Below w.heap.size w ((((((wx.setCell ⟨g,0,none⟩ u0).setCell ⟨g,1,none⟩ u1).setCell ⟨g,2,none⟩ u2).setCell ⟨g,3,none⟩ u3).setCell ⟨g,4,none⟩ u4).setCell ⟨g,5,none⟩ u5) :=
 zqE h.low (h.box g rfl).1 _ _ _ _ _ _
theorem Pq.done {w0:World} {ob:Obj} {ER:TypeId} {g:Nat} {A1:Option Addr} {l1 c1:Nat} {k n:Int} {s:ByteArray} {A3:Option Addr} {l3 c3:Nat} {vs:List VD} {m:T}
  (h:Pq w wx E (some (A1,vs)) (some (nv k n s A3 l3 c3,m)) (some g)) (h0:Below (w0.heap.size+2) ((w0.alloc ob).alloc (.cells ZP E)) w) :
  PI w0 ((((((wx.setCell ⟨g,0,none⟩ (.slice A1 l1 c1)).setCell ⟨g,1,none⟩ (.slice none 0 0)).setCell ⟨g,2,none⟩ (.int .u8 k)).setCell ⟨g,3,none⟩ (.int .i64 n)).setCell ⟨g,4,none⟩ (.string s)).setCell ⟨g,5,none⟩ (.slice A3 l3 c3)) E ER ob (fun b=>w0.heap.size+2<=b/\b≠g) g A1 l1 c1 k n s A3 l3 c3 (.slice none 0 0) vs m []:=by
 obtain⟨hg,hbx⟩:=h.box g rfl;have hz:w0.heap.size+2<=w.heap.size:=by have:=h0.size;simpa using this
 have hge:w0.heap.size+2<=g:=by omega
 have hkb:∀ b,b≠g->((((((wx.setCell ⟨g,0,none⟩ (.slice A1 l1 c1)).setCell ⟨g,1,none⟩ (.slice none 0 0)).setCell ⟨g,2,none⟩ (.int .u8 k)).setCell ⟨g,3,none⟩ (.int .i64 n)).setCell ⟨g,4,none⟩ (.string s)).setCell ⟨g,5,none⟩ (.slice A3 l3 c3)).heap[b]?=wx.heap[b]?:=fun b hb=>by
  rw[Below.heap_setCell _ _ _ _ (by simpa using hb),Below.heap_setCell _ _ _ _ (by simpa using hb),Below.heap_setCell _ _ _ _ (by simpa using hb),Below.heap_setCell _ _ _ _ (by simpa using hb),Below.heap_setCell _ _ _ _ (by simpa using hb),Below.heap_setCell _ _ _ _ (by simpa using hb)]
 refine⟨zqE (h0.trans (h.low.mono hz)) hge _ _ _ _ _ _,hge,?_,OwnP.nil _ _ _ _,by simp[Value.ownBlock],
  (h.vars _ _ rfl).keep (fun b hb _=>⟨⟨by omega,fun e=>hb.2 (by rw[e])⟩,by simp[Value.ownBlock]⟩) (fun b hb _=>hkb b fun e=>hb.2 (by rw[e])),
  (h.main _ _ rfl).keep (fun b hb _=>⟨⟨by omega,fun e=>hb.2 (by rw[e])⟩,by simp[Value.ownBlock]⟩) (fun b hb _=>hkb b fun e=>hb.2 (by rw[e])),fun b hb=>.inr hb⟩
 have h0:=heap_setCell_same wx g 0 _ E (.slice A1 l1 c1) hbx;have h1:=heap_setCell_same _ g 1 _ E (.slice none 0 0) h0;have h2:=heap_setCell_same _ g 2 _ E (.int .u8 k) h1;have h3:=heap_setCell_same _ g 3 _ E (.int .i64 n) h2;have h4:=heap_setCell_same _ g 4 _ E (.string s) h3;have h5:=heap_setCell_same _ g 5 _ E (.slice A3 l3 c3) h4;simpa using h5
theorem Pq.done2 {w0:World} {ob:Obj} {ER:TypeId} {A1:Option Addr} {l1 c1:Nat} {k n:Int} {s:ByteArray} {A3:Option Addr} {l3 c3:Nat} {vs:List VD} {m:T}
  (h:Pq w wx E (some (A1,vs)) (some (nv k n s A3 l3 c3,m)) none) (h0:Below (w0.heap.size+2) ((w0.alloc ob).alloc (.cells ZP E)) w) :
  PI w0 (wx.alloc (.cells #[.slice A1 l1 c1,.slice none 0 0,.int .u8 k,.int .i64 n,.string s,.slice A3 l3 c3] E)) E ER ob (fun b=>w0.heap.size+2<=b/\b≠wx.heap.size) wx.heap.size A1 l1 c1 k n s A3 l3 c3 (.slice none 0 0) vs m []:=by
 have hz:w0.heap.size+2<=w.heap.size:=by have:=h0.size;simpa using this
 have hz2:=h.low.size;have ha:=(Below.refl wx.heap.size wx).alloc (Nat.le_refl _) (.cells #[.slice A1 l1 c1,.slice none 0 0,.int .u8 k,.int .i64 n,.string s,.slice A3 l3 c3] E);exact⟨h0.trans ((h.low.mono hz).trans (ha.mono (by omega))),by omega,heap_alloc_new wx _,OwnP.nil _ _ _ _,by simp[Value.ownBlock],
  (h.vars _ _ rfl).keep (fun b hb hlt=>⟨⟨by omega,by omega⟩,by simp[Value.ownBlock]⟩) (fun b _ hlt=>ha.block b hlt),
  (h.main _ _ rfl).keep (fun b hb hlt=>⟨⟨by omega,by omega⟩,by simp[Value.ownBlock]⟩) (fun b _ hlt=>ha.block b hlt),fun b hb=>.inr hb⟩
end
theorem zoO {P:Program} {W:World} {ops:Array Oper} {o:Oper} {a:Act} {K:Act->World->Prop} {Q:Exit->Act->World->Prop} {F:Prop} (hgd:o.guard=none) (s x:Operand) (ty:TypeId)
  (ho:o.op=.call { callee:=.builtin .append,args := #[s,x],argTypes := #[ty,ty] }) (E:TypeId) (i:TypeInfo) (z:Value) (ht:P.underlying ty=some (.slice E)) (hi:P.info? E=some i) (hz:i.zero=some z)
  (hsize:i.size=6) (hby:i.bytes=96) (hzs:z.cells.size=6) (base:Nat) (S:Nat->Prop) (v:Value) (ps:List PR) (hs:a.eval s=v) (hown:OwnP W base E S v ps)
  (r:PR) (A1:Option Addr) (c1:Nat) (A2:Option Addr) (c2:Nat) (hx:a.eval x=.slice (some ⟨W.heap.size,0,none⟩) 1 1) (hr:PrR W (fun b=>S b/\some b≠v.ownBlock) r A1 c1 A2 c2) (hlen:ps.length+1<=1000) (hbase:base<=W.heap.size)
  (h:∀ v' w',OwnP w' base E S v' (ps++[r])->W.grownBy w' v.ownBlock->(v'.ownBlock=v.ownBlock\/∃ g,v'.ownBlock=some g/\W.heap.size<=g)->K (a.put o.dst v') w') :
  if Region.wanted o (yielded ops a.tmps)=true then Oper.wp P o a (W.alloc (.cells #[.string r.s,.slice A1 r.ps.length c1,.int .u8 r.b.k,.int .i64 r.b.n,.string r.b.s,.slice A2 r.b.ks.length c2] E)) K Q else F:=by
 have hw:Region.wanted o (yielded ops a.tmps)=true:=by simp[Region.wanted,hgd]
 rw[if_pos hw];obtain⟨xs,hrow,_,hns⟩:=hown;obtain⟨v',w',hrn,h2,h3,_,h5⟩:=run_append_own_at (P:=P) (W.alloc (.cells #[.string r.s,.slice A1 r.ps.length c1,.int .u8 r.b.k,.int .i64 r.b.n,.string r.b.s,.slice A2 r.b.ks.length c2] E)) base ty o.type E i z 6 96 ht hi hz hsize hby hzs (by decide) v ps.length xs (hrow.alloc _) ⟨W.heap.size,0,none⟩ 1 1 [.string r.s,.slice A1 r.ps.length c1,.int .u8 r.b.k,.int .i64 r.b.n,.string r.b.s,.slice A2 r.b.ks.length c2] (by simp)
  (zk3 W E _) (by intro u hu;simp at hu;rcases hu with rfl|rfl|rfl|rfl|rfl|rfl<;>rfl) (by unfold maxLen;omega) (by omega) (by simp;omega)
 unfold Oper.wp execOp;simp only[ho,resolve,invoke,builtin,Sem.run_bind,Sem.run_pure,Result.andThen_ok,List.map_toArray,List.map_cons,List.map_nil,hs,hx,hrn];refine h v' w' (zvr hrow hns hr hlen h2 h3 h5) ⟨h3.os,h3.tape,h3.output,Nat.le_trans (by simp) h3.size,fun b hb hne=>?_⟩ ?_
 ·rw[h3.block b (by simp;omega) hne];exact Below.heap_alloc W _ b hb
 ·rcases h5 with h5|h5
  ·exact .inl h5
  ·exact .inr ⟨_,h5,by simp⟩
theorem zoq {P:Program} {W:World} {ops:Array Oper} {o:Oper} {a:Act} {K:Act->World->Prop} {Q:Exit->Act->World->Prop} {F:Prop} (hgd:o.guard=none) (s x:Operand) (ty:TypeId)
  (ho:o.op=.call { callee:=.builtin .append,args := #[s,x],argTypes := #[ty,ty] }) (E:TypeId) (i:TypeInfo) (z:Value) (ht:P.underlying ty=some (.slice E)) (hi:P.info? E=some i) (hz:i.zero=some z)
  (hsize:i.size=6) (hby:i.bytes=96) (hzs:z.cells.size=6) (base:Nat) (S:Nat->Prop) (v:Value) (ps:List PR) (hs:a.eval s=v) (hown:OwnP W base E S v ps)
  (r:PR) (L:Nat) (hL:r.ps.length=L) (A1:Option Addr) (c1:Nat) (A2:Option Addr) (c2:Nat) (hx:a.eval x=.slice (some ⟨W.heap.size,0,none⟩) 1 1) (hr:PrR W (fun b=>S b/\some b≠v.ownBlock) r A1 c1 A2 c2) (hlen:ps.length+1<=1000) (hbase:base<=W.heap.size)
  (h:∀ v' w',OwnP w' base E S v' (ps++[r])->W.grownBy w' v.ownBlock->(v'.ownBlock=v.ownBlock\/∃ g,v'.ownBlock=some g/\W.heap.size<=g)->K (a.put o.dst v') w') :
  if Region.wanted o (yielded ops a.tmps)=true then Oper.wp P o a (W.alloc (.cells #[.string r.s,.slice A1 L c1,.int .u8 r.b.k,.int .i64 r.b.n,.string r.b.s,.slice A2 r.b.ks.length c2] E)) K Q else F:=by
 subst hL;exact zoO hgd s x ty ho E i z ht hi hz hsize hby hzs base S v ps hs hown r A1 c1 A2 c2 hx hr hlen hbase h
def zLk (w:World) (vs:List VD) (e:Ending) (w':World):Prop:=∃ A' c',e=.returned (.slice A' vs.length c')/\RowV w' (From w.heap.size) A' vs/\vs.length<=c'/\Below w.heap.size w w'
theorem zqH (vs:List VD) (A:Option Addr) (c:Nat) (S:Nat->Prop) (w:World) (hrow:RowV w S A vs) (hl:vs.length<=LV):Calls Tryz.prog 78 #[.slice A vs.length c] w (zLk w vs):=by
 obtain⟨i0,hi0,hz0,hz1,hz2⟩:=info_parts zuV;have hl':=zlE hl;rcases A with _|a
 ·have h0:vs=[]:=by
   cases vs with
   | nil=>rfl
   | cons v vs=>obtain⟨_,h,_⟩:=hrow 0 (by simp);cases h
  subst h0;have he:=zz8;clear hrow hl;go_enter Tryz.func78,Tryz.ntmps78;go_wp2_with fail;go_ret;exact⟨none,0,rfl,fun i hi=>absurd hi (by simp),Nat.le_refl _,Below.refl _ _⟩
 ·obtain⟨news,hnl,hnc,hn1,nS⟩:=(hrow.later ((Below.refl w.heap.size w).alloc (Nat.le_refl _) (.cells #[] 83))).news;have HF:=zh (show ∀ i (hi:i<vs.length),FldV vs[i] from fun i hi=>(hrow i hi).choose_spec.2.2.2);have xE:=zh nS;have hown:(w.alloc (.cells #[] 83)).ownsRow w.heap.size 83 3 (.slice (some ⟨w.heap.size,0,none⟩) 0 0) 0 [] :=
   ⟨rfl,.inr ⟨w.heap.size,0,#[],rfl,Nat.le_refl _,heap_alloc_new w _,Nat.le_refl _,Nat.zero_le _,rfl,rfl⟩⟩
  have hm1:0+vs.length<=maxLen:=by unfold maxLen;omega
  have hm2:(0+vs.length)*32<=140737488355328:=by omega
  have hb0:=zKh;have he:=zK2;clear hrow hl nS;go_enter Tryz.func78,Tryz.ntmps78;go_wp2_with (at_builtin;refine wpList_append_own_at (P:=Tryz.prog) _ rfl (.tmp 5) (.tmp 6) 22 rfl w.heap.size 83 i0 _ 3 32 Tryz.underlying22 hi0 hz0 hz1 hz2 rfl (by decide) (.slice (some ⟨w.heap.size,0,none⟩) 0 0) 0 [] rfl hown a vs.length c news rfl hnl hnc hn1 hm1 hm2 (by simp) ?_;intro v' w' h2 h3 h4 h5)
  have hbl:Below w.heap.size w w':=((Below.refl w.heap.size w).alloc (Nat.le_refl _) _).grown h3 (by simp) (fun g e=>by simp[Value.ownBlock] at e;omega);rcases h2.2 with⟨hnil,_⟩|⟨g,cap,cur,rfl,hbg,hg,hc,hm,hz,hx⟩
  ·exact absurd (h4.1 hnil).1 (by simp)
  ·have HR:=zh (show RowV w' (From w.heap.size) (some ⟨g,0,none⟩) vs from fun i hi=>by
    have ha:(⟨g,0,none⟩:Addr).add (i*3)=⟨g,i*3,none⟩:=by unfold Addr.add;split<;>simp_all
    obtain⟨e0,e1,e2⟩:=xE.out i hi;refine⟨⟨g,0,none⟩,rfl,hbg,?_,HF.out i hi⟩;rw[ha];refine⟨?_,?_,?_⟩
    ·rw[h2.cellAt (i*3) (by omega)];simpa using e0
    ·rw[h2.cellAt (i*3+1) (by omega)];simpa using e1
    ·rw[h2.cellAt (i*3+2) (by omega)];simpa using e2)
   have HB:=zh hbl;have HC:=zh (show vs.length<=cap by omega);clear h2 h3 h4 h5 hx hz hg hbl hnc hn1 hown;go_wp2_with fail;go_ret;exact⟨some ⟨g,0,none⟩,cap,by simp,HR.out,HC.out,HB.out⟩
end Go.Proofs.YtckhofdinldhpaaGreat
