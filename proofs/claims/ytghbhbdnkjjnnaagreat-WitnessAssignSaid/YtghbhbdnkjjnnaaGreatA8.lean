/-
  Texts of the proof, put together without their remarks: Ib, Fw, Wbg, Ecp, Stn, Enw, Rfg, Bkv, Rfx, Enp, Enq.
-/
import Derived.Test.YtghbhbdnkjjnnaaGreatA7
import Derived.Laws.BytesString
set_option linter.unusedSimpArgs false
set_option linter.unusedVariables false
set_option maxHeartbeats 8000000
set_option maxRecDepth 100000
namespace Go.Proofs.YtghbhbdnkjjnnaaGreat
section
open Go Go.RowKit
def Fam(p:PG):Prop:=∃G:List PR->T->Prop,(∀g,IStC G g)/\(zle p=true->chkN p=0->(∀u∈p.m.ks,G p.prs u)/\∀(F:Int) (g:Nat) (back:Bool) (r:RS),Nz (runO p.prs F g back p.m r))
theorem zw4(p:PG):Fam p:=⟨GP,zqT zyl,fun hv hc=>⟨zud hv hc,fun _ _ _ _=>zwF zyl (zud hv hc)⟩⟩
theorem zrA{G:List PR->T->Prop}(hS:∀g,IStC G g){C:RC}(hC:C.Ok){W:World}{r:RS}(h:RI C W r)(hG:∀u∈C.p.m.ks,G C.p.prs u)(g:Nat)(back:Bool)(hg:runO C.p.prs C.F g back C.p.m r ≠ .gas)(pb qb bb:Nat)
  (h0:W.cell? ⟨pb,0,none⟩=some (.pointer (some ⟨C.rb,0,none⟩)))(hq:W.heap[qb]?=some (.cells #[.slice C.A1 C.p.vs.length C.c1,.slice C.A2 C.p.prs.length C.c2,.int .u8 C.p.m.k,.int .i64 C.p.m.n,.string C.p.m.s,.slice C.A3 C.p.m.ks.length C.c3] 55 (0,0)))(hb:W.cell? ⟨bb,0,none⟩=some (.bool back)) :
  Calls Tryz.prog 117 #[.pointer (some ⟨pb,0,none⟩),.pointer (some ⟨qb,0,none⟩),.pointer (some ⟨bb,0,none⟩)] W (RunP C W (runO C.p.prs C.F g back C.p.m r)):=by
 have aj:=zh (zla (hS g) hC h C.p.m _ back hC.pg.main hG hg);have q2:W.cell? ⟨qb,2,none⟩=some (.int .u8 C.p.m.k):=zc hq rfl;have q3:W.cell? ⟨qb,3,none⟩=some (.int .i64 C.p.m.n):=zc hq rfl;have q4:W.cell? ⟨qb,4,none⟩=some (.string C.p.m.s):=zc hq rfl;have q5:W.cell? ⟨qb,5,none⟩=some (.slice C.A3 C.p.m.ks.length C.c3):=zc hq rfl;obtain⟨o,ho⟩:=zX (runO C.p.prs C.F g back C.p.m r);rw[ho]at aj hg ⊢;clear hC h hG hq ho;go_enter Tryz.func117,Tryz.ntmps117;go_wp2_with fail;refine aj.out.mono ?_;rintro e w1 ⟨hk1,hb1,ho1⟩
 cases o with
 | gas=>exact absurd rfl hg
 | err x =>
  subst ho1;exact⟨rfl,hk1,hb1,rfl⟩
 | ok r1 =>
  obtain⟨⟨u,rfl⟩,hr1⟩:=ho1;have HR:=zh hr1;have aB:=zh hk1;have HB1:=zh hb1;clear h0 q2 q3 q4 q5 hb hr1 hk1 hb1;go_wp2_with fail;go_end0;exact⟨aB.out,HB1.out,⟨_,rfl⟩,HR.out⟩
def outR(s:SS):Out->SS×Nat×Int×List Nat
 | .ok r=>(r.S.state,r.n,0,r.ent)
 | .err e=>(s,0,e,[])
 | .gas=>(s,0,0,[])
def resO(p:PG)(s:SS)(F:Int)(g:Nat)(back:Bool):SS×Nat×Int×List Nat :=
 if zle p=false\/chkN p≠0 then(s,0,3,[])else if fitB p.vs s=false then(s,0,20,[])else outR s (runO p.prs F g back p.m ⟨newS p.vs s,0,List.replicate p.prs.length 0⟩)
def LimR(R:SS×Nat×Int×List Nat):Prop:=R.1.Lim/\(R.2.2.1=0->R.1.cells.length<=1000+R.2.1/\(∀l∈R.1.cells,l.length<=1000)/\R.1.tin.length<=4096/\R.1.tout.length<=4096)
theorem LimR.run{r:RS}(h:r.S.WF)(hf:FB r.n r.S)(e:List Nat):LimR (r.S.state,r.n,0,e):=by
 obtain⟨-,h1,h2⟩:=znQ h;obtain⟨kd,hb,-⟩:=h.ex;refine⟨h1,fun _=>⟨?_,h2,h.tin.1,h.tout.1⟩⟩;have:=hb.len;have:=hf.1;simp only[ST.state,List.length_map,List.length_take];omega
def ResP(W:World)(R:SS×Nat×Int×List Nat)(e:Ending)(W':World):Prop:=∃A c v1 v2 v3,e=.returned (.tuple #[.slice A R.2.2.2.length c,.agg #[v1,v2,v3,.int .i64 (R.2.1:Int),.int .i64 R.2.2.1]]) /\
 OwnS W' W.heap.size R.1 (.agg #[v1,v2,v3])/\RowI W' (fun b=>W.heap.size<=b) A (R.2.2.2.map Int.ofNat)/\R.2.2.2.length<=c/\Below W.heap.size W W'/\LimR R
theorem OwnS.slices{W:World}{n0:Nat}{s:SS}{v:Value}(h:OwnS W n0 s v):∃A c B d D e,v=.agg #[.slice A s.cells.length c,.slice B s.tin.length d,.slice D s.tout.length e]:=by
 obtain⟨vc,vi,vo,fc,rfl,hr,-⟩:=h;obtain⟨A,c,e1,-⟩:=zkd (hr.row .all);obtain⟨B,d,e2,-⟩:=zkd (hr.row .inp);obtain⟨D,e,e3,-⟩:=zkd (hr.row .out);change vc=.slice A s.cells.length c at e1;change vi=.slice B s.tin.length d at e2;change vo=.slice D s.tout.length e at e3;exact⟨A,c,B,d,D,e,by rw[e1,e2,e3]⟩
theorem OwnS.chg{W W':World}{n0:Nat}{s:SS}{v:Value}{Cc:Nat->Prop}(h:OwnS W n0 s v)(hc:Chg Cc W W')(hC:∀b,Cc b->b<n0):OwnS W' n0 s v:=by
 obtain⟨vc,vi,vo,fc,rfl,hr,hi⟩:=h;exact⟨vc,vi,vo,fc,rfl,hr.chg hc fun i b hb hcb=>by have:=(hr.lt i b hb).1;have:=hC b hcb;omega,hi⟩
theorem OwnS.lower{W:World}{n0 n1:Nat}{s:SS}{v:Value}(h:OwnS W n1 s v)(hn:n0<=n1):OwnS W n0 s v:=by
 obtain⟨vc,vi,vo,fc,rfl,hr,hi⟩:=h;exact⟨vc,vi,vo,fc,rfl,hr.mono hn,hi⟩
theorem set5{W:World}{b:Nat}{x0 x1 x2 x3 x4 u0 u1 u2 u3 u4:Value}{E:TypeId}(h:W.heap[b]?=some (.cells #[x0,x1,x2,x3,x4] E (0,0))) :
  (((((W.setCell ⟨b,0,none⟩ u0).setCell ⟨b,1,none⟩ u1).setCell ⟨b,2,none⟩ u2).setCell ⟨b,3,none⟩ u3).setCell ⟨b,4,none⟩ u4).heap[b]?=some (.cells #[u0,u1,u2,u3,u4] E (0,0)) /\
   Chg (fun q=>q=b) W (((((W.setCell ⟨b,0,none⟩ u0).setCell ⟨b,1,none⟩ u1).setCell ⟨b,2,none⟩ u2).setCell ⟨b,3,none⟩ u3).setCell ⟨b,4,none⟩ u4):=by
 refine⟨?_,(((((Chg.refl (fun q=>q=b) W).setCell (p:=⟨b,0,none⟩) (.inl rfl) _).setCell (p:=⟨b,1,none⟩) (.inl rfl) _).setCell (p:=⟨b,2,none⟩) (.inl rfl) _).setCell (p:=⟨b,3,none⟩) (.inl rfl) _).setCell (p:=⟨b,4,none⟩) (.inl rfl) _⟩;rw[heap_setCell_same _ b 4 _ _ u4 (heap_setCell_same _ b 3 _ _ u3 (heap_setCell_same _ b 2 _ _ u2 (heap_setCell_same _ b 1 _ _ u1 (heap_setCell_same W b 0 _ _ u0 h))))];simp
theorem bRes(A B D:Option Addr)(l c m d n e:Nat)(x:Int)(w:World):(Instr.build 91 #[(0,.agg #[.slice A l c,.slice B m d,.slice D n e]),(2,.int .i64 x)]).run Tryz.prog w=.ok (.agg #[.slice A l c,.slice B m d,.slice D n e,.int .i64 0,.int .i64 x]) w:=by kernel_rfl
theorem zyK(A B D:Option Addr)(l c m d n e:Nat)(x:Int)(w:World):(Instr.build 91 #[(0,.agg #[.slice A l c,.slice B m d,.slice D n e]),(1,.int .i64 x)]).run Tryz.prog w=.ok (.agg #[.slice A l c,.slice B m d,.slice D n e,.int .i64 x,.int .i64 0]) w:=by kernel_rfl
theorem zsQ(n:Nat):madeCells (Value.int .i64 0).cells (n*1)=(zkf (List.replicate n 0)).toArray:=by
 apply Array.ext';apply List.ext_getElem
 ·rw[Array.length_toList,size_madeCells];simp[zkf]
 ·intro i h1 h2;have e:i % 1=0:=by omega
  simp[madeCells,zkf,Value.cells,e]
theorem zyM(n:Nat)(hn:n<=4096)(w:World):(Instr.makeSlice 32 (.int .i64 (n:Int)) (.int .i64 (n:Int))).run Tryz.prog w=.ok (.slice (some ⟨w.heap.size,0,none⟩) n n) (w.alloc (.cells (zkf (List.replicate n 0)).toArray 3)):=by
 have h:=znn;obtain⟨i,hi,hz⟩:=Option.map_eq_some_iff.1 h;injection hz with h1 h2;injection h2 with h2 h3;have hsc:(4096:Nat)<=9223372036854775807:=by decide
 have:=zlg (P:=Tryz.prog) 32 3 i (.int .i64 0) Tryz.underlying32 hi h1 .i64 .i64 n n zl (by rw[h3];omega) (Nat.le_trans hn hsc) w;rw[h2,zsQ]at this;exact this
theorem bRun(A1 A2 A3 E:Option Addr)(l1 c1 l2 c2 l3 c3 m d:Nat)(k n F:Int)(s:ByteArray)(sb:Nat)(w:World):(Instr.build 180 #[(0,pv A1 l1 c1 A2 l2 c2 k n s A3 l3 c3),(1,.pointer (some ⟨sb,0,none⟩)),(3,.int .i64 F),(4,.slice E m d)]).run Tryz.prog w =
  .ok (.agg #[.slice A1 l1 c1,.slice A2 l2 c2,.int .u8 k,.int .i64 n,.string s,.slice A3 l3 c3,.pointer (some ⟨sb,0,none⟩),.int .i64 0,.int .i64 F,.slice E m d]) w:=by kernel_rfl
theorem ztG{W:World}{a b:Nat}{x y:Array Value}{E F:TypeId}(ha:W.heap[a]?=some (.cells x E (0,0)))(hb:W.heap[b]?=some (.cells y F (0,0)))(hne:E≠F):a≠b:=by
 rintro rfl;rw[ha]at hb;injection hb with hb;injection hb with h1 h2;exact hne h2
theorem zpZ{W w4 w8 aZ:World}{n0:Nat}{kb:Nat->Prop}(h4:Below W.heap.size W w4)(h11:Below W.heap.size W aZ)(h48:Below w4.heap.size w4 w8)(hk:Kpt n0 kb w8 aZ)(hn:w4.heap.size<=n0):Below w4.heap.size w4 aZ :=
 ⟨h11.os.trans h4.os.symm,h11.tape.trans h4.tape.symm,h11.output.trans h4.output.symm,Nat.le_trans h48.size hk.size,fun b hb=>(hk.kept b (Nat.lt_of_lt_of_le hb h48.size) (.inl (Nat.lt_of_lt_of_le hb hn))).trans (h48.block b hb)⟩
theorem zu5:IsFn Tryz.prog 117 Tryz.f117:=⟨Tryz.func117,by kernel_rfl,by kernel_rfl⟩
theorem zrc:IsFn Tryz.prog 28 Tryz.f28:=⟨Tryz.func28,by kernel_rfl,by kernel_rfl⟩
def OkR(C:RC)(lo hi:Nat)(o:Out)(w9 w':World):Prop:=∃r,o=.ok r/\(C.plus lo hi).Ok/\RI (C.plus lo hi) w' r/\Kpt C.n0 C.kb w9 w'
def ErX(C:RC)(o:Out)(w9:World)(x:Int)(w':World):Prop:=o=.err x/\Kpt C.n0 C.kb w9 w'/\Below C.w.heap.size C.w w'
theorem zqD{G:List PR->T->Prop}(hS:∀g,IStC G g){C:RC}{w8 w9:World}{r:RS}{jb:Nat}(hC8:C.Ok)(h8:RI C w8 r)(aP:w8.alloc (.cells #[.slice none 0 0,.bool false] 185)=w9)(hjb:w8.heap.size=jb)(hG:∀u∈C.p.m.ks,G C.p.prs u)(g:Nat)(back:Bool)(o:Out)(ho:runO C.p.prs C.F g back C.p.m r=o)(hg:o ≠ .gas)(pb qb bb:Nat)
  (h0:w8.cell? ⟨pb,0,none⟩=some (.pointer (some ⟨C.rb,0,none⟩)))(hq:w8.heap[qb]?=some (.cells #[.slice C.A1 C.p.vs.length C.c1,.slice C.A2 C.p.prs.length C.c2,.int .u8 C.p.m.k,.int .i64 C.p.m.n,.string C.p.m.s,.slice C.A3 C.p.m.ks.length C.c3] 55 (0,0)))(hb:w8.cell? ⟨bb,0,none⟩=some (.bool back)) :
  Calls Tryz.prog 116 #[.pointer (some ⟨jb,0,none⟩),.func (.func 117) #[] #[.pointer (some ⟨pb,0,none⟩),.pointer (some ⟨qb,0,none⟩),.pointer (some ⟨bb,0,none⟩)]] w9 (AttP w9 (OkR (C.plus jb w9.heap.size) w9.heap.size (w9.heap.size+3) o w9) (ErX (C.plus jb w9.heap.size) o w9)):=by
 have hbj:=zkc (zs w8) (.cells #[.slice none 0 0,.bool false] 185);have kj:=heap_alloc_new w8 (.cells #[.slice none 0 0,.bool false] 185);obtain⟨hC9,h9⟩:=h8.plus hC8 hbj;rw[aP,hjb]at kj hC9 h9;rw[aP]at hbj;have hjl:=zki kj;refine zqO jb _ _ zu5 _ w9 kj _ _ fun W1 hb1 hz1=>?_;obtain⟨dJ,h1⟩:=h9.plus hC9 hb1;have hbt:=zkb hbj hb1;have hrun:=zrA hS dJ h1 hG g back (show runO C.p.prs C.F g back C.p.m r ≠ .gas by rw[ho];exact hg) pb qb bb (zb hbt h0) (zka hq hbt) (zb hbt hb);refine hrun.mono ?_;rintro e w' ⟨hk,hbl,hout⟩;rw[show runO ((C.plus jb w9.heap.size).plus w9.heap.size W1.heap.size).p.prs ((C.plus jb w9.heap.size).plus w9.heap.size W1.heap.size).F g back ((C.plus jb w9.heap.size).plus w9.heap.size W1.heap.size).p.m r=o from ho]at hout;refine⟨fun b hb hlt=>hk.kept b hlt (.inr ?_),?_⟩
 ·rcases hb with hb|rfl
  ·exact .inr ⟨hb,hlt⟩
  ·exact .inl (.inr ⟨zl,hjl⟩)
 ·have hkk:Kpt C.n0 (C.plus jb w9.heap.size).kb w9 w':=(Kpt.of_below hb1).trans (Kpt.less (C:=C.plus jb w9.heap.size) hk)
  cases o with
  | gas=>exact absurd rfl hg
  | err x=>exact .inr ⟨x,hout,rfl,hkk,hbl⟩
  | ok r1 =>
   rw[hz1]at dJ hout;exact .inl ⟨hout.1,r1,rfl,dJ,hout.2,hkk⟩
theorem zst(p:PG)(s:SS)(F:Int)(g:Nat)(back:Bool)(v sv:Value)(W:World)(hp:PV W Any p v)(hs:SV W Any s sv)(hcl:s.cells.length<=5864062014800)(hF:I64 F)(mM:F<=1000000)(hg:F.toNat*2000+2000<=g)(hfam:Fam p) :
  Calls Tryz.prog 85 #[v,sv,.int .i64 F,.bool back] W (ResP W (resO p s F g back)):=by
 have HFAM:=zh hfam;clear hfam;have HP:=zh hp;have HS:=zh hs;obtain⟨A1,c1,A2,c2,A3,c3,rfl,uF⟩:=hp;obtain⟨A,c,B,d,D,e,rfl,hr1,hr2,hr3,hc1,hc2,hc3,hl1,hl2,hl3,hl4⟩:=hs;have HPG:=zh uF;have nu:=zh (show s.Lim from⟨hl1,hl2,hl3,hl4⟩);have HV:=zh (fun w' (hb:Below W.heap.size W w')=>zp2 p Any _ w' (HP.out.later hb));have bP:=zh (fun w' (hb:Below W.heap.size W w')=>zr0 p Any _ w' (HP.out.later hb));have bJ:=zh (fun w' (hb:Below W.heap.size W w')=>zpx s _ w' (HS.out.later hb) hcl);have iA:=zh (fun w' (hb:Below W.heap.size W w')=>zqI p.vs s A1 c1 _ w' (uF.vars.later hb) uF.lv (HS.out.later hb));obtain⟨Re,hRe⟩:=zX (resO p s F g back);have fM:=zh hRe;rw[hRe]
 have hb4:=zkc (zkc (zkc (zkc (zs W) (.cells #[.slice A1 p.vs.length c1,.slice A2 p.prs.length c2,.int .u8 p.m.k,.int .i64 p.m.n,.string p.m.s,.slice A3 p.m.ks.length c3] 55)) (.cells #[.slice A s.cells.length c,.slice B s.tin.length d,.slice D s.tout.length e] 34)) (.cells #[.bool back] 4)) (.cells #[.slice none 0 0,.slice none 0 0,.slice none 0 0,.int .i64 0,.int .i64 0] 91);have k0:=zkg (zkg (zkg (heap_alloc_new W (.cells #[.slice A1 p.vs.length c1,.slice A2 p.prs.length c2,.int .u8 p.m.k,.int .i64 p.m.n,.string p.m.s,.slice A3 p.m.ks.length c3] 55)) (.cells #[.slice A s.cells.length c,.slice B s.tin.length d,.slice D s.tout.length e] 34)) (.cells #[.bool back] 4)) (.cells #[.slice none 0 0,.slice none 0 0,.slice none 0 0,.int .i64 0,.int .i64 0] 91)
 have k1:=zkg (zkg (heap_alloc_new (W.alloc (.cells #[.slice A1 p.vs.length c1,.slice A2 p.prs.length c2,.int .u8 p.m.k,.int .i64 p.m.n,.string p.m.s,.slice A3 p.m.ks.length c3] 55)) (.cells #[.slice A s.cells.length c,.slice B s.tin.length d,.slice D s.tout.length e] 34)) (.cells #[.bool back] 4)) (.cells #[.slice none 0 0,.slice none 0 0,.slice none 0 0,.int .i64 0,.int .i64 0] 91);have k2:=zkg (heap_alloc_new ((W.alloc (.cells #[.slice A1 p.vs.length c1,.slice A2 p.prs.length c2,.int .u8 p.m.k,.int .i64 p.m.n,.string p.m.s,.slice A3 p.m.ks.length c3] 55)).alloc (.cells #[.slice A s.cells.length c,.slice B s.tin.length d,.slice D s.tout.length e] 34)) (.cells #[.bool back] 4)) (.cells #[.slice none 0 0,.slice none 0 0,.slice none 0 0,.int .i64 0,.int .i64 0] 91)
 have k3:=heap_alloc_new (((W.alloc (.cells #[.slice A1 p.vs.length c1,.slice A2 p.prs.length c2,.int .u8 p.m.k,.int .i64 p.m.n,.string p.m.s,.slice A3 p.m.ks.length c3] 55)).alloc (.cells #[.slice A s.cells.length c,.slice B s.tin.length d,.slice D s.tout.length e] 34)).alloc (.cells #[.bool back] 4)) (.cells #[.slice none 0 0,.slice none 0 0,.slice none 0 0,.int .i64 0,.int .i64 0] 91);simp only[World.size_alloc]at k1 k2 k3;have jJ:((((W.alloc (.cells #[.slice A1 p.vs.length c1,.slice A2 p.prs.length c2,.int .u8 p.m.k,.int .i64 p.m.n,.string p.m.s,.slice A3 p.m.ks.length c3] 55)).alloc (.cells #[.slice A s.cells.length c,.slice B s.tin.length d,.slice D s.tout.length e] 34)).alloc (.cells #[.bool back] 4)).alloc (.cells #[.slice none 0 0,.slice none 0 0,.slice none 0 0,.int .i64 0,.int .i64 0] 91)).heap.size=W.heap.size+4:=by simp
 obtain⟨w4,hw4⟩:=zX (((((W.alloc (.cells #[.slice A1 p.vs.length c1,.slice A2 p.prs.length c2,.int .u8 p.m.k,.int .i64 p.m.n,.string p.m.s,.slice A3 p.m.ks.length c3] 55)).alloc (.cells #[.slice A s.cells.length c,.slice B s.tin.length d,.slice D s.tout.length e] 34)).alloc (.cells #[.bool back] 4)).alloc (.cells #[.slice none 0 0,.slice none 0 0,.slice none 0 0,.int .i64 0,.int .i64 0] 91)));rw[hw4]at hb4 k0 k1 k2 k3 jJ;have av:=zh hb4;have aN:=zh k0;have aB:=zh k1;have aL:=zh k2;have gu:=zh k3;have lq:=zh jJ;have p0:w4.cell? ⟨W.heap.size,0,none⟩=some (.slice A1 p.vs.length c1):=zc k0 rfl;have p1:w4.cell? ⟨W.heap.size,1,none⟩=some (.slice A2 p.prs.length c2):=zc k0 rfl;have p2:w4.cell? ⟨W.heap.size,2,none⟩=some (.int .u8 p.m.k):=zc k0 rfl;have p3:w4.cell? ⟨W.heap.size,3,none⟩=some (.int .i64 p.m.n):=zc k0 rfl;have p4:w4.cell? ⟨W.heap.size,4,none⟩=some (.string p.m.s):=zc k0 rfl
 have p5:w4.cell? ⟨W.heap.size,5,none⟩=some (.slice A3 p.m.ks.length c3):=zc k0 rfl;obtain⟨vb,hvb⟩:=zX (zle p);have fK:=zh hvb;rw[hvb]at HV bP;clear uF hr1 hr2 hr3 hRe hvb hb4 k0 k1 k2 k3 jJ hl1 hl2 hl3 hl4 hc1 hc2 hc3;go_enter Tryz.func85,Tryz.ntmps85;go_wp2_with fail;refine(HV.out w4 av.out).mono ?_;rintro e5 w5 ⟨rfl,b5⟩;clear hw4
 cases vb
 ·have HX:=zh (show Re=(s,0,3,[]) by rw[<-fM.out,resO,if_pos (.inl fK.out)]);clear p0 p1 p2 p3 p4 p5;have dY:=zka aB.out b5;have mJ:=zka gu.out b5;have s0:w5.cell? ⟨W.heap.size+1,0,none⟩=some (.slice A s.cells.length c):=zc dY rfl;have s1:w5.cell? ⟨W.heap.size+1,1,none⟩=some (.slice B s.tin.length d):=zc dY rfl;have s2:w5.cell? ⟨W.heap.size+1,2,none⟩=some (.slice D s.tout.length e):=zc dY rfl;have aV:=zh (bJ.out w5 (zkb av.out b5));have fu:=zh mJ;have hbq:=b5;clear dY mJ;go_wp2_with fail;refine aV.out.mono ?_;rintro e9 w9 ⟨v9,rfl,dR,aF⟩;obtain⟨A9,c9,B9,d9,D9,e9,rfl⟩:=dR.slices;have fw:=zh dR;have aW:=zh (zkb hbq aF);have aH:=zka fu.out aF;have x0:w9.cell? ⟨W.heap.size+3,0,none⟩=some (.slice none 0 0):=zc aH rfl;have x1:w9.cell? ⟨W.heap.size+3,1,none⟩=some (.slice none 0 0):=zc aH rfl
  have x2:w9.cell? ⟨W.heap.size+3,2,none⟩=some (.slice none 0 0):=zc aH rfl;have x3:w9.cell? ⟨W.heap.size+3,3,none⟩=some (.int .i64 0):=zc aH rfl;have x4:w9.cell? ⟨W.heap.size+3,4,none⟩=some (.int .i64 0):=zc aH rfl;have xf:∀o,w9.frozen? ⟨W.heap.size+3,o,none⟩=false:=fun _=>zf aH;have iZ:=zh aH;have hbr:=bRes;have qW:W.heap.size+4<=w5.heap.size:=by have:=hbq.size;rw[lq.out]at this;exact this
  clear s0 s1 s2 aH dR aF hbq aV;go_wp2_with fail;obtain⟨hh,hch⟩:=set5 (u0:=.slice A9 s.cells.length c9) (u1:=.slice B9 s.tin.length d9) (u2:=.slice D9 s.tout.length e9) (u3:=.int .i64 0) (u4:=.int .i64 3) iZ.out;obtain⟨bD,gy⟩:=zX ((((((w9.setCell ⟨W.heap.size+3,0,none⟩ (.slice A9 s.cells.length c9)).setCell ⟨W.heap.size+3,1,none⟩ (.slice B9 s.tin.length d9)).setCell ⟨W.heap.size+3,2,none⟩ (.slice D9 s.tout.length e9)).setCell ⟨W.heap.size+3,3,none⟩ (.int .i64 0)).setCell ⟨W.heap.size+3,4,none⟩ (.int .i64 3)));rw[gy]at hh hch ⊢;have t0:bD.cell? ⟨W.heap.size+3,0,none⟩=some (.slice A9 s.cells.length c9):=zc hh rfl;have t1:bD.cell? ⟨W.heap.size+3,1,none⟩=some (.slice B9 s.tin.length d9):=zc hh rfl;have t2:bD.cell? ⟨W.heap.size+3,2,none⟩=some (.slice D9 s.tout.length e9):=zc hh rfl;have t3:bD.cell? ⟨W.heap.size+3,3,none⟩=some (.int .i64 0):=zc hh rfl
  have t4:bD.cell? ⟨W.heap.size+3,4,none⟩=some (.int .i64 3):=zc hh rfl;refine bodyPost_ret (v:=.tuple #[.slice none 0 0,.agg #[.slice A9 s.cells.length c9,.slice B9 s.tin.length d9,.slice D9 s.tout.length e9,.int .i64 0,.int .i64 3]]) (by simp[results,Tryz.results85,go_sem,t0,t1,t2,t3,t4]) rfl ?_;rw[HX.out];exact⟨none,0,_,_,_,rfl,(fw.out.chg hch fun b hb=>by omega).lower (by omega),fun i hi=>absurd hi (by simp),zl,(zkb av.out aW.out).trans (hch.below (zkb av.out aW.out).size fun b hb=>by omega),nu.out,fun h=>by first|(simp at h;done)|exact absurd h xP.out⟩
 ·have q0:=zb b5 p0;have q1:=zb b5 p1;have q2:=zb b5 p2;have q3:=zb b5 p3;have q4:=zb b5 p4;have q5:=zb b5 p5;have ve:=zh (show Calls Tryz.prog 77 #[pv A1 p.vs.length c1 A2 p.prs.length c2 p.m.k p.m.n p.m.s A3 p.m.ks.length c3] w5 (fun e w'=>∃A c,e=Ending.returned (.slice A (chkN p) c)/\Below w5.heap.size w5 w')from(bP.out w5 (zkb av.out b5)).mono (fun e w' ⟨A,c,h1,h2⟩=>⟨A,c,by rw[h1,if_pos rfl],h2⟩));clear p0 p1 p2 p3 p4 p5 bP HV;go_wp2_with fail;refine ve.out.mono ?_;rintro e6 w6 ⟨AA,cc,rfl,b6⟩;have mU:=zkb b5 b6;clear q0 q1 q2 q3 q4 q5;by_cases hn:chkN p=0
  ·obtain⟨n,hnn⟩:=zX (chkN p);rw[hnn];obtain rfl:n=0:=by omega
   have hng:¬ (0:Int)<((0:Nat):Int):=by omega
   have nT:=zka aN.out mU;have dY:=zka aB.out mU;have p0:w6.cell? ⟨W.heap.size,0,none⟩=some (.slice A1 p.vs.length c1):=zc nT rfl;have s0:w6.cell? ⟨W.heap.size+1,0,none⟩=some (.slice A s.cells.length c):=zc dY rfl;have s1:w6.cell? ⟨W.heap.size+1,1,none⟩=some (.slice B s.tin.length d):=zc dY rfl;have s2:w6.cell? ⟨W.heap.size+1,2,none⟩=some (.slice D s.tout.length e):=zc dY rfl;have jY:=zh hnn;clear nT dY hn hnn;go_wp2_with fail;refine(iA.out w6 (zkb av.out mU)).mono ?_;rintro e7 w7 ⟨b7,⟨hfit,rfl⟩|⟨hfit,P,rfl,gz⟩⟩
   ·have HX:=zh (show Re=(s,0,20,[]) by rw[<-fM.out,resO,if_neg (by rw[fK.out,jY.out];simp),if_pos hfit]);have qx:=zkb mU b7;clear p0 s0 s1 s2 hfit;have dY:=zka aB.out qx;have mJ:=zka gu.out qx;have s0:w7.cell? ⟨W.heap.size+1,0,none⟩=some (.slice A s.cells.length c):=zc dY rfl;have s1:w7.cell? ⟨W.heap.size+1,1,none⟩=some (.slice B s.tin.length d):=zc dY rfl;have s2:w7.cell? ⟨W.heap.size+1,2,none⟩=some (.slice D s.tout.length e):=zc dY rfl;have aV:=zh (bJ.out w7 (zkb av.out qx));have fu:=zh mJ;have hbq:=qx;clear dY mJ;go_wp2_with fail;refine aV.out.mono ?_;rintro e9 w9 ⟨v9,rfl,dR,aF⟩;obtain⟨A9,c9,B9,d9,D9,e9,rfl⟩:=dR.slices;have fw:=zh dR;have aW:=zh (zkb hbq aF);have aH:=zka fu.out aF;have x0:w9.cell? ⟨W.heap.size+3,0,none⟩=some (.slice none 0 0):=zc aH rfl;have x1:w9.cell? ⟨W.heap.size+3,1,none⟩=some (.slice none 0 0):=zc aH rfl
    have x2:w9.cell? ⟨W.heap.size+3,2,none⟩=some (.slice none 0 0):=zc aH rfl;have x3:w9.cell? ⟨W.heap.size+3,3,none⟩=some (.int .i64 0):=zc aH rfl;have x4:w9.cell? ⟨W.heap.size+3,4,none⟩=some (.int .i64 0):=zc aH rfl;have xf:∀o,w9.frozen? ⟨W.heap.size+3,o,none⟩=false:=fun _=>zf aH;have iZ:=zh aH;have hbr:=bRes;have qW:W.heap.size+4<=w7.heap.size:=by have:=hbq.size;rw[lq.out]at this;exact this
    clear s0 s1 s2 aH dR aF hbq aV;go_wp2_with fail;obtain⟨hh,hch⟩:=set5 (u0:=.slice A9 s.cells.length c9) (u1:=.slice B9 s.tin.length d9) (u2:=.slice D9 s.tout.length e9) (u3:=.int .i64 0) (u4:=.int .i64 20) iZ.out;obtain⟨bD,gy⟩:=zX ((((((w9.setCell ⟨W.heap.size+3,0,none⟩ (.slice A9 s.cells.length c9)).setCell ⟨W.heap.size+3,1,none⟩ (.slice B9 s.tin.length d9)).setCell ⟨W.heap.size+3,2,none⟩ (.slice D9 s.tout.length e9)).setCell ⟨W.heap.size+3,3,none⟩ (.int .i64 0)).setCell ⟨W.heap.size+3,4,none⟩ (.int .i64 20)));rw[gy]at hh hch ⊢;have t0:bD.cell? ⟨W.heap.size+3,0,none⟩=some (.slice A9 s.cells.length c9):=zc hh rfl;have t1:bD.cell? ⟨W.heap.size+3,1,none⟩=some (.slice B9 s.tin.length d9):=zc hh rfl;have t2:bD.cell? ⟨W.heap.size+3,2,none⟩=some (.slice D9 s.tout.length e9):=zc hh rfl;have t3:bD.cell? ⟨W.heap.size+3,3,none⟩=some (.int .i64 0):=zc hh rfl
    have t4:bD.cell? ⟨W.heap.size+3,4,none⟩=some (.int .i64 20):=zc hh rfl;refine bodyPost_ret (v:=.tuple #[.slice none 0 0,.agg #[.slice A9 s.cells.length c9,.slice B9 s.tin.length d9,.slice D9 s.tout.length e9,.int .i64 0,.int .i64 20]]) (by simp[results,Tryz.results85,go_sem,t0,t1,t2,t3,t4]) rfl ?_;rw[HX.out];exact⟨none,0,_,_,_,rfl,(fw.out.chg hch fun b hb=>by omega).lower (by omega),fun i hi=>absurd hi (by simp),zl,(zkb av.out aW.out).trans (hch.below (zkb av.out aW.out).size fun b hb=>by omega),nu.out,fun h=>by first|(simp at h;done)|exact absurd h xP.out⟩
   ·have qx:=zkb mU b7;have p8:=zh hfit;have zu:=zh gz;clear p0 s0 s1 s2 hfit gz;have nT:=zka aN.out qx;have p0:w7.cell? ⟨W.heap.size,0,none⟩=some (.slice A1 p.vs.length c1):=zc nT rfl;have p1:w7.cell? ⟨W.heap.size,1,none⟩=some (.slice A2 p.prs.length c2):=zc nT rfl;have p2:w7.cell? ⟨W.heap.size,2,none⟩=some (.int .u8 p.m.k):=zc nT rfl;have p3:w7.cell? ⟨W.heap.size,3,none⟩=some (.int .i64 p.m.n):=zc nT rfl;have p4:w7.cell? ⟨W.heap.size,4,none⟩=some (.string p.m.s):=zc nT rfl;have p5:w7.cell? ⟨W.heap.size,5,none⟩=some (.slice A3 p.m.ks.length c3):=zc nT rfl;obtain⟨hvl,hpl,vJ,-,hpm⟩:=zmi fK.out;have hmk:=zyM p.prs.length (by omega);obtain⟨np,rA⟩:=zX (p.prs.length);rw[rA]at p1 hmk;have qI:=zh rA
    obtain⟨HH,hHH⟩:∃H:World->Prop,H=fun w':World=>w'.cell? ⟨W.heap.size,0,none⟩=some (.slice A1 p.vs.length c1)/\w'.cell? ⟨W.heap.size,1,none⟩=some (.slice A2 np c2)/\w'.cell? ⟨W.heap.size,2,none⟩=some (.int .u8 p.m.k)/\w'.cell? ⟨W.heap.size,3,none⟩=some (.int .i64 p.m.n)/\w'.cell? ⟨W.heap.size,4,none⟩=some (.string p.m.s)/\w'.cell? ⟨W.heap.size,5,none⟩=some (.slice A3 p.m.ks.length c3):=⟨_,rfl⟩
    have ax:=zh (show ∀w',Below w7.heap.size w7 w'->HH w' by
     rw[hHH];exact fun w' hb=>⟨zb hb p0,zb hb p1,zb hb p2,zb hb p3,zb hb p4,zb hb p5⟩)
    rw[rA];go_upto_region 6 with fail;have hSS:zW HH zU w7.drew:=⟨ax.out _ zr.drew,trivial⟩
    refine wp_region_noPanic ?_;refine zG hSS 10 ?_;subst hHH;refine zT 0 hSS ?_;refine zT 1 hSS ?_;refine zT 2 hSS ?_;refine zT 3 hSS ?_;refine zT 4 hSS ?_;refine zT 5 hSS ?_;clear p0 p1 p2 p3 p4 p5 nT rA;refine zqP (fun A f l a wr=>∃(l6 l7 l8 l9:Bool) (v43 v44 v45 v12:Value) (eb rb pb:Nat),f=(!l6).toNat+(!l7).toNat+(!l8).toNat+(!l9).toNat+1/\l = #[true,true,true,true,true,true,l6,l7,l8,l9,false] /\
     a=(((A.put (some 43) v43).put (some 44) v44).put (some 45) v45).put (some 12) v12/\Hid (Below w7.heap.size w7 wr) /\
     Hid ((l7=true->l6=true)/\(l8=true->l7=true)/\(l6=true->v43=.slice (some ⟨eb,0,none⟩) np np/\wr.heap[eb]?=some (.cells (zkf (List.replicate np 0)).toArray 3 (0,0))/\w7.heap.size<=eb) /\
      (l7=true->v44=.agg #[.slice A1 p.vs.length c1,.slice A2 np c2,.int .u8 p.m.k,.int .i64 p.m.n,.string p.m.s,.slice A3 p.m.ks.length c3,.pointer (some ⟨P.sb,0,none⟩),.int .i64 0,.int .i64 F,.slice (some ⟨eb,0,none⟩) np np]) /\
      (l8=true->v45=.pointer (some ⟨rb,0,none⟩)/\wr.heap[rb]?=some (.cells #[.slice A1 p.vs.length c1,.slice A2 np c2,.int .u8 p.m.k,.int .i64 p.m.n,.string p.m.s,.slice A3 p.m.ks.length c3,.pointer (some ⟨P.sb,0,none⟩),.int .i64 0,.int .i64 F,.slice (some ⟨eb,0,none⟩) np np] 180 (0,0))/\w7.heap.size<=rb) /\
      (l9=true->v12=.pointer (some ⟨pb,0,none⟩)/\wr.heap[pb]?=some (.cells #[.pointer none] 178 (0,0))/\w7.heap.size<=pb)) /\
     Hid ((l6=false->v43=undef)/\(l7=false->v44=undef)/\(l8=false->v45=undef)/\(l9=false->v12=undef))) (fun A f l a wr h=>?_) ?_ ⟨false,false,false,false,undef,undef,undef,undef,0,0,0,rfl,rfl,(by simp only[Act.put,zD,zE,zF]),zh zr.drew,zh ⟨fun h=>(by cases h),fun h=>(by cases h),fun h=>(by cases h),fun h=>(by cases h),fun h=>(by cases h),fun h=>(by cases h)⟩,zh ⟨fun _=>rfl,fun _=>rfl,fun _=>rfl,fun _=>rfl⟩⟩
    ·obtain⟨_,_,_,_,_,_,_,_,_,_,_,_,_,_,hb,_⟩:=h;exact⟨ax.out _ hb.out,trivial⟩
    rintro A' hA f l a wr ⟨l6,l7,l8,l9,v43,v44,v45,v12,eb,rb,pb,hf,rfl,ha,af,HC,HU⟩;by_cases hall:(l6&&l7&&l8&&l9)=true
    ·left
     simp only[Bool.and_eq_true]at hall;obtain⟨⟨⟨rfl,rfl⟩,rfl⟩,rfl⟩:=hall;obtain⟨-,-,h6,h7,h8,h9⟩:=HC.out;obtain⟨rfl,he,hel⟩:=h6 rfl;obtain rfl:=h7 rfl;obtain⟨rfl,hr,hrl⟩:=h8 rfl;obtain⟨rfl,hq,mh⟩:=h9 rfl;subst hf ha hA;have hner:eb≠rb:=ztG he hr (by decide);have hneq:eb≠pb:=ztG he hq (by decide);have hnrq:rb≠pb:=ztG hr hq (by decide);have c0:wr.cell? ⟨pb,0,none⟩=some (.pointer none):=zc hq rfl;have cf:∀j,wr.frozen? ⟨pb,j,none⟩=false:=fun j=>zf hq;refine zp 10 fun K hK=>?_;(try simp only[zQ]);go_simp;have hch:Chg (fun b=>b=pb) wr (wr.setCell ⟨pb,0,none⟩ (.pointer (some ⟨rb,0,none⟩))):=(Chg.refl (fun b=>b=pb) wr).setCell (p:=⟨pb,0,none⟩) (.inl rfl) _;have hh:(wr.setCell ⟨pb,0,none⟩ (.pointer (some ⟨rb,0,none⟩))).heap[pb]?=some (.cells #[.pointer (some ⟨rb,0,none⟩)] 178 (0,0)):=by
      rw[heap_setCell_same wr pb 0 _ _ (.pointer (some ⟨rb,0,none⟩)) hq];rfl
     have bF:=zh (show Below w7.heap.size w7 (wr.setCell ⟨pb,0,none⟩ (.pointer (some ⟨rb,0,none⟩)))from af.out.trans (hch.below af.out.size fun b e=>by omega));have AP:=zh (hch.keep he hneq);have oo:=zh (hch.keep hr hnrq);have uU:=zh hh;obtain⟨w8,hw8⟩:=zX (wr.setCell ⟨pb,0,none⟩ (.pointer (some ⟨rb,0,none⟩)));rw[hw8]at bF AP oo uU ⊢;refine hK.out _ _ (ax.out _ bF.out) ?_;clear hK K hSS hch hh hw8 c0 cf he hr hq h6 h7 h8 h9 HC HU af hmk ax;refine zd ?_;refine NoPanic.normal ?_;(try simp only[zQ]);have hlt_e:=zki AP.out;have hlt_r:=zki oo.out;have hlt_q:=zki uU.out;obtain⟨C,hC⟩:∃C:RC,C=⟨W,w6.heap.size,P.sb,rb,p,A1,c1,A2,c2,A3,c3,F,.slice (some ⟨eb,0,none⟩) np np,fun b=>b=pb⟩:=⟨_,rfl⟩
     have hs67:=b7.size;have hs46:=mU.size;have jJ:=lq.out;have hbWw6:=zkb av.out mU;have xk:=zh (show C.Ok by
      rw[hC];exact⟨HPG.out,hF,mM,⟨by simp only;omega,by simp only;exact hnrq⟩,⟨by simp[Value.ownBlock];exact hner,fun b hb hk=>by simp only[Value.ownBlock,Option.some.injEq]at hb;simp only at hk;omega⟩,fun q hq=>by have:=(vJ q hq).1;omega⟩)
     have df:=zh (show RI C w8 ⟨newS p.vs s,0,List.replicate np 0⟩ by
      rw[hC];have hks:=(KS.new hbWw6 b7 zu.out).also bF.out (kb':=fun b=>b=pb\/b=rb\/(Value.slice (some ⟨eb,0,none⟩) np np).ownBlock=some b) (fun b hb=>.inr (by
       rcases hb with rfl|rfl|hb
       ·exact⟨mh,hlt_q⟩
       ·exact⟨hrl,hlt_r⟩
       ·simp[Value.ownBlock]at hb;subst hb;exact⟨hel,hlt_e⟩))
      refine⟨hks,by rw[<-qI.out]at oo;simpa[RC.cells,qI.out]using oo.out,?_,by simp[qI.out],fun c hc=>by simp at hc;omega,by simp,?_⟩
      ·refine⟨by simp[zkf],.inr ⟨eb,np,_,by simp,Nat.le_trans hs67 hel,AP.out,by simp,by unfold maxLen;have:=qI.out;omega,by simp[zkf],by simp[zkf]⟩⟩
      ·exact⟨by simp only[newS];omega,fun f hf=>by simp[newS]at hf⟩)
     obtain⟨GX,hGX,hGM⟩:=HFAM.out;have HGP:=zh (hGM fK.out jY.out);clear hGM;obtain⟨o,ho⟩:=zX (runO p.prs F g back p.m ⟨newS p.vs s,0,List.replicate np 0⟩);have hog:o ≠ .gas:=ho▸(zuA fK.out hg back (newS p.vs s) (List.replicate np 0)).1;have hon:Nz o:=ho▸HGP.out.2 _ _ _ _;have HRR:=zh (show Re=outR s o by rw[<-fM.out,resO,if_neg (by rw[fK.out,jY.out];simp),if_neg (by rw[p8.out];simp),<-ho,<-qI.out]);have kJ:=zkb qx bF.out;obtain⟨jb,hjb⟩:=zX (w8.heap.size);obtain⟨w9,aP⟩:=zX (w8.alloc (.cells #[.slice none 0 0,.bool false] 185));have HAT:=zh (zqD hGX xk.out df.out aP hjb (by rw[hC];exact HGP.out.1) g back o (by rw[hC];exact ho) hog pb W.heap.size (W.heap.size+1+1) (by rw[hC];exact zc uU.out rfl) (by rw[hC];simp only;rw[qI.out];have:=zka aN.out kJ;rw[qI.out]at this;exact this) (zc (zka aL.out kJ) rfl))
     have lL:w9.heap.size=jb+1:=by rw[<-aP];simp[hjb]
     have HK89:=zh (show Kpt C.n0 C.kb w8 w9 from Kpt.of_below (aP▸zkc (zs w8) _));have vM:∀(fn:Fn) (first cap:Array Value) (w:World),(Instr.makeFunc fn first cap).run Tryz.prog w=.ok (.func fn first cap) w:=fun _ _ _ _=>rfl;have HN0C:=zh (show C.n0=w6.heap.size/\C.w=W/\C.rb=rb/\C.ev=.slice (some ⟨eb,0,none⟩) np np/\(C.kb=fun b=>b=pb)/\C.sb=P.sb/\C.p=p by rw[hC];exact⟨rfl,rfl,rfl,rfl,rfl,rfl,rfl⟩);have HHB48:=zh kJ;have kI:=av.out;have hb4s:W.heap.size<=w6.heap.size:=hbWw6.size;clear hC kJ ho hlt_e hlt_r;go_wp2_with fail;refine HAT.out.mono ?_;rintro e10 aZ hat;clear HAT aP vM;rcases hat with⟨rfl,bD,⟨r,rfl,hok,aQ,hkp⟩,hch⟩|⟨x,rfl,bD,⟨rfl,hkp,hbl⟩,hch⟩
     ·obtain⟨hn0,hcw,oQ,mF,kW,oP,hcp⟩:=HN0C.out;have hri1:=RI.chgK (C:=C.plus jb w9.heap.size) hok aQ hch (by show C.w.heap.size<=_;rw[hcw];have:=bF.out.size;omega);have jN:RI C aZ r:=hri1.less.less;have hkk:Kpt C.n0 C.kb w8 aZ:=HK89.out.trans ((Kpt.less (C:=C) hkp).trans (Kpt.chg hch fun b hb=>⟨by rw[hn0];omega,by rw[kW];intro e;subst e;omega⟩));have dI:=zpZ kI (by have:=jN.below;rw[hcw]at this;exact this) HHB48.out hkk (by rw[hn0];exact hs46);have gP:=zh jN;have HX:=zh (show Re=(r.S.state,r.n,0,r.ent)from HRR.out);obtain⟨-,x7,-,x9,-⟩:=jN.cells;rw[oQ]at x7 x9;rw[mF]at x9;have xp:aZ.cell? ⟨pb,0,none⟩=some (.pointer (some ⟨rb,0,none⟩)):=zc (hkk.blk (.inr (by rw[kW])) uU.out) rfl;have HKR:=zh (zka gu.out dI);have nK:=zh dI;have hls:=jN.ks;have HST:=zh (fun w' (hb:Below aZ.heap.size aZ w')=>(hls.later hb).state);rw[oP]at HST
      have zN:=zh (show r.ent.length=np by rw[jN.el,hcp,qI.out]);have nA:=zh jN.ent;rw[hn0,mF]at nA;have hne0:(0:Int)=0:=rfl;have ax:=zh (show ∀w',Below aZ.heap.size aZ w'->(fun w':World=>zv w' pb 0 (.pointer (some ⟨rb,0,none⟩))/\zv w' rb 7 (.int .i64 r.n)/\zv w' rb 9 (.slice (some ⟨eb,0,none⟩) np np)) w' from fun w' hb=>⟨zb hb xp,zb hb x7,zb hb x9⟩);clear aQ hri1 jN hkk hkp hls hn0 hcw oQ mF kW oP hch x7 x9 xp dI hok;go_upto_region 10 with fail;have hSS:zW (fun w':World=>zv w' pb 0 (.pointer (some ⟨rb,0,none⟩))/\zv w' rb 7 (.int .i64 r.n)/\zv w' rb 9 (.slice (some ⟨eb,0,none⟩) np np)) zU aZ.drew:=⟨ax.out _ zr.drew,trivial⟩
      refine wp_region_noPanic ?_;refine zG hSS 12 ?_;refine zT 0 hSS ?_;refine zT 1 hSS ?_;refine zT 2 hSS ?_;refine zT 3 hSS ?_;refine zT 4 hSS ?_;refine zT 6 hSS ?_;refine zT 7 hSS ?_;refine zT 8 hSS ?_;refine zT 9 hSS ?_;have had:Calls Tryz.prog 28 [.pointer (some ⟨P.sb,0,none⟩)].toArray aZ.drew fun e W'=>∃v,e=.returned v/\(OwnS W' aZ.heap.size r.S.state v/\Below aZ.heap.size aZ W') :=
       (HST.out _ zr.drew).mono fun e w' ⟨v,h1,h2,h3⟩=>⟨v,h1,h2,zkb (zs aZ).drew h3⟩
      refine zo 5 fun K hK=>?_;refine zke (by rfl) (.func 28) [.tmp 59] _ (by rfl) 28 _ zrc (by rfl) _ (by rfl) _ had ?_;rintro v12 kN ⟨rz,o8⟩;obtain⟨A9,c9,B9,d9,D9,e9,rfl⟩:=rz.slices;have HO12:=zh rz;have gY:=zh o8;refine hK.out _ _ ⟨ax.out _ o8,trivial⟩ ?_;have aK:=zV hSS (ax.out _ o8) trivial;clear hK K hSS had rz o8;(try simp only[zQ]);have hbr:=zyK;refine zT 10 aK ?_;refine zo 11 fun K hK=>?_;(try simp only[zA,zB,zC]);go_simp;refine hK.out _ _ ⟨ax.out _ gY.out,trivial⟩ ?_;clear hK K;(try simp only[zQ]);have aH:=zka HKR.out gY.out;have x0:kN.cell? ⟨W.heap.size+3,0,none⟩=some (.slice none 0 0):=zc aH rfl;have x1:kN.cell? ⟨W.heap.size+3,1,none⟩=some (.slice none 0 0):=zc aH rfl;have x2:kN.cell? ⟨W.heap.size+3,2,none⟩=some (.slice none 0 0):=zc aH rfl;have x3:kN.cell? ⟨W.heap.size+3,3,none⟩=some (.int .i64 0):=zc aH rfl
      have x4:kN.cell? ⟨W.heap.size+3,4,none⟩=some (.int .i64 0):=zc aH rfl;have xf:∀o,kN.frozen? ⟨W.heap.size+3,o,none⟩=false:=fun _=>zf aH;refine zp 12 fun K hK=>?_;(try simp only[zQ]);go_simp;obtain⟨hh,hch⟩:=set5 (u0:=.slice A9 r.S.state.cells.length c9) (u1:=.slice B9 r.S.state.tin.length d9) (u2:=.slice D9 r.S.state.tout.length e9) (u3:=.int .i64 r.n) (u4:=.int .i64 0) aH;obtain⟨vw,hw13⟩:=zX ((((((kN.setCell ⟨W.heap.size+3,0,none⟩ (.slice A9 r.S.state.cells.length c9)).setCell ⟨W.heap.size+3,1,none⟩ (.slice B9 r.S.state.tin.length d9)).setCell ⟨W.heap.size+3,2,none⟩ (.slice D9 r.S.state.tout.length e9)).setCell ⟨W.heap.size+3,3,none⟩ (.int .i64 r.n)).setCell ⟨W.heap.size+3,4,none⟩ (.int .i64 0)));rw[hw13]at hh hch ⊢;have bH:=zh hch;have t0:vw.cell? ⟨W.heap.size+3,0,none⟩=some (.slice A9 r.S.state.cells.length c9):=zc hh rfl
      have t1:vw.cell? ⟨W.heap.size+3,1,none⟩=some (.slice B9 r.S.state.tin.length d9):=zc hh rfl;have t2:vw.cell? ⟨W.heap.size+3,2,none⟩=some (.slice D9 r.S.state.tout.length e9):=zc hh rfl;have t3:vw.cell? ⟨W.heap.size+3,3,none⟩=some (.int .i64 r.n):=zc hh rfl;have t4:vw.cell? ⟨W.heap.size+3,4,none⟩=some (.int .i64 0):=zc hh rfl;have hszs:W.heap.size+4<=aZ.heap.size:=by have:=nK.out.size;omega
      have hplt:W.heap.size+3<w7.heap.size:=by have:=qx.size;omega
      refine hK.out _ _ ?_ ?_
      ·obtain⟨q1,q2,q3⟩:=ax.out _ gY.out;exact⟨zkS hch q1 (by simp only;omega),zkS hch q2 (by simp only;omega),zkS hch q3 (by simp only;omega)⟩
      clear hK K hch hh hw13 x0 x1 x2 x3 x4 xf aH aK ax;(try simp only[zQ]);refine zd ?_;refine NoPanic.normal ?_;go_wp2_with fail;have hrow:=zky nA.out gY.out;have hrow2:=znW hrow (fun b hb=>bH.out.block b (hrow.lt b hb).2 (by have:=(hrow.lt b hb).1;omega));have hI:∀z∈r.ent.map Int.ofNat,I64 z:=fun z hz=>by
       obtain⟨q,hq,rfl⟩:=List.mem_map.1 hz;have h1:=gP.out.en q hq;have h2:=gP.out.n;exact⟨by simp only[Int.ofNat_eq_natCast];omega,by simp only[Int.ofNat_eq_natCast];omega⟩
      obtain⟨Ae,ce,he1,he2,he3⟩:=zoD (l:=r.ent.map Int.ofNat) (by simpa using hrow2) hI;injection he1 with he1 _ he4;subst he1 he4;refine bodyPost_ret (v:=.tuple #[.slice (some ⟨eb,0,none⟩) np np,.agg #[.slice A9 r.S.state.cells.length c9,.slice B9 r.S.state.tin.length d9,.slice D9 r.S.state.tout.length e9,.int .i64 r.n,.int .i64 0]]) (by simp[results,Tryz.results85,go_sem,t0,t1,t2,t3,t4]) rfl ?_;rw[HX.out];refine⟨_,_,_,_,_,by rw[zN.out],(HO12.out.chg bH.out fun b hb=>by omega).lower (by omega),he3.keep (fun b hb _=>by have:=hb4s;omega) (fun _ _ _=>rfl),by simpa using he2,?_⟩;exact⟨(zkb kI (zkb nK.out gY.out)).trans (bH.out.below (zkb kI (zkb nK.out gY.out)).size fun b hb=>by omega),LimR.run gP.out.ks.wf gP.out.fb _⟩
     ·have hx:x≠0:=fun e=>hon (by rw[e]);obtain⟨hn0,hcw,oQ,mF,kW,oP,-⟩:=HN0C.out;have hkk:Kpt C.n0 C.kb w8 aZ:=HK89.out.trans ((Kpt.less (C:=C) hkp).trans (Kpt.chg hch fun b hb=>⟨by rw[hn0];omega,by rw[kW];intro e;subst e;omega⟩));have oU:Below C.w.heap.size C.w bD:=hbl;rw[hcw]at oU;have hs8:=bF.out.size;have oV:Below W.heap.size W aZ:=oU.trans (hch.below oU.size fun b hb=>by omega);have dI:=zpZ kI oV HHB48.out hkk (by rw[hn0];exact hs46);have HX:=zh (show Re=(s,0,x,[])from HRR.out);have e1:(x != 0)=true:=by simpa using hx
      have xP:=zh hx;clear hn0 hcw oQ mF kW oP hkk oV hkp hbl oU hch hon;have dY:=zka aB.out dI;have mJ:=zka gu.out dI;have s0:aZ.cell? ⟨W.heap.size+1,0,none⟩=some (.slice A s.cells.length c):=zc dY rfl;have s1:aZ.cell? ⟨W.heap.size+1,1,none⟩=some (.slice B s.tin.length d):=zc dY rfl;have s2:aZ.cell? ⟨W.heap.size+1,2,none⟩=some (.slice D s.tout.length e):=zc dY rfl;have aV:=zh (bJ.out aZ (zkb av.out dI));have fu:=zh mJ;have hbq:=dI;clear dY mJ;go_wp2_with fail;refine aV.out.mono ?_;rintro e9 w9 ⟨v9,rfl,dR,aF⟩;obtain⟨A9,c9,B9,d9,D9,e9,rfl⟩:=dR.slices;have fw:=zh dR;have aW:=zh (zkb hbq aF);have aH:=zka fu.out aF;have x0:w9.cell? ⟨W.heap.size+3,0,none⟩=some (.slice none 0 0):=zc aH rfl;have x1:w9.cell? ⟨W.heap.size+3,1,none⟩=some (.slice none 0 0):=zc aH rfl
      have x2:w9.cell? ⟨W.heap.size+3,2,none⟩=some (.slice none 0 0):=zc aH rfl;have x3:w9.cell? ⟨W.heap.size+3,3,none⟩=some (.int .i64 0):=zc aH rfl;have x4:w9.cell? ⟨W.heap.size+3,4,none⟩=some (.int .i64 0):=zc aH rfl;have xf:∀o,w9.frozen? ⟨W.heap.size+3,o,none⟩=false:=fun _=>zf aH;have iZ:=zh aH;have hbr:=bRes;have qW:W.heap.size+4<=aZ.heap.size:=by have:=hbq.size;rw[lq.out]at this;exact this
      clear s0 s1 s2 aH dR aF hbq aV;go_wp2_with fail;obtain⟨hh,hch⟩:=set5 (u0:=.slice A9 s.cells.length c9) (u1:=.slice B9 s.tin.length d9) (u2:=.slice D9 s.tout.length e9) (u3:=.int .i64 0) (u4:=.int .i64 x) iZ.out;obtain⟨bD,gy⟩:=zX ((((((w9.setCell ⟨W.heap.size+3,0,none⟩ (.slice A9 s.cells.length c9)).setCell ⟨W.heap.size+3,1,none⟩ (.slice B9 s.tin.length d9)).setCell ⟨W.heap.size+3,2,none⟩ (.slice D9 s.tout.length e9)).setCell ⟨W.heap.size+3,3,none⟩ (.int .i64 0)).setCell ⟨W.heap.size+3,4,none⟩ (.int .i64 x)));rw[gy]at hh hch ⊢;have t0:bD.cell? ⟨W.heap.size+3,0,none⟩=some (.slice A9 s.cells.length c9):=zc hh rfl;have t1:bD.cell? ⟨W.heap.size+3,1,none⟩=some (.slice B9 s.tin.length d9):=zc hh rfl;have t2:bD.cell? ⟨W.heap.size+3,2,none⟩=some (.slice D9 s.tout.length e9):=zc hh rfl;have t3:bD.cell? ⟨W.heap.size+3,3,none⟩=some (.int .i64 0):=zc hh rfl
      have t4:bD.cell? ⟨W.heap.size+3,4,none⟩=some (.int .i64 x):=zc hh rfl;refine bodyPost_ret (v:=.tuple #[.slice none 0 0,.agg #[.slice A9 s.cells.length c9,.slice B9 s.tin.length d9,.slice D9 s.tout.length e9,.int .i64 0,.int .i64 x]]) (by simp[results,Tryz.results85,go_sem,t0,t1,t2,t3,t4]) rfl ?_;rw[HX.out];exact⟨none,0,_,_,_,rfl,(fw.out.chg hch fun b hb=>by omega).lower (by omega),fun i hi=>absurd hi (by simp),zl,(zkb av.out aW.out).trans (hch.below (zkb av.out aW.out).size fun b hb=>by omega),nu.out,fun h=>by first|(simp at h;done)|exact absurd h xP.out⟩
    ·right
     have bK:=HC.out;have jA:=HU.out;have hcc:(l7=true->l6=true)/\(l8=true->l7=true):=⟨bK.1,bK.2.1⟩
     refine⟨f-1,?_,?_,?_⟩
     ·clear HC bK HU jA ha af hcc;subst hf;revert hall;revert l6 l7 l8 l9
      decide
     ·clear HC bK HU jA ha af hf;revert hall hcc;revert l6 l7 l8 l9
      decide +kernel
     intro i hi;have hcase:(i=6/\l6=false/\l7=false/\l8=false)\/(i=7/\l7=false/\l6=true/\l8=false)\/(i=8/\l8=false/\l6=true/\l7=true)\/(i=9/\l9=false):=by
      refine of_decide_eq_true ((List.all_eq_true (p:=fun i=>decide ((i=6/\l6=false/\l7=false/\l8=false)\/(i=7/\l7=false/\l6=true/\l8=false)\/(i=8/\l8=false/\l6=true/\l7=true)\/(i=9/\l9=false)))).1 ?_ i hi);clear HC bK HU jA ha af hf hi;revert hall hcc;revert l6 l7 l8 l9
      decide +kernel
     clear hi hall;subst ha hA;rcases hcase with⟨rfl,rfl,rfl,rfl⟩|⟨rfl,rfl,rfl,rfl⟩|⟨rfl,rfl,rfl,rfl⟩|⟨rfl,rfl⟩
     ·refine wpOp_step rfl (fun K' au=>?_);have hK:=zh au;clear au;have hU1:=jA.1 rfl;have yM:=jA.2.1 rfl;have vT:=jA.2.2.1 rfl;subst hU1 yM vT;(try simp only[zQ]);go_simp;have hsz:=af.out.size;exact hK.out _ _ ⟨true,false,false,l9,_,undef,undef,v12,wr.heap.size,0,pb,(by subst hf;simp<;>omega),rfl,(by simp only[zQ]),zh (zkc af.out _),zh ⟨fun h=>(by cases h),fun h=>(by cases h),fun _=>⟨rfl,heap_alloc_new wr _,hsz⟩,fun h=>(by cases h),fun h=>(by cases h),fun h=>⟨(bK.2.2.2.2.2 h).1,zkg (bK.2.2.2.2.2 h).2.1 _,(bK.2.2.2.2.2 h).2.2⟩⟩,zh ⟨fun h=>(by cases h),fun _=>rfl,fun _=>rfl,jA.2.2.2⟩⟩
     ·refine wpOp_step rfl (fun K' au=>?_);have hK:=zh au;clear au;have yM:=jA.2.1 rfl;have vT:=jA.2.2.1 rfl;obtain⟨hv6,he,hel⟩:=bK.2.2.1 rfl;subst yM vT hv6;have hbn:=bRun;(try simp only[zQ]);go_simp;exact hK.out _ _ ⟨true,true,false,l9,_,_,undef,v12,eb,0,pb,(by subst hf;simp<;>omega),rfl,(by simp only[zQ]),af,zh ⟨fun _=>rfl,fun h=>(by cases h),fun _=>⟨rfl,he,hel⟩,fun _=>rfl,fun h=>(by cases h),bK.2.2.2.2.2⟩,zh ⟨fun h=>(by cases h),fun h=>(by cases h),fun _=>rfl,jA.2.2.2⟩⟩
     ·refine wpOp_step rfl (fun K' au=>?_);have hK:=zh au;clear au;have vT:=jA.2.2.1 rfl;obtain⟨hv6,he,hel⟩:=bK.2.2.1 rfl;have hv7:=bK.2.2.2.1 rfl;subst vT hv6 hv7;(try simp only[zQ]);go_simp;have hsz:=af.out.size;exact hK.out _ _ ⟨true,true,true,l9,_,_,_,v12,eb,wr.heap.size,pb,(by subst hf;simp<;>omega),rfl,(by simp only[zQ]),zh (zkc af.out _),zh ⟨fun _=>rfl,fun _=>rfl,fun _=>⟨rfl,zkg he _,hel⟩,fun _=>rfl,fun _=>⟨rfl,heap_alloc_new wr _,hsz⟩,fun h=>⟨(bK.2.2.2.2.2 h).1,zkg (bK.2.2.2.2.2 h).2.1 _,(bK.2.2.2.2.2 h).2.2⟩⟩,zh ⟨fun h=>(by cases h),fun h=>(by cases h),fun h=>(by cases h),jA.2.2.2⟩⟩
     ·refine wpOp_step rfl (fun K' au=>?_);have hK:=zh au;clear au;have gM:=jA.2.2.2 rfl;subst gM;(try simp only[zQ]);go_simp;have hsz:=af.out.size;exact hK.out _ _ ⟨l6,l7,l8,true,v43,v44,v45,_,eb,rb,wr.heap.size,(by subst hf;simp<;>omega),rfl,(by simp only[zQ]),zh (zkc af.out _),zh ⟨bK.1,bK.2.1,fun h=>⟨(bK.2.2.1 h).1,zkg (bK.2.2.1 h).2.1 _,(bK.2.2.1 h).2.2⟩,bK.2.2.2.1,fun h=>⟨(bK.2.2.2.2.1 h).1,zkg (bK.2.2.2.2.1 h).2.1 _,(bK.2.2.2.2.1 h).2.2⟩,fun _=>⟨rfl,heap_alloc_new wr _,hsz⟩⟩,zh ⟨jA.1,jA.2.1,jA.2.2.1,fun h=>(by cases h)⟩⟩
  ·have HX:=zh (show Re=(s,0,3,[]) by rw[<-fM.out,resO,if_pos (.inr hn)]);obtain⟨n,hnn⟩:=zX (chkN p);rw[hnn];have hng:(0:Int)<(n:Int):=by omega
   clear hn hnn;have dY:=zka aB.out mU;have mJ:=zka gu.out mU;have s0:w6.cell? ⟨W.heap.size+1,0,none⟩=some (.slice A s.cells.length c):=zc dY rfl;have s1:w6.cell? ⟨W.heap.size+1,1,none⟩=some (.slice B s.tin.length d):=zc dY rfl;have s2:w6.cell? ⟨W.heap.size+1,2,none⟩=some (.slice D s.tout.length e):=zc dY rfl;have aV:=zh (bJ.out w6 (zkb av.out mU));have fu:=zh mJ;have hbq:=mU;clear dY mJ;go_wp2_with fail;refine aV.out.mono ?_;rintro e9 w9 ⟨v9,rfl,dR,aF⟩;obtain⟨A9,c9,B9,d9,D9,e9,rfl⟩:=dR.slices;have fw:=zh dR;have aW:=zh (zkb hbq aF);have aH:=zka fu.out aF;have x0:w9.cell? ⟨W.heap.size+3,0,none⟩=some (.slice none 0 0):=zc aH rfl;have x1:w9.cell? ⟨W.heap.size+3,1,none⟩=some (.slice none 0 0):=zc aH rfl;have x2:w9.cell? ⟨W.heap.size+3,2,none⟩=some (.slice none 0 0):=zc aH rfl;have x3:w9.cell? ⟨W.heap.size+3,3,none⟩=some (.int .i64 0):=zc aH rfl
   have x4:w9.cell? ⟨W.heap.size+3,4,none⟩=some (.int .i64 0):=zc aH rfl;have xf:∀o,w9.frozen? ⟨W.heap.size+3,o,none⟩=false:=fun _=>zf aH;have iZ:=zh aH;have hbr:=bRes;have qW:W.heap.size+4<=w6.heap.size:=by have:=hbq.size;rw[lq.out]at this;exact this
   clear s0 s1 s2 aH dR aF hbq aV;go_wp2_with fail;obtain⟨hh,hch⟩:=set5 (u0:=.slice A9 s.cells.length c9) (u1:=.slice B9 s.tin.length d9) (u2:=.slice D9 s.tout.length e9) (u3:=.int .i64 0) (u4:=.int .i64 3) iZ.out;obtain⟨bD,gy⟩:=zX ((((((w9.setCell ⟨W.heap.size+3,0,none⟩ (.slice A9 s.cells.length c9)).setCell ⟨W.heap.size+3,1,none⟩ (.slice B9 s.tin.length d9)).setCell ⟨W.heap.size+3,2,none⟩ (.slice D9 s.tout.length e9)).setCell ⟨W.heap.size+3,3,none⟩ (.int .i64 0)).setCell ⟨W.heap.size+3,4,none⟩ (.int .i64 3)));rw[gy]at hh hch ⊢;have t0:bD.cell? ⟨W.heap.size+3,0,none⟩=some (.slice A9 s.cells.length c9):=zc hh rfl;have t1:bD.cell? ⟨W.heap.size+3,1,none⟩=some (.slice B9 s.tin.length d9):=zc hh rfl;have t2:bD.cell? ⟨W.heap.size+3,2,none⟩=some (.slice D9 s.tout.length e9):=zc hh rfl;have t3:bD.cell? ⟨W.heap.size+3,3,none⟩=some (.int .i64 0):=zc hh rfl
   have t4:bD.cell? ⟨W.heap.size+3,4,none⟩=some (.int .i64 3):=zc hh rfl;refine bodyPost_ret (v:=.tuple #[.slice none 0 0,.agg #[.slice A9 s.cells.length c9,.slice B9 s.tin.length d9,.slice D9 s.tout.length e9,.int .i64 0,.int .i64 3]]) (by simp[results,Tryz.results85,go_sem,t0,t1,t2,t3,t4]) rfl ?_;rw[HX.out];exact⟨none,0,_,_,_,rfl,(fw.out.chg hch fun b hb=>by omega).lower (by omega),fun i hi=>absurd hi (by simp),zl,(zkb av.out aW.out).trans (hch.below (zkb av.out aW.out).size fun b hb=>by omega),nu.out,fun h=>by first|(simp at h;done)|exact absurd h xP.out⟩
def FwP(W:World)(R:SS×Nat×Int×List Nat)(e:Ending)(W':World):Prop:=∃v1 v2 v3,e=.returned (.agg #[v1,v2,v3,.int .i64 (R.2.1:Int),.int .i64 R.2.2.1]) /\
 OwnS W' W.heap.size R.1 (.agg #[v1,v2,v3])/\Below W.heap.size W W'/\LimR R
theorem zqM(p:PG)(s:SS)(F:Int)(g:Nat)(v sv:Value)(W:World)(hp:PV W Any p v)(hs:SV W Any s sv)(hcl:s.cells.length<=5864062014800)(hF:I64 F)(mM:F<=1000000)(hg:F.toNat*2000+2000<=g)(hfam:Fam p) :
  Calls Tryz.prog 44 #[v,sv,.int .i64 F] W (FwP W (resO p s F g false)):=by
 have pM:=zh hp;have eT:=zh hs;obtain⟨A1,c1,A2,c2,A3,c3,rfl,uF⟩:=hp;obtain⟨A,c,B,d,D,e,rfl,hr1,hr2,hr3,hc1,hc2,hc3,hl1,hl2,hl3,hl4⟩:=hs;have HST:=zh (fun w' (hb:Below W.heap.size W w')=>zst p s F g false _ _ w' (pM.out.later hb) (eT.out.later hb) hcl hF mM hg hfam);have hb3:=zkc (zkc (zkc (zs W) (.cells #[.slice A1 p.vs.length c1,.slice A2 p.prs.length c2,.int .u8 p.m.k,.int .i64 p.m.n,.string p.m.s,.slice A3 p.m.ks.length c3] 55)) (.cells #[.slice A s.cells.length c,.slice B s.tin.length d,.slice D s.tout.length e] 34)) (.cells #[.slice none 0 0,.slice none 0 0,.slice none 0 0,.int .i64 0,.int .i64 0] 91)
 have k2:=heap_alloc_new ((W.alloc (.cells #[.slice A1 p.vs.length c1,.slice A2 p.prs.length c2,.int .u8 p.m.k,.int .i64 p.m.n,.string p.m.s,.slice A3 p.m.ks.length c3] 55)).alloc (.cells #[.slice A s.cells.length c,.slice B s.tin.length d,.slice D s.tout.length e] 34)) (.cells #[.slice none 0 0,.slice none 0 0,.slice none 0 0,.int .i64 0,.int .i64 0] 91);simp only[World.size_alloc]at k2;obtain⟨Re,hRe⟩:=zX (resO p s F g false);rw[hRe]at HST;have HR:=zh hRe;have HB3:=zh hb3;have aL:=zh k2;have hz3:W.heap.size+3<=(((W.alloc (.cells #[.slice A1 p.vs.length c1,.slice A2 p.prs.length c2,.int .u8 p.m.k,.int .i64 p.m.n,.string p.m.s,.slice A3 p.m.ks.length c3] 55)).alloc (.cells #[.slice A s.cells.length c,.slice B s.tin.length d,.slice D s.tout.length e] 34)).alloc (.cells #[.slice none 0 0,.slice none 0 0,.slice none 0 0,.int .i64 0,.int .i64 0] 91)).heap.size:=by simp
 rw[hRe];clear uF hr1 hr2 hr3 hRe hb3 k2 hl1 hl2 hl3 hl4 hc1 hc2 hc3;clear hfam;go_enter Tryz.func44,Tryz.ntmps44;go_wp2_with fail;refine(HST.out _ HB3.out).mono ?_;rintro e9 w9 ⟨A9,c9,v1,v2,v3,rfl,dR,-,-,aF,hlm9⟩;have nu:=zh hlm9;clear hlm9;obtain⟨A4,c4,B5,d5,D6,e6,h6⟩:=dR.slices;injection h6 with h6;injection h6 with h6;injection h6 with h6 h7;injection h7 with h7 h8;injection h8 with h8 _;subst h6 h7 h8;have fw:=zh dR;have aW:=zh aF;have aH:=zka aL.out aF;have x0:w9.cell? ⟨W.heap.size+1+1,0,none⟩=some (.slice none 0 0):=zc aH rfl;have x1:w9.cell? ⟨W.heap.size+1+1,1,none⟩=some (.slice none 0 0):=zc aH rfl;have x2:w9.cell? ⟨W.heap.size+1+1,2,none⟩=some (.slice none 0 0):=zc aH rfl;have x3:w9.cell? ⟨W.heap.size+1+1,3,none⟩=some (.int .i64 0):=zc aH rfl;have x4:w9.cell? ⟨W.heap.size+1+1,4,none⟩=some (.int .i64 0):=zc aH rfl
 have xf:∀o,w9.frozen? ⟨W.heap.size+1+1,o,none⟩=false:=fun _=>zf aH;have y0:=fun o=>zks x0 o;have y1:=fun o=>zks x1 o;have y2:=fun o=>zks x2 o;have y3:=fun o=>zks x3 o;have y4:=fun o=>zks x4 o;have hlt9:W.heap.size+1+1<w9.heap.size:=zki aH;have iZ:=zh aH;clear dR aF aH;go_wp2_with fail;obtain⟨hh,hch⟩:=set5 (u0:=.slice A4 Re.1.cells.length c4) (u1:=.slice B5 Re.1.tin.length d5) (u2:=.slice D6 Re.1.tout.length e6) (u3:=.int .i64 (Re.2.1:Int)) (u4:=.int .i64 Re.2.2.1) iZ.out;obtain⟨bD,gy⟩:=zX ((((((w9.setCell ⟨W.heap.size+1+1,0,none⟩ (.slice A4 Re.1.cells.length c4)).setCell ⟨W.heap.size+1+1,1,none⟩ (.slice B5 Re.1.tin.length d5)).setCell ⟨W.heap.size+1+1,2,none⟩ (.slice D6 Re.1.tout.length e6)).setCell ⟨W.heap.size+1+1,3,none⟩ (.int .i64 (Re.2.1:Int))).setCell ⟨W.heap.size+1+1,4,none⟩ (.int .i64 Re.2.2.1)));rw[gy]at hh hch ⊢
 obtain⟨aZ,jM⟩:=zX (bD.alloc (.cells #[.slice A4 Re.1.cells.length c4,.slice B5 Re.1.tin.length d5,.slice D6 Re.1.tout.length e6,.int .i64 (Re.2.1:Int),.int .i64 Re.2.2.1] 91));rw[jM];have t0:aZ.cell? ⟨W.heap.size+1+1,0,none⟩=some (.slice A4 Re.1.cells.length c4):=jM▸zks (zc hh rfl) _;have t1:aZ.cell? ⟨W.heap.size+1+1,1,none⟩=some (.slice B5 Re.1.tin.length d5):=jM▸zks (zc hh rfl) _;have t2:aZ.cell? ⟨W.heap.size+1+1,2,none⟩=some (.slice D6 Re.1.tout.length e6):=jM▸zks (zc hh rfl) _;have t3:aZ.cell? ⟨W.heap.size+1+1,3,none⟩=some (.int .i64 (Re.2.1:Int)):=jM▸zks (zc hh rfl) _;have t4:aZ.cell? ⟨W.heap.size+1+1,4,none⟩=some (.int .i64 Re.2.2.1):=jM▸zks (zc hh rfl) _
 refine bodyPost_ret (v:=.agg #[.slice A4 Re.1.cells.length c4,.slice B5 Re.1.tin.length d5,.slice D6 Re.1.tout.length e6,.int .i64 (Re.2.1:Int),.int .i64 Re.2.2.1]) (by simp[results,Tryz.results44,go_sem,t0,t1,t2,t3,t4]) rfl ?_;have hz33:=hz3;have hb39:Below W.heap.size W w9:=zkb HB3.out aW.out;have hc11:Chg (fun b=>b=W.heap.size+1+1) w9 aZ:=jM▸hch.alloc _;have oL:=fw.out.chg hc11 fun b hb=>by omega
 have o9:=hb39.trans (hc11.below hb39.size fun b hb=>by omega);exact⟨_,_,_,rfl,oL.lower (by omega),o9,nu.out⟩
theorem zqN(p:PG)(s:SS)(F:Int)(g:Nat)(v sv:Value)(W:World)(hp:PV W Any p v)(hs:SV W Any s sv)(hcl:s.cells.length<=5864062014800)(hF:I64 F)(mM:F<=1000000)(hg:F.toNat*2000+2000<=g) :
  Calls Tryz.prog 44 #[v,sv,.int .i64 F] W (FwP W (resO p s F g false)):=zqM p s F g v sv W hp hs hcl hF mM hg (zw4 p)
theorem zro:∀(d:Nat),d<=1000->∀(t:T) (v:Value) (w:World),NV w Any t v->Calls Tryz.prog 36 #[v,.int .i64 d] w fun e w'=>∃c:Int,e=.returned (.int .i64 c) /\ -1<=c/\c<=1000*(d:Int)+1/\Below w.heap.size w w'
 | 0,_,t,v,w,hv=>by
  obtain⟨A,c,rfl,-⟩:=hv.open_;obtain⟨k,n,s,ks⟩:=t;simp only[T.k_nd,T.n_nd,T.s_nd,T.ks_nd];clear hv
  show Calls Tryz.prog 36 #[.agg #[.int .u8 k,.int .i64 n,.string s,.slice A ks.length c],.int .i64 0] w _
  have HB:=zh (zkc (zs w) (.cells #[.int .u8 k,.int .i64 n,.string s,.slice A ks.length c] 24));go_enter Tryz.func36,Tryz.ntmps36;go_wp2_with fail;go_ret;exact⟨-1,rfl,by omega,by omega,HB.out⟩
 | d+1,hd,t,v,w,hv=>by
  have IH:=zh (zro d (by omega));obtain⟨A,c,rfl,hfl,hlk,hlc,hrow⟩:=hv.open_;obtain⟨k,n,s,ks⟩:=t;simp only[T.k_nd,T.n_nd,T.s_nd,T.ks_nd]at hlk hlc hrow ⊢;have aa:=zh hrow;clear hv hrow
  show Calls Tryz.prog 36 #[.agg #[.int .u8 k,.int .i64 n,.string s,.slice A ks.length c],.int .i64 ((d+1:Nat):Int)] w _
  have hb1:=zkc (zs w) (.cells #[.int .u8 k,.int .i64 n,.string s,.slice A ks.length c] 24);have hk1:=heap_alloc_new w (.cells #[.int .u8 k,.int .i64 n,.string s,.slice A ks.length c] 24);obtain⟨w1,hw1⟩:=zX (w.alloc (.cells #[.int .u8 k,.int .i64 n,.string s,.slice A ks.length c] 24));rw[hw1]at hb1 hk1;have HB1:=zh hb1;have aB:=zh hk1;clear hb1 hk1;rw[show((d+1:Nat):Int)=(d:Int)+1 from rfl];have hwd:IntKind.i64.wrap ((d:Int)+1-1)=(d:Int):=by
   rw[show(d:Int)+1-1=(d:Int) by omega];exact IntWalk.i64_in _ (by omega)
  have hd1:¬ (d:Int)+1<1:=by omega
  have hkl:ks.length<=17592186044416:=by unfold LK at hlk;omega
  go_enter Tryz.func36,Tryz.ntmps36;go_wp2_with fail;clear hw1
  go_loopw [6,5] (fun i x wr=>∃(j:Nat) (y:Int),j<=ks.length/\i=.int .i64 j/\x=.int .i64 y/\(1<=y/\y<=1000*((d:Int)+1)+1)/\Hid (Below w1.heap.size w1 wr)) (fun i _ _=>ks.length-(intOf i).toNat)
  case atStart=>exact⟨0,1,Nat.zero_le _,rfl,rfl,⟨by omega,by omega⟩,zh zr⟩
  case round =>
   obtain⟨j,y,hj,rfl,rfl,hy,HW⟩:=hrel;obtain⟨q0,q1,q2,q3⟩:=box4 (zka aB.out HW.out);have HY:=zh hy;by_cases hlt:j<ks.length
   ·obtain⟨a,u,A2,c2,rfl,-,Hu,⟨r0,r1,r2,r3⟩,hnu⟩:=((aa.out.later HB1.out).later HW.out).nd hlt;have HC:=zh (IH.out u _ wr hnu);clear hnu hy;go_wp2_with fail;refine HC.out.mono ?_;rintro e w2 ⟨z,rfl,hz1,hz2,hb2⟩;have HB2:=zh (zkb HW.out hb2);clear hb2 HC q0 q1 q2 q3 r0 r1 r2 r3;by_cases hz:z<0
    ·go_wp2_with fail;go_ret;exact⟨-1,rfl,by omega,by omega,zkb HB1.out HB2.out⟩
    ·by_cases hy2:1000<y
     ·go_wp2_with fail;go_ret;exact⟨-1,rfl,by omega,by omega,zkb HB1.out HB2.out⟩
     ·have hy3:=HY.out;have hwz:IntKind.i64.wrap (y+z)=y+z:=IntWalk.i64_in _ (by omega);have HYZ:=zh (show 1<=y+z/\y+z<=1000*((d:Int)+1)+1 by omega);clear hy3;go_wp2_with fail
      go_roundw
      case rel=>exact⟨j+1,y+z,by omega,by go_num,by first|rfl|rw[hwz],HYZ.out,HB2⟩
      case measure=>simp[intOf];omega
   ·go_wp2_with fail;go_ret;exact⟨y,rfl,by have:=HY.out;omega,HY.out.2,zkb HB1.out HW.out⟩
theorem zv6(t:T)(v:Value)(w:World)(hv:NV w Any t v):Calls Tryz.prog 10 #[v] w fun e w'=>∃x,e=.returned (.bool x)/\Below w.heap.size w w':=by
 have HC:=zh (fun w' (hb:Below w.heap.size w w')=>zro 100 (by omega) t v w' (hv.later hb));obtain⟨A,c,rfl,-⟩:=hv.open_;obtain⟨k,n,s,ks⟩:=t;simp only[T.k_nd,T.n_nd,T.s_nd,T.ks_nd]at HC ⊢;clear hv
 show Calls Tryz.prog 10 #[.agg #[.int .u8 k,.int .i64 n,.string s,.slice A ks.length c]] w _
 have hb1:=zkc (zs w) (.cells #[.int .u8 k,.int .i64 n,.string s,.slice A ks.length c] 24);have hk1:=heap_alloc_new w (.cells #[.int .u8 k,.int .i64 n,.string s,.slice A ks.length c] 24);obtain⟨w1,hw1⟩:=zX (w.alloc (.cells #[.int .u8 k,.int .i64 n,.string s,.slice A ks.length c] 24));rw[hw1]at hb1 hk1;have HB1:=zh hb1;have aB:=zh hk1;obtain⟨x0,x1,x2,x3⟩:=box4 hk1;clear hb1 hk1;go_enter Tryz.func10,Tryz.ntmps10;go_wp2_with fail;refine(HC.out _ HB1.out).mono ?_;rintro e w2 ⟨z,rfl,hz1,hz2,hb2⟩;have HB2:=zh (zkb HB1.out hb2);obtain⟨y0,y1,y2,y3⟩:=box4 (zka aB.out hb2);clear hb2 x0 x1 x2 x3 hw1;by_cases hz:z<0
 ·go_wp2_with fail;go_ret;exact⟨_,rfl,HB2.out⟩
 ·go_wp2_with fail;refine(HC.out _ HB2.out).mono ?_;rintro e w3 ⟨z2,rfl,hz3,jJ,hb3⟩;have HB3:=zh (zkb HB2.out hb3);clear hb3;by_cases h4:400<z2
  ·go_wp2_with fail;go_ret;exact⟨_,rfl,HB3.out⟩
  ·go_wp2_with fail;go_ret;exact⟨_,rfl,HB3.out⟩
def byE(n:Int)(i:Nat):Int:=n / 256 ^ i % 256
def bysE(n:Int):Nat->List Int
 | 0=>[]
 | k+1=>byE n k::bysE n k
theorem zkI(n:Int):∀k,(bysE n k).length=k
 | 0=>rfl
 | k+1=>by rw[bysE,List.length_cons,zkI n k]
theorem zpq{n m:Int}:∀k,bysE n k=bysE m k->n % 256 ^ k=m % 256 ^ k
 | 0,_=>by simp[Int.emod_one]
 | k+1,h=>by
  rw[bysE,bysE]at h;injection h with h1 h2;have ih:=zpq k h2;have key:∀x:Int,x % 256 ^ (k+1)=x % 256 ^ k+256 ^ k*byE x k:=fun x=>by
   unfold byE;have hp:(0:Int)<256 ^ k:=Int.pow_pos (by decide);have h1:=Int.mul_ediv_add_emod x (256 ^ k);have h2:=Int.mul_ediv_add_emod (x / 256 ^ k) 256;have h3:=Int.emod_nonneg x (show(256:Int) ^ k≠0 by omega);have h4:=Int.emod_lt_of_pos x hp;have h5:=Int.emod_nonneg (x / 256 ^ k) (show(256:Int)≠0 by decide);have h6:=Int.emod_lt_of_pos (x / 256 ^ k) (show(0:Int)<256 by decide);have e:x=(256 ^ k*(x / 256 ^ k % 256)+x % 256 ^ k)+256 ^ (k+1)*(x / 256 ^ k / 256):=by
    have h7:256 ^ (k+1)*(x / 256 ^ k / 256)=256 ^ k*(256*(x / 256 ^ k / 256)):=by rw[Int.pow_succ,Int.mul_assoc]
    rw[h7,Int.add_right_comm,<-Int.mul_add,Int.add_comm (x / 256 ^ k % 256),h2,h1]
   have h8:(256:Int) ^ k*(x / 256 ^ k % 256)<=256 ^ k*255:=Int.mul_le_mul_of_nonneg_left (by omega) (by omega);have h9:(0:Int)<=256 ^ k*(x / 256 ^ k % 256):=Int.mul_nonneg (by omega) h5;have h10:(256:Int) ^ (k+1)=256 ^ k*256:=Int.pow_succ ..
   conv=>lhs;rw[e]
   rw[Int.add_mul_emod_self_left,Int.emod_eq_of_lt (by omega) (by omega)];omega
  rw[key,key,ih,h1]
theorem zvt{n m:Int}(hn:I64 n)(hm:I64 m)(h:bysE n 8=bysE m 8):n=m:=by
 have:=zpq 8 h;unfold I64 at hn hm;omega
theorem zvu{n m:Int}(hn:0<=n/\n<65536)(hm:0<=m/\m<65536)(h:bysE n 2=bysE m 2):n=m:=by
 have:=zpq 2 h;omega
def lsE(l:List Int):List Int:=l.flatMap (bysE · 8)
theorem zpa:∀l,(lsE l).length=8*l.length
 | []=>rfl
 | x::l=>by unfold lsE;rw[List.flatMap_cons,List.length_append,zkI];have:=zpa l;unfold lsE at this;rw[this,List.length_cons];omega
theorem zqq:∀ {l m:List Int} {p q:List Int},l.length=m.length->(∀x∈l,I64 x)->(∀x∈m,I64 x)->lsE l++p=lsE m++q->l=m/\p=q
 | [],[],p,q,_,_,_,h=>⟨rfl,h⟩
 | x::l,y::m,p,q,hl,h1,h2,h=>by
  unfold lsE at h;rw[List.flatMap_cons,List.flatMap_cons,List.append_assoc,List.append_assoc]at h;obtain⟨ha,hb⟩:=List.append_inj h (by rw[zkI,zkI]);obtain⟨rfl,rfl⟩:=zqq (l:=l) (m:=m) (by simpa using hl) (fun z hz=>h1 z (List.mem_cons_of_mem _ hz)) (fun z hz=>h2 z (List.mem_cons_of_mem _ hz)) hb;exact⟨by rw[zvt (h1 x (List.mem_cons_self ..)) (h2 y (List.mem_cons_self ..)) ha],rfl⟩
 | [],_::_,_,_,h,_,_,_=>by simp at h
 | _::_,[],_,_,h,_,_,_=>by simp at h
def cnE(l:List Int):List Int:=bysE l.length 2++lsE l
theorem zqB{l m p q:List Int}(hl:l.length<65536)(hm:m.length<65536)(h1:∀x∈l,I64 x)(h2:∀x∈m,I64 x)(h:cnE l++p=cnE m++q):l=m/\p=q:=by
 unfold cnE at h;rw[List.append_assoc,List.append_assoc]at h;obtain⟨ha,hb⟩:=List.append_inj h (by rw[zkI,zkI]);have:=zvu (by omega) (by omega) ha;exact zqq (by omega) h1 h2 hb
def enC:List VD->List (List Int)->List Int
 | v::vs,l::ls=>(if v.k=3 then bysE l.length 2 else [])++(lsE l++enC vs ls)
 | _,_=>[]
def encS(vs:List VD)(s:SS):List Int:=enC vs s.cells++(cnE s.tin++cnE s.tout)
theorem ztt:∀ {vs:List VD} {ls ms:List (List Int)} {p q:List Int},ls.length=vs.length->ms.length=vs.length->zln vs ls=true->zln vs ms=true->(∀l∈ls,∀x∈l,I64 x)->(∀l∈ms,∀x∈l,I64 x) ->
  enC vs ls++p=enC vs ms++q->ls=ms/\p=q
 | [],[],[],p,q,_,_,_,_,_,_,h=>⟨rfl,h⟩
 | v::vs,l::ls,m::ms,p,q,h1,h2,f1,f2,i1,i2,h=>by
  simp only[zln,Bool.and_eq_true]at f1 f2;have ih:=fun {p q:List Int}=>ztt (vs:=vs) (ls:=ls) (ms:=ms) (p:=p) (q:=q) (by simpa using h1) (by simpa using h2) f1.2 f2.2 (fun a ha=>i1 a (List.mem_cons_of_mem _ ha)) fun a ha=>i2 a (List.mem_cons_of_mem _ ha);have j1:=i1 l (List.mem_cons_self ..);have j2:=i2 m (List.mem_cons_self ..);have g1:=f1.1;have g2:=f2.1;unfold fit1 at g1 g2;rw[enC,enC]at h;by_cases hk:v.k=3
  ·rw[if_pos hk]at g1 g2 h;rw[if_pos hk]at h;have g1:=of_decide_eq_true g1;have g2:=of_decide_eq_true g2;have h':cnE l++(enC vs ls++p)=cnE m++(enC vs ms++q):=by
    unfold cnE;simpa only[List.append_assoc]using h
   obtain⟨rfl,e⟩:=zqB (by omega) (by omega) j1 j2 h';obtain⟨rfl,rfl⟩:=ih e;exact⟨rfl,rfl⟩
  ·rw[if_neg hk]at g1 g2 h;rw[if_neg hk]at h;have g1:=of_decide_eq_true g1;have g2:=of_decide_eq_true g2;have h':lsE l++(enC vs ls++p)=lsE m++(enC vs ms++q):=by simpa only[List.append_assoc,List.nil_append]using h
   obtain⟨rfl,e⟩:=zqq (by omega) j1 j2 h';obtain⟨rfl,rfl⟩:=ih e;exact⟨rfl,rfl⟩
 | _::_,[],_,_,_,h,_,_,_,_,_,_=>by simp at h
 | _::_,_::_,[],_,_,_,h,_,_,_,_,_=>by simp at h
 | [],_::_,_,_,_,h,_,_,_,_,_,_=>by simp at h
 | [],[],_::_,_,_,_,h,_,_,_,_,_=>by simp at h
theorem zlo{vs:List VD}{s:SS}(h:fitB vs s=true):svB vs=true/\s.cells.length=vs.length/\s.tin.length<=4096/\s.tout.length<=4096/\zln vs s.cells=true:=by
 simp only[fitB,Bool.and_eq_true,decide_eq_true_eq]at h;exact⟨h.1.1.1.1,h.1.1.1.2,h.1.1.2,h.1.2,h.2⟩
theorem zvk{vs:List VD}{s t:SS}(hs:fitB vs s=true)(ht:fitB vs t=true)(is:s.I)(it:t.I)(h:encS vs s=encS vs t):s=t:=by
 obtain⟨-,a1,a2,a3,a4⟩:=zlo hs;obtain⟨-,b1,b2,b3,b4⟩:=zlo ht;obtain⟨e1,h⟩:=ztt a1 b1 a4 b4 is.1 it.1 h;obtain⟨e2,h⟩:=zqB (by omega) (by omega) is.2.1 it.2.1 h;have e3:=zqB (p:=[]) (q:=[]) (by omega) (by omega) is.2.2 it.2.2 (by rw[List.append_nil,List.append_nil];exact h)
 cases s;cases t
 simp only at e1 e2 e3;rw[e1,e2,e3.1]
def zS(vs:List VD):SS:=⟨vs.map fun v=>List.replicate (fixE v).toNat 0,[],[]⟩
theorem bMkI(n:Nat)(hn:n<=4096)(w:World):(Instr.makeSlice 32 (.int .i64 (n:Int)) (.int .i64 (n:Int))).run Tryz.prog w=.ok (.slice (some ⟨w.heap.size,0,none⟩) n n) (w.alloc (.cells (madeCells #[.int .i64 0] n) 3)):=by
 obtain⟨i,hi,h1,h2,h3⟩:=info_parts znn;have:=zlg (P:=Tryz.prog) 32 3 i (.int .i64 0) Tryz.underlying32 hi h1 .i64 .i64 n n zl (by rw[h3];omega) (by omega) w;rw[h2,Nat.mul_one]at this;exact this
theorem zsJ(w:World)(n0 n:Nat)(h:n0<=w.heap.size)(hn:n<=4096):(w.alloc (.cells (madeCells #[.int .i64 0] n) 3)).ownsRow n0 3 1 (.slice (some ⟨w.heap.size,0,none⟩) n n) (List.replicate n (0:Int)).length (zkf (List.replicate n 0)) :=
 ⟨by simp[zkf],.inr ⟨w.heap.size,n,madeCells #[.int .i64 0] n,by simp,h,heap_alloc_new w _,by simp,by unfold maxLen;omega,by rw[size_madeCells];simp,by rw[zmZ];simp[zkf]⟩⟩
theorem zqh{W:World}{n0 b3:Nat}{vi:Value}{fc:Nat->Value}{s:SS}(hn:n0<=b3)(h:W.heap[b3]?=some (.cells #[.slice none 0 0,vi,.slice none 0 0] 34 (0,0)))(hv:W.ownsRow n0 3 1 vi 0 [])(hne:vi.ownBlock≠some b3)(h1:s.tin=[])(h2:s.tout=[]) :
  Rws W n0 (zlP (.slice none 0 0) vi (.slice none 0 0) fc b3 s 0):=by
 refine⟨fun i=>?_,fun i j b hij hi hj=>?_⟩
 ·rcases i with _|i
  ·exact zsI hn h
  ·cases i with
   | all=>exact zqj _ _ _
   | inp=>simp only[zlP,h1];exact hv
   | out=>simp only[zlP,h2];exact zqj _ _ _
   | el i=>simp only[zlP,Nat.not_lt_zero,if_false];exact zlV W n0
 ·rcases i with _|i<;>rcases j with _|j
  ·exact hij rfl
  ·cases j<;>simp[zlP,nilR,Value.ownBlock,boxV]at hi hj
   subst hi;exact hne hj
  ·cases i<;>simp[zlP,nilR,Value.ownBlock,boxV]at hi hj
   subst hj;exact hne hi
  ·cases i<;>cases j<;>simp[zlP,nilR,Value.ownBlock]at hi hj hij
theorem zo1{v:VD}(h:vdB v=true):0<=fixE v/\fixE v<=16:=by
 unfold vdB at h;unfold fixE
 split
 ·omega
 ·rename_i h1
  split at h
  ·have:=eq_of_beq h;omega
  ·split at h
   ·have:=of_decide_eq_true h;omega
   ·cases h
theorem zSLim(vs:List VD)(h:svB vs=true):(zS vs).Lim:=by
 simp only[svB,Bool.and_eq_true,decide_eq_true_eq,List.all_eq_true]at h;refine⟨by simp only[zS,List.length_map];unfold LI;omega,fun l hl=>?_,Nat.zero_le _,Nat.zero_le _⟩;obtain⟨v,hv,rfl⟩:=List.mem_map.1 hl;have:=zo1 (h.2 v hv);rw[List.length_replicate];unfold LI;omega
theorem st3{W:World}{b:Nat}{a0 a1 a2:Value}{ty:TypeId}(v0 v1 v2:Value)(h:W.heap[b]?=some (.cells #[a0,a1,a2] ty (0,0))) :
  ∃W',((W.setCell ⟨b,0,none⟩ v0).setCell ⟨b,1,none⟩ v1).setCell ⟨b,2,none⟩ v2=W'/\Chg (fun q=>q=b) W W'/\W'.heap[b]?=some (.cells #[v0,v1,v2] ty (0,0)):=by
 have hch:Chg (fun q=>q=b) W (((W.setCell ⟨b,0,none⟩ v0).setCell ⟨b,1,none⟩ v1).setCell ⟨b,2,none⟩ v2) :=
  (((Chg.refl (fun q=>q=b) W).setCell (p:=⟨b,0,none⟩) (.inl rfl) _).setCell (p:=⟨b,1,none⟩) (.inl rfl) _).setCell (p:=⟨b,2,none⟩) (.inl rfl) _
 have hh:=heap_setCell_same _ b 2 _ _ v2 (heap_setCell_same _ b 1 _ _ v1 (heap_setCell_same W b 0 _ _ v0 h));exact⟨_,rfl,hch,by simpa using hh⟩
def zyP(vs:List VD)(w:World)(e:Ending)(w':World):Prop:=Below w.heap.size w w'/\∃v er,e=.returned (.tuple #[v,.int .i64 er])/\(svB vs=false->er=3/\v=.agg #[.slice none 0 0,.slice none 0 0,.slice none 0 0])/\(svB vs=true->er=0/\OwnS w' w.heap.size (zS vs) v)
theorem zwZ:IsFn Tryz.prog 50 Tryz.f50:=⟨Tryz.func50,by kernel_rfl,by kernel_rfl⟩
theorem zvR(vs:List VD)(A:Option Addr)(c:Nat)(w:World)(hrow:RowV w Any A vs)(hl:vs.length<=LV):Calls Tryz.prog 86 #[.slice A vs.length c,.slice none 0 0] w (zyP vs w):=by
 have hb1:=zkc (zs w) (.cells #[.slice none 0 0,.slice none 0 0,.slice none 0 0] 34);have hk1:=heap_alloc_new w (.cells #[.slice none 0 0,.slice none 0 0,.slice none 0 0] 34);have h1:=bS12;have aa:=zh hrow;obtain⟨b0,hb0⟩:=zX (svB vs);have HB0:=zh hb0;have nZ:=zh (fun w' (hb:Below w.heap.size w w')=>hb0▸zoy vs A c w' (hrow.later hb) hl);clear hrow hl hb0;go_enter Tryz.func86,Tryz.ntmps86;go_upto_region 1 with fail;obtain⟨w1,hw1⟩:=zX (w.alloc (.cells #[.slice none 0 0,.slice none 0 0,.slice none 0 0] 34));rw[hw1]at hb1 hk1 ⊢;have HB1:=zh hb1;have aB:=zh hk1;clear hw1 hb1 hk1;go_wp2_with fail;refine(nZ.out _ HB1.out).mono ?_;rintro e w2 ⟨rfl,hb2⟩;have HB2:=zh (zkb HB1.out hb2);have aL:=zh (zka aB.out hb2);have q0:w2.cell? ⟨w.heap.size,0,none⟩=some (.slice none 0 0):=zc aL.out rfl;have q1:w2.cell? ⟨w.heap.size,1,none⟩=some (.slice none 0 0):=zc aL.out rfl
 have q2:w2.cell? ⟨w.heap.size,2,none⟩=some (.slice none 0 0):=zc aL.out rfl;have cf:∀j,w2.frozen? ⟨w.heap.size,j,none⟩=false:=fun j=>zf aL.out;clear hb2
 cases b0
 ·obtain⟨w9,aP,aU,bA⟩:=st3 (.slice none 0 0) (.slice none 0 0) (.slice none 0 0) aL.out;have aW:=zh (HB2.out.trans (aU.below HB2.out.size fun q e=>by have e:q=w.heap.size:=e;omega));obtain⟨t0,t1,t2⟩:=zkn bA;clear aU bA;go_wp2_with fail;refine bodyPost_ret (v:=.tuple #[.agg #[.slice none 0 0,.slice none 0 0,.slice none 0 0],.int .i64 3]) (by simp[results,Tryz.results86,go_sem,t0,t1,t2]) rfl ?_;exact⟨aW.out,_,_,rfl,fun _=>⟨rfl,rfl⟩,fun h=>by rw[HB0.out]at h;cases h⟩
 ·have bJ:=zh (zkD [] none 0 Any w2 (fun i hi=>absurd hi (Nat.not_lt_zero i)) (Nat.zero_le _));have hsv:=HB0.out;simp only[svB,Bool.and_eq_true,decide_eq_true_eq,List.all_eq_true]at hsv;have jV:=zh hsv;have hln:vs.length<=32:=hsv.1;clear hsv;go_wp2_with fail;refine bJ.out.mono ?_;rintro e w3 ⟨vi,rfl,aQ,-,kZ⟩;have HB3:=zh (zkb HB2.out kZ);have df:=zh aQ;clear aQ q0 q1 q2 cf bJ;obtain⟨B,d,rfl,-⟩:=zkd df.out;have hk4:=heap_alloc_new w3 (.cells #[.slice none 0 0,.slice none 0 0,.slice none 0 0] 34);have hb4:=zkc (zs w3) (.cells #[.slice none 0 0,.slice none 0 0,.slice none 0 0] 34);obtain⟨w4,hw4⟩:=zX (w3.alloc (.cells #[.slice none 0 0,.slice none 0 0,.slice none 0 0] 34));rw[hw4]at hk4 hb4;obtain⟨b3,hb3⟩:=zX (w3.heap.size);rw[hb3]at hk4;obtain⟨w5,eF,dH,lN⟩:=st3 (.slice none 0 0) (.slice B 0 d) (.slice none 0 0) hk4
  have ay:=zh (HB3.out.trans (hb4.trans (dH.below hb4.size fun q e=>by have e:q=b3:=e;omega) |>.mono HB3.out.size));have qB:=zh (zqh (n0:=w.heap.size+1) (fc:=fun _=>.slice none 0 0) (s:=zS vs) (by have:=kZ.size;have:=zki aL.out;omega) lN (zk6 (znW (zky df.out hb4) fun q hq=>dH.block q (Nat.lt_of_lt_of_le (df.out.lt q hq).2 hb4.size) fun e=>by have e:q=b3:=e;have:=(df.out.lt q hq).2;omega) (by have:=zki aL.out;omega)) (fun e=>by have:=(df.out.lt _ e).2;omega) rfl rfl);obtain⟨d0,d1,d2⟩:=zkn hk4;have cf:∀j,w4.frozen? ⟨b3,j,none⟩=false:=fun j=>zf hk4;have HH5:=zh lN;have dW:=zh ((dH.block _ (Nat.lt_of_lt_of_le (zki aL.out) (Nat.le_trans (zkb zr kZ).size hb4.size)) fun e=>by have e:w.heap.size=b3:=e;have:=zki aL.out;have:=kZ.size;omega).trans (zka (zka aL.out kZ) hb4));clear hb4 hk4 dH lN kZ;go_wp2_with fail
  clear hw4 eF d0 d1 d2 cf h1;obtain⟨vi,nN⟩:=zX (Value.slice B 0 d);rw[nN]at qB;have wL:=zh nN;clear nN df HH5
  go_loopw [22] (fun i wr=>∃j:Nat,j<=vs.length/\i=.int .i64 j/\Hid (Below w.heap.size w wr)/\∃vc fc,Hid (Rws wr (w.heap.size+1) (zlP vc vi (.slice none 0 0) fc b3 (zS vs) j))/\Hid (wr.heap[w.heap.size]?=some (.cells #[.slice none 0 0,.slice none 0 0,.slice none 0 0] 34 (0,0)))) (fun i _=>vs.length-(intOf i).toNat)
  case atStart=>exact⟨0,Nat.zero_le _,rfl,ay,_,_,qB,dW⟩
  case round =>
   clear qB ay dW;obtain⟨j,hj,rfl,af,vc,fc,HRW,HK⟩:=hrel;by_cases hlt:j<vs.length
   ·have hj1:(j:Int)<(vs.length:Int):=by omega
    have hj0:(0:Int)<=(j:Int):=by omega
    obtain⟨a,v,rfl,-,Hv,⟨p0,p1,p2⟩,hf⟩:=(aa.out.later af.out).nd hlt;have hfx:=zo1 (jV.out.2 _ (List.getElem_mem hlt));rw[Hv.out]at hfx;obtain⟨m,hm⟩:=zX ((fixE v).toNat);have hm2:fixE v=(m:Int):=by omega
    have hm3:m<=4096:=by omega
    have jg:=zh (fun w'=>hm2▸zpS v w');have hgd:(zS vs).cells.getD j []=List.replicate m 0:=by
     rw[<-hm,<-Hv.out];simp[zS,List.getD_eq_getElem?_getD,List.getElem?_map,List.getElem?_eq_getElem hlt]
    have HGD:=zh hgd;obtain⟨oz,vk,vn⟩:=v;simp only at p0 p1 p2;have hbx:=zlN (HRW.out.row none);obtain⟨Av,cv,bQ,-⟩:=zkd (HRW.out.row (some .all));change vc=.slice Av j cv at bQ;subst bQ;have iM:=heap_alloc_new wr (.cells #[.string oz,.int .u8 vk,.int .i64 vn] 76);have cK:=zkc (zs wr) (.cells #[.string oz,.int .u8 vk,.int .i64 vn] 76);obtain⟨w9,aP⟩:=zX (wr.alloc (.cells #[.string oz,.int .u8 vk,.int .i64 vn] 76));rw[aP]at iM cK;have aW:=zh cK;have sW:=zh (HRW.out.later aW.out);obtain⟨e0,e1,e2⟩:=zkn iM;have hbx:=zlN (sW.out.row none);have x0:w9.cell? ⟨b3,0,none⟩=some (.slice Av j cv):=zc hbx rfl;clear iM cK hgd hm2 hfx hf;go_upto_region 9 with fail;clear aP p0 p1 p2;obtain⟨vb,hvb⟩:=zX (wr.heap.size);have fK:=zh hvb;rw[hvb]at e0 e1 e2 ⊢
    have hS0:(fun w':World=>zN3 w' vb (.string oz) (.int .u8 vk) (.int .i64 vn)) w9.drew/\(fun w':World=>zv w' b3 0 (.slice Av j cv)) w9.drew:=⟨⟨e0,e1,e2⟩,x0⟩
    have ax:=zh (show ∀w',Below w9.heap.size w9 w'->(fun w':World=>zN3 w' vb (.string oz) (.int .u8 vk) (.int .i64 vn)) w'/\(fun w':World=>zv w' b3 0 (.slice Av j cv)) w' from fun w' h=>⟨⟨zb h e0,zb h e1,zb h e2⟩,zb h x0⟩);obtain⟨i0,hi0,hq0,hq1,hq2⟩:=info_parts zsw;refine wp_region_noPanic ?_;refine zkk (fun w':World=>zN3 w' vb (.string oz) (.int .u8 vk) (.int .i64 vn)) (fun w':World=>zv w' b3 0 (.slice Av j cv)) 8 (by kernel_rfl) ?_;clear e0 e1 e2 x0 hvb;refine zT 0 hS0 ?_;refine zJ 1 hS0 ?_;refine zT 2 hS0 ?_;refine zo 3 fun K hK=>?_;have had:Calls Tryz.prog 50 [.agg #[.string oz,.int .u8 vk,.int .i64 vn]].toArray w9.drew fun e w'=>∃u,e=.returned u/\(u=.int .i64 (m:Int)/\Below w9.heap.size w9 w') :=
     (jg.out _).mono fun e w' ⟨h1,h2⟩=>⟨_,h1,rfl,zkb (zs w9).drew h2⟩
    refine zke (by rfl) (.func 50) [.tmp 28] _ (by rfl) 50 _ zwZ (by rfl) _ (by rfl) _ had ?_;rintro v8 wb ⟨rfl,hbb⟩;have dA:=zh hbb;refine hK.out _ _ (ax.out _ hbb) ?_;clear hK K hS0 hbb had;(try simp only[zQ]);have hmk:=bMkI m hm3 wb;refine zo 4 fun K hK=>?_;(try simp only[zA,zB,zC]);go_simp;have hb4:=zkb dA.out (zkc (zs wb) (.cells (madeCells #[.int .i64 0] m) 3));have hsz:=af.out.size;have hd1:=(sW.out.later dA.out).upd (some (.el j)) (r:=⟨.slice (some ⟨wb.heap.size,0,none⟩) m m,3,1,(List.replicate m (0:Int)).length,zkf (List.replicate m 0)⟩) (Chg.of_below (zkc (zs wb) (.cells (madeCells #[.int .i64 0] m) 3))) (zsJ wb (w.heap.size+1) m (by have:=aW.out.size;have:=dA.out.size;have:=zki HK.out;omega) hm3) (fun b hb=>.inr (by have hb:some wb.heap.size=some b:=hb;injection hb with hb;omega));have HD1:=zh hd1;have av:=zh hb4
    obtain⟨g,hg⟩:=zX (wb.heap.size);obtain⟨wx,hwx⟩:=zX (wb.alloc (.cells (madeCells #[.int .i64 0] m) 3));rw[hwx]at HD1 av ⊢;rw[hg]at HD1 ⊢;refine hK.out _ _ (ax.out _ av.out) ?_;clear hK K hmk hd1 hb4 hwx hg sW;(try simp only[zQ]);have h1:=zyc;refine zo 5 fun K hK=>?_;(try simp only[zA,zB,zC]);go_simp;have iG:=zh (zkb av.out (zkc (zs wx) (.cells #[.slice (some ⟨g,0,none⟩) m m] 32)));have HD2:=zh (HD1.out.later (zkc (zs wx) (.cells #[.slice (some ⟨g,0,none⟩) m m] 32)));have aI:=zh (heap_alloc_new wx (.cells #[.slice (some ⟨g,0,none⟩) m m] 32));obtain⟨wc,hwc⟩:=zX (wx.alloc (.cells #[.slice (some ⟨g,0,none⟩) m m] 32));rw[hwc]at iG HD2 aI ⊢;refine hK.out _ _ (ax.out _ iG.out) ?_;clear hK K hwc HD1 h1;(try simp only[zQ]);have hbC:=zkb af.out (zkb aW.out iG.out);have oG:=hbC.size;have hrow:=HD2.out.row (some .all);rw[zkj (by simp)]at hrow
    change wc.ownsRow (w.heap.size+1) 32 1 (.slice Av j cv) j ((List.range j).map fc)at hrow;refine zo 6 fun K hK=>?_;refine zkR (by rfl) (.tmp 27) (.tmp 31) 31 (by rfl) (w.heap.size+1) 32 i0 _ 1 24 Tryz.underlying31 hi0 hq0 hq1 hq2 rfl (by decide) (.slice Av j cv) j ((List.range j).map fc) (by rfl) hrow ⟨wx.heap.size,0,none⟩ 1 1 [.slice (some ⟨g,0,none⟩) m m] (by rfl) rfl (fun q u hq=>by
     match q,hq with
     | 0,hq=>injection hq with hq;subst hq;exact zc aI.out rfl) (fun u hu=>by simp at hu;subst hu;rfl) (by unfold maxLen;omega) (by omega) (by have:=aW.out.size;have:=iG.out.size;have:=zki HK.out;omega) (fun vd wd ho hg aR=>?_)
    have hd3:=HD2.out.upd (some .all) (r:=⟨vd,32,1,j+1,(List.range j).map fc++[.slice (some ⟨g,0,none⟩) m m]⟩) ((Chg.row hg).mono fun b _ hb=>hb) ho (fun b hb=>by
     rcases aR with h5|h5
     ·exact .inl (h5▸hb)
     ·exact .inr (by rw[h5]at hb;injection hb with hb;omega))
    have HD3:=zh hd3;have hlo:∀g,(Value.slice Av j cv).ownBlock=some g->w.heap.size+1<=g:=fun g e=>(HRW.out.lt (some .all) g e).1;have dD:Chg (fun b=>(Value.slice Av j cv).ownBlock=some b) wc wd:=Chg.row hg;have hbD:=hbC.grown hg oG (fun g e=>by have:=hlo g e;omega);have jr:(fun w':World=>zN3 w' vb (.string oz) (.int .u8 vk) (.int .i64 vn)) wd:=by
     obtain⟨f0,f1,f2⟩:=(ax.out _ iG.out).1;have hne:∀b,(Value.slice Av j cv).ownBlock=some b->b≠vb:=fun b h e=>by have:=(HRW.out.lt (some .all) b h).2;have:=fK.out;omega
     have hk:=dD.block vb (World.block_lt_of_cell? wc _ f0) fun h=>hne _ h rfl;exact⟨zkr f0 hk,zkr f1 hk,zkr f2 hk⟩
    have jP:=zlN (HD3.out.row none);have e0:wd.cell? ⟨b3,0,none⟩=some (.slice Av j cv):=zc jP rfl;have ez:wd.frozen? ⟨b3,0,none⟩=false:=zf jP;have hd4:=HD3.out.set none (g:=b3) (o:=0) (by rfl) (by show 0<3;decide) vd;have hd5:Rws (wd.setCell ⟨b3,0,none⟩ vd) (w.heap.size+1) (zlP vd vi (.slice none 0 0) (fun i=>if i=j then .slice (some ⟨g,0,none⟩) m m else fc i) b3 (zS vs) (j+1)):=by
     rw[<-zwe (.slice Av j cv) vd vi (.slice none 0 0) fc b3 (zS vs) j (List.replicate m 0) (.slice (some ⟨g,0,none⟩) m m) HGD.out];exact hd4
    have HD5:=zh hd5;have hb3lt:=(HD3.out.lt none b3 rfl)
    have hkd:wd.heap[w.heap.size]?=some (.cells #[.slice none 0 0,.slice none 0 0,.slice none 0 0] 34 (0,0)):=dD.keep (zka (zka HK.out aW.out) iG.out) fun h=>by have:=hlo _ h;omega
    have hcs:=((Chg.refl (fun b=>b=b3) wd).setCell (p:=⟨b3,0,none⟩) (.inl rfl) vd)
    have xq:=zh (show Below w.heap.size w (wd.setCell ⟨b3,0,none⟩ vd)from hbD.trans (hcs.below hbD.size fun b e=>by omega));have HKE:=zh (hcs.keep hkd fun e=>by have e:w.heap.size=b3:=e;have:=hb3lt;omega);have hS5:(fun w':World=>zN3 w' vb (.string oz) (.int .u8 vk) (.int .i64 vn)) (wd.setCell ⟨b3,0,none⟩ vd):=by
     obtain⟨f0,f1,f2⟩:=jr;have hk:=hcs.block vb (World.block_lt_of_cell? wd _ f0) fun e=>by have e:vb=b3:=e;have:=(HRW.out.lt none b3 rfl).2;have:=fK.out;omega
     exact⟨zkr f0 hk,zkr f1 hk,zkr f2 hk⟩
    obtain⟨Ad,cd',rfl,-⟩:=zkd ho;refine hK.out _ _ ⟨jr,e0⟩ ?_;clear hK K hd3 hd4 hd5 ho hg aR hrow dD hlo jP hkd hcs hbC hbD ax;(try simp only[zQ]);refine zo 7 fun K hK=>?_;(try simp only[zA,zB,zC]);go_simp;refine hK.out _ _ ⟨jr,e0⟩ ?_;clear hK K;(try simp only[zQ]);refine zp 8 fun K hK=>?_;(try simp only[zA,zB,zC]);go_simp;refine hK.out _ _ hS5 ?_;clear hK K;(try simp only[zQ]);refine zd ?_;refine NoPanic.normal ?_;clear jr hS5 e0 ez;go_wp2_with fail
    go_roundw
    case rel=>exact⟨j+1,by omega,by go_num,xq,_,_,HD5,HKE⟩
    case measure=>simp[intOf];omega
   ·obtain rfl:j=vs.length:=by omega
    have hj1:¬ (vs.length:Int)<(vs.length:Int):=by omega
    have hbx:=zlN (HRW.out.row none);obtain⟨x0,x1,x2⟩:=zkn hbx;obtain⟨Av,cv,bQ,-⟩:=zkd (HRW.out.row (some .all));change vc=.slice Av vs.length cv at bQ;subst bQ;rw[<-wL.out]at x1;obtain⟨w9,aP,aU,bA⟩:=st3 (.slice Av vs.length cv) (.slice B 0 d) (.slice none 0 0) HK.out;obtain⟨q0,q1,q2⟩:=zkn HK.out;have cf:∀j,wr.frozen? ⟨w.heap.size,j,none⟩=false:=fun j=>zf HK.out;obtain⟨t0,t1,t2⟩:=zkn bA;have aW:=zh (af.out.trans (aU.below af.out.size fun q e=>by have e:q=w.heap.size:=e;omega));clear bA hbx;go_wp2_with fail;refine bodyPost_ret (v:=.tuple #[.agg #[.slice Av vs.length cv,.slice B 0 d,.slice none 0 0],.int .i64 0]) (by simp[results,Tryz.results86,go_sem,t0,t1,t2]) rfl ?_;refine⟨aW.out,_,_,rfl,fun h=>(by rw[HB0.out]at h;cases h),fun _=>⟨rfl,?_⟩⟩;have hre:=zpE (b3:=b3) (s:=zS vs) (by rw[show(zS vs).cells.length=vs.length by simp[zS]];exact HRW.out)
    have hrw:=hre.chg aU (fun i b hb e=>by
     have e:b=w.heap.size:=e;have:=(hre.lt i b hb).1;omega)
    rw[<-wL.out]at hrw;exact⟨_,_,_,_,rfl,hrw.mono (by omega),⟨fun l hl x hx=>by
     obtain⟨v,_,rfl⟩:=List.mem_map.1 hl;obtain rfl:=List.eq_of_mem_replicate hx;unfold I64;omega,fun x hx=>(by cases hx),fun x hx=>(by cases hx)⟩⟩
theorem zxE:(Tryz.prog.info? 5).map (fun i=>(i.zero,i.size,i.bytes))=some (some (.int .u8 0),1,1):=by kernel_rfl
theorem zxh(x:Int)(w:World):(Instr.buildSlice 83 1 #[(0,.int .u8 x)]).run Tryz.prog w=.ok (.slice (some ⟨w.heap.size,0,none⟩) 1 1) (w.alloc (.cells #[.int .u8 x] 5)):=by kernel_rfl
def zkP(xs:List Int):List Value:=xs.map fun x=>.int .u8 x
theorem znM{ops:Array Oper}{rest:List Oper}{o:Oper}{a:Act}{W:World}{Q:Exit->Act->World->Prop}(hgd:o.guard=none)(s x:Operand)
  (ho:o.op=.call { callee:=.builtin .append,args := #[s,x],argTypes := #[83,83] })(base:Nat)(v:Value)(n:Nat)(xs:List Value)(hs:a.eval s=v)(hrow:W.ownsRow base 5 1 v n xs)
  (b:Nat)(y:Int)(hx:a.eval x=.slice (some ⟨b,0,none⟩) 1 1)(hc:W.heap[b]?=some (.cells #[.int .u8 y] 5 (0,0)))(hl:n+1<=1000000)(hb:base<=W.heap.size)
  (h:∀v' w',w'.ownsRow base 5 1 v' (n+1) (xs++[.int .u8 y])->W.grownBy w' v.ownBlock->wpList Tryz.prog ops Q rest (a.put o.dst v') w') :
  wpList Tryz.prog ops Q (o::rest) a W:=by
 obtain⟨i,hi,hz0,hz1,hz2⟩:=info_parts zxE;refine wpList_append_own_at (P:=Tryz.prog) _ hgd s x 83 ho base 5 i _ 1 1 Tryz.underlying83 hi hz0 hz1 hz2 rfl (by decide) v n xs hs hrow ⟨b,0,none⟩ 1 1 [.int .u8 y] hx (by simp) (fun j u hj=>?_) (fun u hu=>?_) (by unfold maxLen;omega) (by omega) hb (fun v' w' h1 h2 _ _=>h v' w' h1 h2)
 ·rw[Addr.add_lit,Nat.zero_add];exact zc hc (by simpa using hj)
 ·simp only[List.mem_cons,List.not_mem_nil,or_false]at hu;subst hu;rfl
theorem zrs(n:Int):∀(k j:Nat),j<k->(bysE n k)[j]?=some (byE n (k-1-j))
 | k+1,0,_=>by simp[bysE]
 | k+1,j+1,h=>by
  rw[bysE,List.getElem?_cons_succ,zrs n k j (by omega)];congr 2;omega
def BytP(base:Nat)(n:Nat)(xs:List Value)(ys:List Int)(w:World)(e:Ending)(w':World):Prop :=
 ∃A c,e=.returned (.slice A (n+ys.length) c)/\w'.ownsRow base 5 1 (.slice A (n+ys.length) c) (n+ys.length) (xs++zkP ys)/\Below base w w'
theorem zli(base n:Nat)(A:Option Addr)(c:Nat)(xs:List Value)(x:Int)(k:Nat)(w:World)(hr:w.ownsRow base 5 1 (.slice A n c) n xs)(hb:base<=w.heap.size)(hk:k<=8)(hn:n<=900000)(hx:I64 x) :
  Calls Tryz.prog 82 #[.slice A n c,.int .i64 x,.int .i64 (k:Int)] w (BytP base n xs (bysE x k) w):=by
 have HR:=zh hr;have HB:=zh hb;clear hr hb;go_enter Tryz.func82,Tryz.ntmps82;go_wp2_with fail
 go_loopw [9,0] (fun i v wr=>∃(j:Nat) (A':Option Addr) (c':Nat),j<=k/\i=.int .i64 j/\v=.slice A' (n+j) c'/\Hid (Below base w wr)/\Hid (wr.ownsRow base 5 1 (.slice A' (n+j) c') (n+j) (xs++zkP ((bysE x k).take j)))) (fun i _ _=>k-(intOf i).toNat)
 case atStart=>exact⟨0,A,c,Nat.zero_le _,rfl,rfl,zh zr,zh (by simpa[zkP]using HR.out)⟩
 case round =>
  obtain⟨j,A',c',hj,rfl,rfl,af,HRW⟩:=hrel;by_cases hlt:j<k
  ·have hj1:(j:Int)<(k:Int):=by omega
   have e1:IntKind.i64.wrap ((k:Int)-1)=(k:Int)-1:=IntWalk.i64_in _ (by omega);have e2:IntKind.i64.wrap ((k:Int)-1-(j:Int))=((k-1-j:Nat):Int):=by rw[show((k-1-j:Nat):Int)=(k:Int)-1-(j:Int) by omega];exact IntWalk.i64_in _ (by omega)
   obtain⟨m,hm⟩:=zX (k-1-j);rw[hm]at e2;have e3:IntKind.i64.wrap (8*(m:Int))=8*(m:Int):=IntWalk.i64_in _ (by omega);obtain⟨y,hy⟩:=zX (x / 2 ^ (8*m) % 256);have hyb:byE x m=y:=by
    rw[<-hy];unfold byE;rw[show(256:Int) ^ m=2 ^ (8*m) by rw[Int.pow_mul];rfl]
   have htk:(bysE x k).take (j+1)=(bysE x k).take j++[y]:=by
    rw[List.take_add_one,zrs x k j hlt,hm,hyb];rfl
   have mV:=zh htk;have hrow:=zky HRW.out (zkc (zs wr) (.cells #[.int .u8 y] 5));have hk4:=heap_alloc_new wr (.cells #[.int .u8 y] 5);have hl4:n+j+1<=1000000:=by omega
   have hsz:=af.out.size;have hb4:base<=(wr.alloc (.cells #[.int .u8 y] 5)).heap.size:=by have:=HB.out;simp;omega
   have HX:=zh (show ∀v' w',w'.ownsRow base 5 1 v' (n+j+1) (xs++zkP ((bysE x k).take j)++[.int .u8 y])->(wr.alloc (.cells #[.int .u8 y] 5)).grownBy w' (Value.slice A' (n+j) c').ownBlock->∃A9 c9,v'=.slice A9 (n+j+1) c9/\Hid (Below base w w')/\Hid (w'.ownsRow base 5 1 (.slice A9 (n+j+1) c9) (n+j+1) (xs++zkP ((bysE x k).take (j+1))))from fun v' w' ho hg=>by
    obtain⟨A9,c9,rfl,-⟩:=zkd ho;have h2:Below base w (wr.alloc (.cells #[.int .u8 y] 5)):=af.out.trans ((zkc (zs wr) _).mono (Nat.le_trans HB.out hsz));refine⟨A9,c9,rfl,zh (h2.trans ((Chg.row hg).below hb4 fun q e=>(HRW.out.lt q e).1)),zh ?_⟩;rw[mV.out,show zkP ((bysE x k).take j++[y])=zkP ((bysE x k).take j)++[.int .u8 y] by simp[zkP],<-List.append_assoc];exact ho)
   have hbu:=zxh y wr;have uB:IntKind.i64.wrap ((j:Int)+1)=(j:Int)+1:=IntWalk.i64_in _ (by omega);clear htk hyb;go_wp2_with (at_builtin;refine znM rfl (.tmp 12) (.tmp 21) rfl base (.slice A' (n+j) c') (n+j) _ rfl hrow wr.heap.size _ rfl hk4 hl4 hb4 ?_;intro v' w' ho hg;obtain⟨A9,c9,rfl,aW,fw⟩:=HX.out _ _ ho hg;clear ho hg)
   exact⟨⟨j+1,A9,c9,by omega,by go_num,rfl,aW,fw⟩,by simp[intOf];omega⟩
  ·obtain rfl:j=k:=by omega
   have hj1:¬ (j:Int)<(j:Int):=by omega
   go_wp2_with fail;go_ret;have h:=HRW.out;rw[List.take_of_length_le (by rw[zkI];exact zl)]at h;refine⟨A',c',by rw[zkI];rfl,by rw[zkI];exact h,af.out⟩
theorem zuR{l:List Int}{j:Nat}(h:j<l.length):lsE (l.take (j+1))=lsE (l.take j)++bysE l[j] 8:=by
 rw[List.take_succ_eq_append_getElem h];unfold lsE;rw[List.flatMap_append];simp
theorem BytP.mk'{base n:Nat}{xs:List Value}{ys:List Int}{w w':World}{A:Option Addr}{c m:Nat}(hm:n+ys.length=m)(ho:w'.ownsRow base 5 1 (.slice A m c) m (xs++zkP ys))(hb:Below base w w'):BytP base n xs ys w (.returned (.slice A m c)) w':=by
 subst hm;exact⟨A,c,rfl,ho,hb⟩
theorem zlY(base n:Nat)(A:Option Addr)(c:Nat)(xs:List Value)(B:Option Addr)(d:Nat)(l:List Int)(w:World)(hr:w.ownsRow base 5 1 (.slice A n c) n xs)(hb:base<=w.heap.size)(hl:RowI w (fun q=>q<base) B l)(hn:n+8*l.length<=900000) :
  Calls Tryz.prog 83 #[.slice A n c,.slice B l.length d] w (BytP base n xs (lsE l) w):=by
 have HR:=zh hr;have HB:=zh hb;have HL:=zh hl;obtain⟨k,hk⟩:=zX (l.length);have HK:=zh hk;rw[hk]at hn ⊢;clear hr hb hl hk;go_enter Tryz.func83,Tryz.ntmps83;go_wp2_with fail
 go_loopw [9,0] (fun i v wr=>∃(j:Nat) (A':Option Addr) (c':Nat),j<=k/\i=.int .i64 j/\v=.slice A' (n+8*j) c'/\Hid (Below base w wr)/\Hid (wr.ownsRow base 5 1 (.slice A' (n+8*j) c') (n+8*j) (xs++zkP (lsE (l.take j))))) (fun i _ _=>k-(intOf i).toNat)
 case atStart=>exact⟨0,A,c,Nat.zero_le _,rfl,rfl,zh zr,zh (by simpa[zkP,lsE]using HR.out)⟩
 case round =>
  obtain⟨j,A',c',hj,rfl,rfl,af,HRW⟩:=hrel;by_cases hlt:j<k
  ·have hj1:(j:Int)<(k:Int):=by omega
   have hj0:(0:Int)<=(j:Int):=by omega
   have hlk:j<l.length:=by rw[HK.out];exact hlt
   have hl2:=HL.out.keep (w':=wr) (S':=Any) (fun _ _ _=>trivial) fun q h _=>af.out.block q h;obtain⟨a,rfl,-,hx0,jL⟩:=hl2 j hlk;have mV:=zh (zuR hlk);obtain⟨x,hx⟩:=zX (l[j]);rw[hx]at hx0 jL mV;have HAB:=zh (zli base (n+8*j) A' c' (xs++zkP (lsE (l.take j))) x 8 wr HRW.out (Nat.le_trans HB.out af.out.size) (by omega) (by omega) jL);have uB:IntKind.i64.wrap ((j:Int)+1)=(j:Int)+1:=IntWalk.i64_in _ (by omega);clear hl2 hx jL;go_wp2_with fail;refine HAB.out.mono ?_;rintro e w5 ⟨A9,c9,rfl,ho,hb5⟩;rw[zkI]at ho ⊢;have ay:=zh (af.out.trans hb5);have fO:=zh (show w5.ownsRow base 5 1 (.slice A9 (n+8*(j+1)) c9) (n+8*(j+1)) (xs++zkP (lsE (l.take (j+1)))) by
    rw[mV.out,show zkP (lsE (l.take j)++bysE x 8)=zkP (lsE (l.take j))++zkP (bysE x 8) by simp[zkP],<-List.append_assoc];exact ho)
   clear ho hb5 hx0;go_wp2_with fail;exact⟨⟨j+1,A9,c9,by omega,by go_num,rfl,ay,fO⟩,by simp[intOf];omega⟩
  ·obtain rfl:j=k:=by omega
   have hj1:¬ (j:Int)<(j:Int):=by omega
   go_wp2_with fail;go_ret;have h:=HRW.out;rw[List.take_of_length_le (by rw[HK.out];exact zl)]at h;exact BytP.mk' (by rw[zpa,HK.out]) h af.out
theorem zrk:∀ {vs:List VD} {ls:List (List Int)} {j:Nat} (h:j<vs.length) (h':j<ls.length),enC (vs.take (j+1)) (ls.take (j+1))=enC (vs.take j) (ls.take j)++((if vs[j].k=3 then bysE ls[j].length 2 else [])++lsE ls[j])
 | v::vs,l::ls,0,_,_=>by simp[enC]
 | v::vs,l::ls,j+1,h,h'=>by
  have:=zrk (vs:=vs) (ls:=ls) (j:=j) (by simpa using h) (by simpa using h');simp only[List.take_succ_cons,enC,List.getElem_cons_succ]at this ⊢;rw[this];simp only[List.append_assoc]
theorem zts:∀ {vs:List VD} {ls:List (List Int)} (j:Nat),(∀l∈ls,l.length<=1000)->(enC (vs.take j) (ls.take j)).length<=j*8002
 | [],_,j,_=>by simp[enC]
 | _::_,[],j,_=>by cases j<;>simp[enC]
 | v::vs,l::ls,0,_=>by simp[enC]
 | v::vs,l::ls,j+1,h=>by
  have:=zts (vs:=vs) (ls:=ls) j fun l hl=>h l (List.mem_cons_of_mem _ hl);have hl:=h l (List.mem_cons_self ..);simp only[List.take_succ_cons,enC,List.length_append,zpa];have h2:(if v.k=3 then bysE (l.length:Int) 2 else []).length<=2:=by split<;>simp[zkI]
  omega
theorem zrf:∀ {vs:List VD} {ls:List (List Int)},ls.length=vs.length->vs.all vdB=true->zln vs ls=true->∀l∈ls,l.length<=1000
 | [],[],_,_,_,l,h=>by cases h
 | v::vs,m::ls,hl,hv,hf,l,h=>by
  simp only[zln,Bool.and_eq_true]at hf;simp only[List.all_cons,Bool.and_eq_true]at hv;rcases List.mem_cons.1 h with rfl|h
  ·have h1:=hf.1;unfold fit1 at h1
   split at h1
   ·exact of_decide_eq_true h1
   ·have h2:=of_decide_eq_true h1;have h3:=zo1 hv.1;omega
  ·exact zrf (by simpa using hl) hv.2 hf.2 l h
 | [],_::_,h,_,_,_,_=>by simp at h
 | _::_,[],h,_,_,_,_=>by simp at h
theorem zmp(a b:List Int):zkP (a++b)=zkP a++zkP b:=by simp[zkP]
def EncP(vs:List VD)(s:SS)(w:World)(e:Ending)(w':World):Prop:=Below w.heap.size w w'/\((fitB vs s=false/\e=.returned (.tuple #[.slice none 0 0,.int .i64 3]))\/(fitB vs s=true/\∃A c,e=.returned (.tuple #[.slice A (encS vs s).length c,.int .i64 0])/\w'.ownsRow w.heap.size 5 1 (.slice A (encS vs s).length c) (encS vs s).length (zkP (encS vs s))))
theorem zoL:IsFn Tryz.prog 82 Tryz.f82:=⟨Tryz.func82,by kernel_rfl,by kernel_rfl⟩
theorem zpO:IsFn Tryz.prog 83 Tryz.f83:=⟨Tryz.func83,by kernel_rfl,by kernel_rfl⟩
theorem zr7(vs:List VD)(s:SS)(A0:Option Addr)(c0:Nat)(v:Value)(w:World)(hrow:RowV w Any A0 vs)(hl:vs.length<=LV)(hv:SV w Any s v):Calls Tryz.prog 39 #[.slice A0 vs.length c0,v] w (EncP vs s w):=by
 have aa:=zh hrow;have bz:=zh (fun w' (hb:Below w.heap.size w w')=>zpv vs s A0 c0 v w' (hrow.later hb) hl (hv.later hb));obtain⟨fb,qp⟩:=zX (fitB vs s);have dM:=zh qp;rw[qp]at bz;have HSVV:=zh (hv.keep (S':=fun q=>q<w.heap.size) (fun _ _ h=>h) fun _ _ _=>rfl);obtain⟨A,c,B,d,D,e,rfl,-⟩:=hv;have hb1:=zkc (zs w) (.cells #[.slice A s.cells.length c,.slice B s.tin.length d,.slice D s.tout.length e] 34);have hk1:=heap_alloc_new w (.cells #[.slice A s.cells.length c,.slice B s.tin.length d,.slice D s.tout.length e] 34);clear hrow qp;go_enter Tryz.func39,Tryz.ntmps39;go_upto_region 1 with fail;obtain⟨w1,hw1⟩:=zX (w.alloc (.cells #[.slice A s.cells.length c,.slice B s.tin.length d,.slice D s.tout.length e] 34));rw[hw1]at hb1 hk1 ⊢;obtain⟨x0,x1,x2⟩:=zkn hk1;have HB1:=zh hb1;have aB:=zh hk1;clear hw1 hb1 hk1;go_wp2_with fail;refine(bz.out _ HB1.out).mono ?_;rintro e1 w2 ⟨rfl,hb2⟩
 have HB2:=zh (zkb HB1.out hb2);have aL:=zh (zka aB.out hb2);clear hb2 x0 x1 x2
 cases fb
 ·go_wp2_with fail;go_ret2;exact⟨HB2.out,.inl ⟨dM.out,rfl⟩⟩
 obtain⟨q1,q2,q3,q4,q5⟩:=zlo dM.out;have hq6:=zrf q2 (by simp only[svB,Bool.and_eq_true]at q1;exact q1.2) q5;have hn32:vs.length<=32:=by simp only[svB,Bool.and_eq_true,decide_eq_true_eq]at q1;exact q1.1
 obtain⟨A_,c_,B_,d_,D_,e_,he,hr1,hr2,hr3,-⟩:=HSVV.out;injection he with he;simp only[Array.mk.injEq,List.cons.injEq,and_true,Value.slice.injEq,true_and]at he;obtain⟨⟨rfl,rfl⟩,⟨rfl,rfl⟩,rfl,rfl⟩:=he;have HR1:=zh hr1;have HR2:=zh hr2;have HR3:=zh hr3;have sZ:=zh hq6;have qE:=zh q2;have HTI:=zh q3;have HTO:=zh q4;rw[q2]at aL;obtain⟨n,hn⟩:=zX (vs.length);have HN:=zh hn;rw[hn]at hn32 aL;clear q1 q2 q5 hq6 hr1 hr2 hr3 bz HSVV;rw[HN.out];go_wp2_with fail
 go_loopw [15,6] (fun i v wr=>∃(j:Nat) (A':Option Addr) (c':Nat),j<=n/\i=.int .i64 j/\v=.slice A' (enC (vs.take j) (s.cells.take j)).length c'/\Hid (Below w2.heap.size w2 wr)/\Hid (wr.ownsRow w2.heap.size 5 1 (.slice A' (enC (vs.take j) (s.cells.take j)).length c') (enC (vs.take j) (s.cells.take j)).length (zkP (enC (vs.take j) (s.cells.take j))))) (fun i _ _=>n-(intOf i).toNat)
 case atStart=>exact⟨0,none,0,Nat.zero_le _,rfl,rfl,zh zr,zh ⟨rfl,.inl ⟨rfl,rfl⟩⟩⟩
 case round =>
  obtain⟨j,A',c',hj,rfl,rfl,af,HRW⟩:=hrel;have zY:=zh (zts (vs:=vs) (ls:=s.cells) j sZ.out);obtain⟨E,hE⟩:=zX (enC (vs.take j) (s.cells.take j));rw[hE]at HRW zY ⊢;have HE:=zh hE;clear hE;by_cases hlt:j<n
  ·have hj1:(j:Int)<(n:Int):=by omega
   have hj0:(0:Int)<=(j:Int):=by omega
   have hlv:j<vs.length:=by rw[HN.out];exact hlt
   have hlc:j<s.cells.length:=by rw[qE.out];exact hlv
   have hEL:E.length<=300000:=by have:=zY.out;omega
   obtain⟨a,u,rfl,-,Hu,⟨p0,p1,p2⟩,hf⟩:=(aa.out.later (zkb HB2.out af.out)).nd hlv;have mV:=zh (zrk hlv hlc);rw[Hu.out,HE.out]at mV;have hll:=sZ.out _ (List.getElem_mem hlc);obtain⟨a2,A3,c3,ha2,has,hce,-,aQ⟩:=HR1.out j hlc;obtain⟨l,xE⟩:=zX (s.cells[j]);rw[xE]at mV hce aQ hll;obtain⟨us,uk,un⟩:=u;simp only at p0 p1 p2 mV;obtain⟨w9,aP⟩:=zX (wr.alloc (.cells #[.string us,.int .u8 uk,.int .i64 un] 76));have aF:Below wr.heap.size wr w9:=by rw[<-aP];exact zkc zr _
   have aH:=heap_alloc_new wr (.cells #[.string us,.int .u8 uk,.int .i64 un] 76);rw[aP]at aH;have y1:w9.cell? ⟨wr.heap.size,1,none⟩=some (.int .u8 uk):=zc aH rfl;have aW:=zh (zkb af.out aF);obtain⟨x0,-,-⟩:=zkn (zka aL.out aW.out);have z0:=zb aW.out (zb HB2.out hce);rw[ha2]at x0;clear ha2;have df:=zh (aQ.keep (w':=w9) (S':=fun q=>q<w2.heap.size) (fun q h _=>Nat.lt_of_lt_of_le h HB2.out.size) fun q h _=>(zkb HB2.out aW.out).block q h);have lu:=zh (zky HRW.out aF);have hbs9:w2.heap.size<=w9.heap.size:=aW.out.size;have eX:=zh (fun w' (hb:Below w2.heap.size w9 w')=>(show w'.cell? ⟨w.heap.size,0,none⟩=some (.slice (some a2) n c)/\w'.cell? (a2.add j)=some (.slice A3 l.length c3)from
    ⟨zkr x0 (hb.block _ (zki aL.out)),zkr z0 (hb.block _ (by rw[zkq];exact Nat.lt_of_lt_of_le has HB2.out.size))⟩))
   have gZ:=zh (fun w' (hb:Below w2.heap.size w9 w') (m:Nat) (A5:Option Addr) (c5:Nat) (xs:List Value) (ho:w'.ownsRow w2.heap.size 5 1 (.slice A5 m c5) m xs) (hm:m<=300002) =>
    zlY w2.heap.size m A5 c5 xs A3 c3 l w' ho (Nat.le_trans hbs9 hb.size) (df.out.keep (fun _ h _=>h) fun q h _=>hb.block q h) (by omega))
   have uB:IntKind.i64.wrap ((j:Int)+1)=(j:Int)+1:=IntWalk.i64_in _ (by omega);have aC:=zh (fun(w':World) (A7:Option Addr) (c7 m:Nat) (hb:Below w2.heap.size w9 w') (hm:m=(E++((if uk=3 then bysE l.length 2 else [])++lsE l)).length) (ho:w'.ownsRow w2.heap.size 5 1 (.slice A7 m c7) m (zkP (E++((if uk=3 then bysE l.length 2 else [])++lsE l)))) =>
    (show ∃c',Value.slice A7 m c7=.slice A7 (enC (vs.take (j+1)) (s.cells.take (j+1))).length c'/\Hid (Below w2.heap.size w2 w')/\Hid (w'.ownsRow w2.heap.size 5 1 (.slice A7 (enC (vs.take (j+1)) (s.cells.take (j+1))).length c') (enC (vs.take (j+1)) (s.cells.take (j+1))).length (zkP (enC (vs.take (j+1)) (s.cells.take (j+1)))))from by
     rw[mV.out];subst hm;exact⟨c7,rfl,zh (aW.out.trans hb),zh ho⟩))
   clear z0 aH aF aQ xE hce hf;by_cases h3:uk=3
   ·subst h3;have HA1:=zh (zli w2.heap.size E.length A' c' (zkP E) (l.length:Int) 2 w9 lu.out hbs9 (by omega) (by omega) (by unfold I64;omega));obtain⟨z1,z2⟩:=eX.out w9 zr;clear x0;go_wp2_with fail;refine HA1.out.mono ?_;rintro e5 w5 ⟨A5,c5,rfl,dC,hb5⟩;rw[zkI]at dC ⊢;have ay:=zh hb5;have uz:=zh (gZ.out w5 hb5 (E.length+2) A5 c5 _ dC (by omega));obtain⟨z3,z4⟩:=eX.out w5 hb5;clear dC hb5 z1 z2 y1 aP;go_wp2_with fail;refine uz.out.mono ?_;rintro e6 w6 ⟨A7,c7,rfl,ig,dF⟩;obtain⟨c8,e8,bF,iw⟩:=aC.out w6 A7 c7 (E.length+2+(lsE l).length) (ay.out.trans dF) (by simp[zkI];omega) (by rw[if_pos (show True from trivial),zmp,zmp,<-List.append_assoc];exact ig);rw[e8];clear e8 ig dF z3 z4;go_wp2_with fail
    go_roundw
    case rel=>exact⟨j+1,A7,c8,by omega,by go_num,rfl,bF,iw⟩
    case measure=>simp[intOf];omega
   ·have e3:(uk==3)=false:=by simpa using h3
    have uz:=zh (gZ.out w9 zr E.length A' c' _ lu.out (by omega));obtain⟨z1,z2⟩:=eX.out w9 zr;clear x0;go_wp2_with fail;refine uz.out.mono ?_;rintro e6 w6 ⟨A7,c7,rfl,ig,dF⟩;obtain⟨c8,e8,bF,iw⟩:=aC.out w6 A7 c7 (E.length+(lsE l).length) dF (by simp[h3]) (by rw[if_neg h3,List.nil_append,zmp];exact ig);rw[e8];clear e8 ig dF z1 z2 y1 aP;go_wp2_with fail
    go_roundw
    case rel=>exact⟨j+1,A7,c8,by omega,by go_num,rfl,bF,iw⟩
    case measure=>simp[intOf];omega
  ·obtain rfl:j=n:=by omega
   have hj1:¬ (j:Int)<(j:Int):=by omega
   have hEE:enC vs s.cells=E:=by rw[<-HE.out,List.take_of_length_le (by rw[HN.out];exact zl),List.take_of_length_le (by rw[qE.out,HN.out];exact zl)]
   have HEE:=zh hEE;have hEL:E.length<=300000:=by have:=zY.out;omega
   obtain⟨-,x1,x2⟩:=zkn (zka aL.out af.out);clear hEE;have hti:=HTI.out;have hto:=HTO.out;have nz:=zh (show Below w.heap.size w wr from zkb HB2.out af.out);go_upto_region 11 with fail;have hSS:zW (fun w':World=>zv w' w.heap.size 1 (.slice B s.tin.length d)) zU wr.drew:=⟨x1,trivial⟩
   refine wp_region_noPanic ?_;refine zG hSS 100 ?_;refine zT 0 hSS ?_;refine zT 1 hSS ?_;refine zT 2 hSS ?_;refine zT 3 hSS ?_;refine zT 5 hSS ?_;refine zT 6 hSS ?_;have hbd:=(zs wr).drew;have had:Calls Tryz.prog 82 [.slice A' E.length c',.int .i64 (s.tin.length:Int),.int .i64 2].toArray wr.drew fun e w'=>∃u,e=.returned u/\((∃A5 c5,u=.slice A5 (E.length+2) c5/\w'.ownsRow w2.heap.size 5 1 (.slice A5 (E.length+2) c5) (E.length+2) (zkP (E++bysE s.tin.length 2)))/\Below w2.heap.size wr w') :=
    (zli w2.heap.size E.length A' c' (zkP E) (s.tin.length:Int) 2 wr.drew (zky HRW.out hbd) (Nat.le_trans af.out.size zl) (by omega) (by omega) (by unfold I64;omega)).mono fun e w' ⟨A5,c5,h1,h2,h3⟩=>⟨_,h1,⟨A5,c5,by rw[zkI],by rw[zkI]at h2;rw[zmp];exact h2⟩,(hbd.mono af.out.size).trans h3⟩
   refine zo 4 fun K hK=>?_;refine zke (by rfl) (.func 82) [.tmp 39,.tmp 42,.const (.int .i64 2)] _ (by rfl) 82 _ zoL (by rfl) _ (by rfl) _ had ?_;rintro v5 w5 ⟨⟨A5,c5,rfl,dC⟩,hb5⟩;have hS5:(fun w':World=>zv w' w.heap.size 1 (.slice B s.tin.length d)) w5:=zkr x1 (hb5.block _ (zki aL.out));refine hK.out _ _ ⟨hS5,trivial⟩ ?_;clear hK K had hSS hbd;(try simp only[zQ]);have had:Calls Tryz.prog 83 [.slice A5 (E.length+2) c5,(.slice B s.tin.length d)].toArray w5 fun e w'=>∃u,e=.returned u/\((∃A7 c7,u=.slice A7 (E++cnE s.tin).length c7/\w'.ownsRow w2.heap.size 5 1 (.slice A7 (E++cnE s.tin).length c7) (E++cnE s.tin).length (zkP (E++cnE s.tin)))/\Below w2.heap.size wr w') :=
    (zlY w2.heap.size (E.length+2) A5 c5 _ _ _ s.tin w5 dC (Nat.le_trans af.out.size hb5.size) (HR2.out.keep (fun q h _=>Nat.lt_of_lt_of_le h HB2.out.size) fun q h _=>(nz.out.trans (hb5.mono HB2.out.size)).block q h) (by omega)).mono fun e w' ⟨A7,c7,h1,h2,h3⟩=>by
     have e9:E.length+2+(lsE s.tin).length=(E++cnE s.tin).length:=by simp[cnE,zkI];omega
     rw[e9]at h1 h2;exact⟨_,h1,⟨A7,c7,rfl,by rw[show zkP (E++bysE s.tin.length 2)++zkP (lsE s.tin)=zkP (E++cnE s.tin) by simp[zkP,cnE]]at h2;exact h2⟩,hb5.trans h3⟩
   refine zo 7 fun K hK=>?_;refine zke (by rfl) (.func 83) [.tmp 43,.tmp 45] _ (by rfl) 83 _ zpO (by rfl) _ (by rfl) _ had ?_;rintro v7 wx ⟨⟨A7,c7,rfl,ig⟩,dF⟩;have sD:(fun w':World=>zv w' w.heap.size 1 (.slice B s.tin.length d)) wx:=zkr x1 (dF.block _ (zki aL.out));refine hK.out _ _ ⟨sD,trivial⟩ ?_;clear hK K had hS5 dC hb5;(try simp only[zQ]);refine zkp (i:=8) (v:=?_) rfl (by kernel_rfl) (by kernel_rfl) (by kernel_rfl) (by decide) (fun _ _ _ h=>h) (Or.inl ⟨by rfl,?_⟩) ⟨sD,trivial⟩ ?_;rotate_left 1
   ·(intro w hSw;(try dsimp only at hSw);(try simp only[zA,zB,zC]);go_simp;(try with_reducible rfl))
   (try simp only[zQ]);refine zd ?_;refine NoPanic.normal ?_;clear sD;have aO:=zh dF;obtain⟨F,hF⟩:=zX (E++cnE s.tin);have hFL:F.length<=340000:=by rw[<-hF];simp[cnE,zkI,zpa];omega
   have hF2:E.length+(cnE s.tin).length=F.length:=by rw[<-hF];simp
   rw[hF]at ig ⊢;have HOX:=zh ig;have HF:=zh hF;have HJ1:=zh (show Below w.heap.size w wx from nz.out.trans (dF.mono HB2.out.size));have HJ2:=zh (show w2.heap.size<=wx.heap.size from Nat.le_trans af.out.size dF.size)
   replace x2:wx.cell? ⟨w.heap.size,2,none⟩=some (.slice D s.tout.length e):=zkr x2 (dF.block _ (zki aL.out))
   clear ig dF hF x1;obtain⟨A6,hA6⟩:=zX (A7);obtain⟨c6,hc6⟩:=zX (c7);rw[hA6,hc6]at HOX ⊢;clear hA6 hc6;go_upto_region 12 with fail;have hSS:zW (fun w':World=>zv w' w.heap.size 2 (.slice D s.tout.length e)) zU wx.drew:=⟨x2,trivial⟩
   refine wp_region_noPanic ?_;refine zG hSS 100 ?_;refine zT 0 hSS ?_;refine zT 1 hSS ?_;refine zT 2 hSS ?_;refine zT 3 hSS ?_;refine zT 5 hSS ?_;refine zT 6 hSS ?_;have hbd:=(zs wx).drew;have had:Calls Tryz.prog 82 [.slice A6 F.length c6,.int .i64 (s.tout.length:Int),.int .i64 2].toArray wx.drew fun e w'=>∃u,e=.returned u/\((∃A5 c5,u=.slice A5 (F.length+2) c5/\w'.ownsRow w2.heap.size 5 1 (.slice A5 (F.length+2) c5) (F.length+2) (zkP (F++bysE s.tout.length 2)))/\Below w2.heap.size wx w') :=
    (zli w2.heap.size F.length A6 c6 (zkP F) (s.tout.length:Int) 2 wx.drew (zky HOX.out hbd) (Nat.le_trans HJ2.out zl) (by omega) (by omega) (by unfold I64;omega)).mono fun e w' ⟨A5,c5,h1,h2,h3⟩=>⟨_,h1,⟨A5,c5,by rw[zkI],by rw[zkI]at h2;rw[zmp];exact h2⟩,(hbd.mono HJ2.out).trans h3⟩
   refine zo 4 fun K hK=>?_;refine zke (by rfl) (.func 82) [.tmp 47,.tmp 50,.const (.int .i64 2)] _ (by rfl) 82 _ zoL (by rfl) _ (by rfl) _ had ?_;rintro v5 w5 ⟨⟨A5,c5,rfl,dC⟩,hb5⟩;have hS5:(fun w':World=>zv w' w.heap.size 2 (.slice D s.tout.length e)) w5:=zkr x2 (hb5.block _ (zki aL.out));refine hK.out _ _ ⟨hS5,trivial⟩ ?_;clear hK K had hSS hbd;(try simp only[zQ]);have had:Calls Tryz.prog 83 [.slice A5 (F.length+2) c5,(.slice D s.tout.length e)].toArray w5 fun e w'=>∃u,e=.returned u/\((∃A7 c7,u=.slice A7 (F++cnE s.tout).length c7/\w'.ownsRow w2.heap.size 5 1 (.slice A7 (F++cnE s.tout).length c7) (F++cnE s.tout).length (zkP (F++cnE s.tout)))/\Below w2.heap.size wx w') :=
    (zlY w2.heap.size (F.length+2) A5 c5 _ _ _ s.tout w5 dC (Nat.le_trans HJ2.out hb5.size) (HR3.out.keep (fun q h _=>Nat.lt_of_lt_of_le h HB2.out.size) fun q h _=>(HJ1.out.trans (hb5.mono HB2.out.size)).block q h) (by omega)).mono fun e w' ⟨A7,c7,h1,h2,h3⟩=>by
     have e9:F.length+2+(lsE s.tout).length=(F++cnE s.tout).length:=by simp[cnE,zkI];omega
     rw[e9]at h1 h2;exact⟨_,h1,⟨A7,c7,rfl,by rw[show zkP (F++bysE s.tout.length 2)++zkP (lsE s.tout)=zkP (F++cnE s.tout) by simp[zkP,cnE]]at h2;exact h2⟩,hb5.trans h3⟩
   refine zo 7 fun K hK=>?_;refine zke (by rfl) (.func 83) [.tmp 51,.tmp 53] _ (by rfl) 83 _ zpO (by rfl) _ (by rfl) _ had ?_;rintro v7 wy ⟨⟨A7,c7,rfl,ig⟩,dF⟩;have sD:(fun w':World=>zv w' w.heap.size 2 (.slice D s.tout.length e)) wy:=zkr x2 (dF.block _ (zki aL.out));refine hK.out _ _ ⟨sD,trivial⟩ ?_;clear hK K had hS5 dC hb5;(try simp only[zQ]);refine zkp (i:=8) (v:=?_) rfl (by kernel_rfl) (by kernel_rfl) (by kernel_rfl) (by decide) (fun _ _ _ h=>h) (Or.inl ⟨by rfl,?_⟩) ⟨sD,trivial⟩ ?_;rotate_left 1
   ·(intro w hSw;(try dsimp only at hSw);(try simp only[zA,zB,zC]);go_simp;(try with_reducible rfl))
   (try simp only[zQ]);refine zd ?_;refine NoPanic.normal ?_;clear sD;have Bc:=zh (show Below w.heap.size w wy from HJ1.out.trans (dF.mono HB2.out.size));have hfin:F++cnE s.tout=encS vs s:=by rw[<-HF.out,<-HEE.out];unfold encS;rw[List.append_assoc]
   have hfl:F.length+(cnE s.tout).length=(encS vs s).length:=by rw[<-hfin];simp
   rw[hfin]at ig;have HOY:=zh (zk6 ig HB2.out.size);have uY:=zh hfl;clear ig dF hfin hfl x2;go_wp2_with fail;go_ret2;refine⟨Bc.out,.inr ⟨dM.out,A7,c7,by rw[<-uY.out];rfl,HOY.out⟩⟩
def zxv{α:Type}(Y:Nat->α->Value->Value->World->Prop)(n:Nat)(P:Program)(gf:FuncId)(lb:Array Value)(xs:List α)(R:Nat->Prop)(W:World):Prop :=
 ∀(l:Nat) (J Jx:List α->(Nat->Prop)->World->Prop) (C:Nat->Prop) (W1:World),l<W1.heap.size->(∀b,C b->¬ R b)->Chg C W W1 ->
  (∀pre C W W',J pre C W->Chg (fun b=>¬ C b) W W'->J pre C W')->(∀pre C W,J pre C W->∀b,C b->b<W.heap.size) ->
  (∀pre x C W pv v,J pre C W->(pre++[x]) <+: xs->Y l x pv v W ->
   YieldAt (Fw none) (n-1) P l #[pv,v] W fun e W' =>
    (e=.returned (.bool true)/\∃C',J (pre++[x]) C' W'/\(∀b,C' b->C b\/W.heap.size<=b)/\Chg C W W') \/
    (e=.returned (.bool false)/\∃C',Jx (pre++[x]) C' W'/\Chg C W W')) ->
  J [] C W1 ->
  CallsIn (Fw none) n P gf (#[.func (.yield l) #[] #[]]++lb) W1 fun e W'=>(∃v,e=.returned v)/\((∃C',J xs C' W'/\Chg C W1 W')\/(∃pre C',Jx pre C' W'/\Chg C W1 W'))
attribute [local go_sem] Oper.semAt_some
def vdV(u:VD):Value:=.agg #[.string u.s,.int .u8 u.k,.int .i64 u.n]
def YV(vs:List VD)(S:Nat->Prop)(W0:World)(_:Nat)(x:Nat)(pv v:Value)(W:World):Prop:=pv=.int .i64 x/\(∃h:x<vs.length,v=vdV vs[x])/\∀b,S b->b<W0.heap.size->W.heap[b]?=W0.heap[b]?
theorem zp7(n bb:Nat)(hn:1<=n)(l:List VD)(A:Option Addr)(c:Nat)(S:Nat->Prop)(W:World)(hbb:W.heap[bb]?=some (.cells #[.slice A l.length c] 25 (0,0)))(hr:RowV W S A l)(hl:l.length<=4398046511103) :
  zxv (YV l S W) n Tryz.prog 115 #[.pointer (some ⟨bb,0,none⟩)] ((List.range l.length).reverse) (fun b=>b=bb\/(S b/\b<W.heap.size)) W:=by
 intro lp J Jx C W1 hl0 mO hch hJ pz hY h0;have dA:=zh hbb;have HR:=zh hr;have dV:=zh hl;have AZ:=zh mO;have bH:=zh hch;have HJ:=zh hJ;have HY:=zh hY;have H0:=zh h0;have hb1:=hch.keep hbb fun h=>mO _ h (.inl rfl);have y0:W1.cell? ⟨bb,0,none⟩=some (.slice A l.length c):=zc hb1 rfl;have hw0:IntKind.i64.wrap ((l.length:Int)-1)=(l.length:Int)-1:=IntWalk.i64_in _ (by omega);clear hbb hr hl mO hch hJ pz hY h0 hb1;refine callsIn_of_wp Tryz.func115 rfl trivial ?_ rfl;simp only[Tryz.ntmps115,List.size_toArray,List.length_cons,List.length_nil,Nat.reduceAdd,Nat.reduceSub,Array.replicate_succ,Array.replicate_zero,List.push_toArray,List.append_toArray,List.nil_append,List.cons_append]
 gi_wp2
 gi_loopw [3] (fun i wr=>∃k:Nat,k<=l.length/\i=.int .i64 ((k:Int)-1)/\∃C',Hid (J ((List.range l.length).reverse.take (l.length-k)) C' wr/\Chg C W1 wr/\∀b,C' b->C b\/W1.heap.size<=b)) (fun i _=>(intOf i+1).toNat)
 case atStart=>exact⟨l.length,zl,rfl,C,zh ⟨by rw[Nat.sub_self];exact H0.out,Chg.refl _ _,fun b h=>.inl h⟩⟩
 case round =>
  obtain⟨k,hk,rfl,C',HK⟩:=hrel;rcases k with _|j
  ·have h1:¬ (0:Int)<=((0:Nat):Int)-1:=by decide
   have HX:=zh HK.out.1
   gi_wp2
   go_end0;exact⟨⟨_,rfl⟩,.inl ⟨⟨C',by have:=HX.out;rwa[Nat.sub_zero,List.take_of_length_le (by simp)]at this⟩,HK.out.2.1⟩⟩
  ·have hj1:(((j+1:Nat):Int)-1)=(j:Int):=by omega
   rw[hj1];have hj0:(0:Int)<=(j:Int):=by omega
   have hjl:j<l.length:=by omega
   have hjl2:(j:Int)<(l.length:Int):=by omega
   have uB:IntKind.i64.wrap ((j:Int)-1)=(j:Int)-1:=IntWalk.i64_in _ (by have:=dV.out;omega);have bu:Chg C W wr:=bH.out.trans2 HK.out.2.1 fun _ _ h=>h;have hbw:=bu.keep dA.out fun h=>AZ.out _ h (.inl rfl);have y0:wr.cell? ⟨bb,0,none⟩=some (.slice A l.length c):=zc hbw rfl;obtain⟨a,rfl,-,⟨m0,m1,m2⟩,-⟩:=(HR.out.keep (S':=Any) (fun _ _ _=>trivial) fun b hb hlt=>bu.block b hlt fun h=>AZ.out _ h (.inr ⟨hb,hlt⟩)) j hjl;have htk:(List.range l.length).reverse.take (l.length-(j+1))++[j]=(List.range l.length).reverse.take (l.length-j):=by
    rw[show l.length-j=l.length-(j+1)+1 by omega,List.take_succ_eq_append_getElem (by simp;omega),List.getElem_reverse];simp;omega
   obtain⟨x,hx⟩:=zX (l[j]);rw[hx]at m0 m1 m2;have mV:=zh htk;obtain⟨fn,tmps,assign,body,hy,sF⟩:=HY.out ((List.range l.length).reverse.take (l.length-(j+1))) j C' wr (.int .i64 j) (vdV x) HK.out.1 (by rw[htk];exact List.take_prefix _ _) ⟨rfl,⟨hjl,by rw[hx]⟩,fun b hb hlt=>bu.block b hlt fun h=>AZ.out _ h (.inr ⟨hb,hlt⟩)⟩;have lW:=zh sF;unfold vdV at hy;clear bu hbw htk sF hx
   gi_wp2
   refine lW.out.mono ?_;rintro e W3 (⟨rfl,C3,nQ,hc3,dE⟩|⟨rfl,C3,nQ,dE⟩)
   ·have xY:=zh (show J ((List.range l.length).reverse.take (l.length-j)) C3 W3/\Chg C W1 W3/\∀b,C3 b->C b\/W1.heap.size<=b from⟨by rw[<-mV.out];exact nQ,HK.out.2.1.trans2 dE fun b hb h=>(HK.out.2.2 b h).elim id fun h=>by omega,fun b h=>by
     rcases hc3 b h with h|h
     ·exact HK.out.2.2 b h
     ·exact .inr (by have:=HK.out.2.1.size;omega)⟩)
    clear nQ hc3 dE hy
    gi_wp2
    exact⟨⟨j,by omega,by go_num,C3,xY⟩,by simp[intOf]⟩
   ·have xY:=zh (show Jx ((List.range l.length).reverse.take (l.length-(j+1))++[j]) C3 W3/\Chg C W1 W3 from⟨nQ,HK.out.2.1.trans2 dE fun b hb h=>(HK.out.2.2 b h).elim id fun h=>by omega⟩);clear nQ dE hy
    gi_wp2
    refine bodyPost_ret (results_none rfl _ _ _) rfl ?_;exact⟨⟨_,rfl⟩,.inr ⟨_,C3,xY.out.1,xY.out.2⟩⟩
end
section
open Go Go.RowKit
def zwb{α:Type}(k:Nat)(I Ix:List α->(Nat->Prop)->World->Prop)(pre:List α)(C:Nat->Prop)(W:World):Exit->Act->World->Prop
 | .normal,_,W'=>∃C',I pre C' W'/\(∀b,C' b->C b\/W.heap.size<=b)/\Chg C W W'
 | .exit j,_,W'=>j=k/\∃C',Ix pre C' W'/\(∀b,C' b->C b\/W.heap.size<=b)/\Chg C W W'
 | _,_,_=>False
theorem zrF{α:Type}{k:Nat}{Y:Nat->α->Value->Value->World->Prop}{n:Nat}{P:Program}{g:Operand}{ps:Array Tmp}{assign body:Code}{Q:Exit->Act->World->Prop}{a:Act}{w:World}{gf:FuncId}{lb:Array Value}{xs:List α}{R:Nat->Prop}
  (hg:a.eval g=.func (.func gf) #[] lb)(eg:∀args w,(callFunc gf args).run P w=.ok (.enter gf args) w)(hseq:zxv Y (n-1) P gf lb xs R w)(hps:ps.size=2)
  (I Ix:List α->(Nat->Prop)->World->Prop)(C0:Nat->Prop)(hI:∀pre C W W',I pre C W->Chg (fun b=>¬ C b) W W'->I pre C W')(hIx:∀pre C W W',Ix pre C W->Chg (fun b=>¬ C b) W W'->Ix pre C W')
  (hIlt:∀pre C W,I pre C W->∀b,C b->b<W.heap.size)(hIxlt:∀pre C W,Ix pre C W->∀b,C b->b<W.heap.size)(hC:∀b,C0 b->¬ R b)(hRlt:∀b,R b->b<w.heap.size)(h0:I [] C0 w)
  (eG:∀l pre x C W pv v,I pre C W->¬ C l->w.heap.size<=l->l<W.heap.size->(pre++[x]) <+: xs->Y l x pv v W ->
   assign.wpIn (Fw (some l)) (n-1-1) P (Exit.then (fun a1 W1=>Chg C W W1/\∀W2,Chg (· = l) W1 W2->body.wpIn (Fw (some l)) (n-1-1) P (zwb k I Ix (pre++[x]) C W2) a1 W2) (fun _ _ _=>False))
    { tmps:=(ps.zip #[pv,v]).foldl (fun t (p,v)=>t.setIfInBounds p v) a.tmps,defers:=[] } W)
  (hdone:∀D C W',w.heap.size<=D->I xs C W'->Chg C0 w W'->W'.heap[D]?=some (.deferred (some []))->Q .normal { a with defers:={ target:=.collected D,args := #[] }::a.defers } W')
  (hstop:∀D pre C W',w.heap.size<=D->Ix pre C W'->Chg C0 w W'->W'.heap[D]?=some (.deferred (some []))->(Code.exit k).wpIn (Fw none) n P Q { a with defers:={ target:=.collected D,args := #[] }::a.defers } W') :
  (Code.rangeFunc g ps assign body).wpIn (Fw none) n P Q a w:=by
 refine wpIn_rangeFunc ?_;intro fn hfn;obtain⟨rec,hrec⟩:∃rec:LoopState->Option Code->Loop,rec=fun st pe=>{ state:=st,pending:=pe,fn,tmps:=a.tmps,params:=ps,assign,body,defers:=w.heap.size }:=⟨_,rfl⟩
 obtain⟨W1,hW1⟩:=zX ((w.alloc (.deferred (some []))).alloc (.loop (rec .ready none)));have hL1:W1.heap[w.heap.size+1]?=some (.loop (rec .ready none)):=by
  rw[<-hW1];have:=World.alloc_heap_new (w.alloc (.deferred (some []))) (.loop (rec .ready none));rwa[World.size_alloc]at this
 have hK1:W1.heap[w.heap.size]?=some (.deferred (some [])):=by
  rw[<-hW1];exact(Below.heap_alloc _ _ _ (by simp)).trans (World.alloc_heap_new w _)
 have hb1:Below w.heap.size w W1:=by rw[<-hW1];exact((Below.refl _ w).alloc zl _).alloc (by simp) _
 have hI1:I [] C0 W1:=hI _ _ _ _ h0 (Chg.of_below hb1);have iT:∀b,C0 b->b<w.heap.size:=hIlt _ _ _ h0;refine⟨w.heap.size+1,[{ target:=.collected w.heap.size,args := #[] }],W1,{ target:=.fn (.func gf) lb,args := #[.func (.yield (w.heap.size+1)) #[] #[]] },W1,gf,
  #[.func (.yield (w.heap.size+1)) #[] #[]]++lb,W1,?_,?_,(fun _ _=>trivial),?_,(fun e=>by cases e),?_⟩
 ·rw[<-hW1,hrec];exact run_enterLoop_outer _ _ _ _ _
 ·simp only[resolve,hg];simp[go_sem]
 ·simp[invoke,go_sem,eg]
 ·refine(hseq (w.heap.size+1)
   (fun pre C' W=>∃C,(∀b,C' b↔C b\/b=w.heap.size+1\/b=w.heap.size)/\I pre C W/\¬ C (w.heap.size+1)/\¬ C w.heap.size/\(∀b,C b->b<w.heap.size->C0 b)/\W.heap[w.heap.size+1]?=some (.loop (rec .ready none))/\W.heap[w.heap.size]?=some (.deferred (some [])))
   (fun pre C' W=>∃C,Ix pre C W/\¬ C (w.heap.size+1)/\W.heap[w.heap.size+1]?=some (.loop (rec .done (some (.exit k))))/\W.heap[w.heap.size]?=some (.deferred (some [])))
   (fun b=>C0 b\/b=w.heap.size+1\/b=w.heap.size) W1 (Array.getElem?_eq_some_iff.1 hL1).1 ?_ (Chg.of_below hb1) ?_ ?_ ?_ ⟨C0,fun _=>Iff.rfl,hI1,(fun h=>by have:=iT _ h;omega),(fun h=>by have:=iT _ h;omega),(fun _ h _=>h),hL1,hK1⟩).mono ?_
  ·intro b hb hr;have:=hRlt b hr;rcases hb with hb|hb|hb
   ·exact hC b hb hr
   ·omega
   ·omega
  ·rintro pre C' W W' ⟨C,hC',hi,h1,h2,h3,hl,hk⟩ hch;refine⟨C,hC',hI _ _ _ _ hi (hch.mono fun b _ hb hc=>hb ((hC' b).2 (.inl hc))),h1,h2,h3,hch.keep hl (fun h=>h ((hC' _).2 (.inr (.inl rfl)))),hch.keep hk (fun h=>h ((hC' _).2 (.inr (.inr rfl))))⟩
  ·rintro pre C' W ⟨C,hC',hi,h1,h2,h3,hl,hk⟩ b hb;rcases(hC' b).1 hb with hb|rfl|rfl
   ·exact hIlt _ _ _ hi b hb
   ·exact(Array.getElem?_eq_some_iff.1 hl).1
   ·exact(Array.getElem?_eq_some_iff.1 hk).1
  ·rintro pre x C' W pv v ⟨C,hC',hi,h1,h2,h3,hl,hk⟩ hpre hpv;have hlt:w.heap.size+1<W.heap.size:=(Array.getElem?_eq_some_iff.1 hl).1;have hy:=run_yield (P:=P) (args := #[pv,v]) hl (by rw[hrec];exact hps.symm);rw[hrec]at hy;refine⟨fn,_,assign,body,hy,roundIn_of_wpIn hfn (wpIn_mono (eG (w.heap.size+1) pre x C W pv v hi h1 (by omega) hlt hpre hpv) ?_)⟩;rintro e a1 Wa kU
   cases e with
   | normal =>
    obtain⟨il,hbody⟩:=kU;have hl1:=il.keep hl h1;have hk1:=il.keep hk h2;have hlt1:w.heap.size+1<Wa.heap.size:=(Array.getElem?_eq_some_iff.1 hl1).1;refine⟨_,run_beginRound hl1 (by rw[hrec]),?_⟩;have hl2:(Wa.putObj (w.heap.size+1) (.loop { rec .ready none with state:=.busy })).heap[w.heap.size+1]?=some (.loop { rec .ready none with state:=.busy }):=World.putObj_heap_same hlt1;have hk2:(Wa.putObj (w.heap.size+1) (.loop { rec .ready none with state:=.busy })).heap[w.heap.size]?=some (.deferred (some [])):=(World.putObj_heap_other (by omega)).trans hk1;have hc2:Chg (fun b=>C b\/b=w.heap.size+1) W (Wa.putObj (w.heap.size+1) (.loop { rec .ready none with state:=.busy })) :=
     (il.mono fun _ _ h=>.inl h).trans2 (Chg.putObj Wa (w.heap.size+1) _) (fun b _ h=>.inr h)
    refine wpIn_mono (hbody _ (Chg.putObj _ _ _)) ?_;have fin:∀(jump:Option Code) (W3:World),Chg C (Wa.putObj (w.heap.size+1) (.loop { rec .ready none with state:=.busy })) W3 ->
      (Instr.endRound (w.heap.size+1) jump).run P W3=.ok (.bool jump.isNone) (W3.putObj (w.heap.size+1) (.loop (rec (if jump.isNone then .ready else .done) jump))) /\
      (W3.putObj (w.heap.size+1) (.loop (rec (if jump.isNone then .ready else .done) jump))).heap[w.heap.size+1]?=some (.loop (rec (if jump.isNone then .ready else .done) jump)) /\
      (W3.putObj (w.heap.size+1) (.loop (rec (if jump.isNone then .ready else .done) jump))).heap[w.heap.size]?=some (.deferred (some [])) /\
      Chg C' W (W3.putObj (w.heap.size+1) (.loop (rec (if jump.isNone then .ready else .done) jump))):=fun jump W3 hk3=>by
     have hl3:=hk3.keep hl2 h1;have:=run_endRound (P:=P) jump hl3;rw[hrec]at this ⊢;refine⟨this,World.putObj_heap_same (Array.getElem?_eq_some_iff.1 hl3).1,(World.putObj_heap_other (by omega)).trans (hk3.keep hk2 h2),?_⟩;have hA:Chg (fun b=>C b\/b=w.heap.size+1) W W3:=by
      have:=hc2;rw[hrec]at this hk3;exact this.trans2 hk3 (fun b _ h=>.inl h)
     exact(hA.trans2 (Chg.putObj W3 (w.heap.size+1) _) (fun b _ h=>.inr h)).mono fun b _ hb=>(hC' b).2 (by rcases hb with hb|hb;exact .inl hb;exact .inr (.inl hb))
    rintro e3 a3 W3 hp;have hsz:W.heap.size<=(Wa.putObj (w.heap.size+1) (.loop { rec .ready none with state:=.busy })).heap.size:=hc2.size
    cases e3 with
    | normal =>
     obtain⟨C3,hi3,jT,dE⟩:=hp;have dw:∀b,C3 b->C b\/W.heap.size<=b:=fun b h=>(jT b h).imp id fun h'=>Nat.le_trans hsz h';obtain⟨hr,hl4,hk4,dD⟩:=fin none W3 dE;have bR:¬ C3 (w.heap.size+1):=fun h=>by rcases dw _ h with h|h;exact h1 h;omega
     have fG:¬ C3 w.heap.size:=fun h=>by rcases dw _ h with h|h;exact h2 h;omega
     refine⟨_,_,hr,.inl ⟨rfl,fun b=>C3 b\/b=w.heap.size+1\/b=w.heap.size,⟨C3,fun _=>Iff.rfl,hI _ _ _ _ hi3 ((Chg.putObj _ _ _).mono fun b _ hb hc=>bR (hb▸hc)),bR,fG,?_,hl4,hk4⟩,?_,dD⟩⟩
     ·intro b hb hlt';rcases dw b hb with hb|hb
      ·exact h3 b hb hlt'
      ·omega
     ·intro b hb;rcases hb with hb|hb
      ·rcases dw b hb with hb|hb
       ·exact .inl ((hC' b).2 (.inl hb))
       ·exact .inr (by omega)
      ·exact .inl ((hC' b).2 (.inr hb))
    | exit jd =>
     obtain⟨rfl,C3,hi3,jT,dE⟩:=hp;have dw:∀b,C3 b->C b\/W.heap.size<=b:=fun b h=>(jT b h).imp id fun h'=>Nat.le_trans hsz h';obtain⟨hr,hl4,hk4,dD⟩:=fin (some (.exit jd)) W3 dE;have bR:¬ C3 (w.heap.size+1):=fun h=>by rcases dw _ h with h|h;exact h1 h;omega
     exact⟨_,_,hr,.inr ⟨rfl,fun _=>True,⟨C3,hIx _ _ _ _ hi3 ((Chg.putObj _ _ _).mono fun b _ hb hc=>bR (hb▸hc)),bR,hl4,hk4⟩,dD⟩⟩
    | ret=>exact hp.elim
    | goto t=>exact hp.elim
    | panic ch=>exact hp.elim
    | outgrown=>exact hp.elim
   | exit id=>exact kU.elim
   | goto t=>exact kU.elim
   | ret=>exact kU.elim
   | panic ch=>exact kU.elim
   | outgrown=>exact kU.elim
  ·rintro e W2 ⟨⟨v,rfl⟩,(⟨C',⟨C,hC',hi,h1,h2,h3,hl,hk⟩,hch⟩|⟨pre,C',⟨C,hi,h1,hl,hk⟩,hch⟩)⟩
   all_goals
    have hw2:Chg C0 w W2:=((Chg.of_below hb1).trans2 hch fun b hb hc=>by rcases hc with hc|hc|hc;exact hc;omega;omega)
    have hfin:∀o,Chg C0 w (W2.putObj (w.heap.size+1) o):=fun o=>hw2.trans2 (Chg.putObj W2 (w.heap.size+1) o) fun b hb hc=>by omega
   ·exact⟨none,_,by have:=run_endLoop (P:=P) hl (by rw[hrec];simp);rw[hrec]at this;exact this,hdone _ C _ zl (hI _ _ _ _ hi ((Chg.putObj W2 (w.heap.size+1) _).mono fun b _ (hb:b=w.heap.size+1) hc=>h1 (hb▸hc))) (hfin _) ((World.putObj_heap_other (by omega)).trans hk)⟩
   ·exact⟨some (.exit k),_,by have:=run_endLoop (P:=P) hl (by rw[hrec];simp);rw[hrec]at this;exact this,hstop _ pre C _ zl (hIx _ _ _ _ hi ((Chg.putObj W2 (w.heap.size+1) _).mono fun b _ (hb:b=w.heap.size+1) hc=>h1 (hb▸hc))) (hfin _) ((World.putObj_heap_other (by omega)).trans hk)⟩
theorem zrG{α:Type}{k:Nat}{Y:Nat->α->Value->Value->World->Prop}{n:Nat}{P:Program}{g:Operand}{ps:Array Tmp}{assign body:Code}{Q:Exit->Act->World->Prop}{a:Act}{w:World}{gf:FuncId}{lb:Array Value}{xs:List α}{R:Nat->Prop}
  (hg:a.eval g=.func (.func gf) #[] lb)(eg:∀args w,(callFunc gf args).run P w=.ok (.enter gf args) w)(hseq:zxv Y (n-1) P gf lb xs R w)(hps:ps.size=2)
  (I Ix:List α->(Nat->Prop)->World->Prop)(C0:Nat->Prop)(hI:∀pre C W W',I pre C W->Chg (fun b=>¬ C b) W W'->I pre C W')(hIx:∀pre C W W',Ix pre C W->Chg (fun b=>¬ C b) W W'->Ix pre C W')
  (hIlt:∀pre C W,I pre C W->∀b,C b->b<W.heap.size)(hIxlt:∀pre C W,Ix pre C W->∀b,C b->b<W.heap.size)(hC:∀b,C0 b->¬ R b)(hRlt:∀b,R b->b<w.heap.size)(h0:I [] C0 w)
  (eG:∀l pre x C W pv v,I pre C W->¬ C l->w.heap.size<=l->l<W.heap.size->(pre++[x]) <+: xs->Y l x pv v W ->
   assign.wpIn (Fw (some l)) (n-1-1) P (Exit.then (fun a1 W1=>Chg C W W1/\∀W2,Chg (· = l) W1 W2->body.wpIn (Fw (some l)) (n-1-1) P (zwb k I Ix (pre++[x]) C W2) a1 W2) (fun _ _ _=>False))
    { tmps:=(ps.zip #[pv,v]).foldl (fun t (p,v)=>t.setIfInBounds p v) a.tmps,defers:=[] } W)
  (hQ:∀a w,Q .normal a w->Q (.exit k) a w)
  (hend:∀D pre C W',w.heap.size<=D->(pre=xs/\I pre C W'\/Ix pre C W')->Chg C0 w W'->W'.heap[D]?=some (.deferred (some []))->Q .normal { a with defers:={ target:=.collected D,args := #[] }::a.defers } W') :
  (Code.rangeFunc g ps assign body).wpIn (Fw none) n P Q a w :=
 zrF hg eg hseq hps I Ix C0 hI hIx hIlt hIxlt hC hRlt h0 eG (fun D C W' h1 h2 h3 h4=>hend D xs C W' h1 (.inl ⟨rfl,h2⟩) h3 h4)
  (fun D pre C W' h1 h2 h3 h4=>wpIn_exit (hQ _ _ (hend D pre C W' h1 (.inr h2) h3 h4)))
def unrk(r:Int):Int:=if r<0 then 0 else if r.tmod 2=1 then r.tdiv 2+1 else -(r.tdiv 2)
abbrev Bn:=Nat×Nat
def wlo(bs:List Bn):Nat:=(bs.map (·.1)).sum
def whi(h:Int)(bs:List Bn):Int:=(bs.map fun b=>(b.2:Int)*h).sum
def ranE(lo hi:Int):List Int:=(List.range (hi-lo+1).toNat).map fun(m:Nat)=>lo+(m:Int)
def hdC(x:Int):List (List Int)->List (List Int)
 | []=>[]
 | l::ls=>(x::l)::ls
def numE(h:Int)(bs:List Bn)(rec:Int->List (List (List Int))):Nat->Int->List (List (List Int))
 | 0,left=>(rec left).map ([] :: ·)
 | k+1,left=>(ranE (max 0 (left-1-k*h-whi h bs)) (min (h-1) (left-1-k-wlo bs))).flatMap fun r=>(numE h bs rec k (left-1-r)).map (hdC (unrk r))
def zkW(h:Int):List Bn->Int->List (List (List Int))
 | [],_=>[[]]
 | (lo,hi)::bs,left=>(ranE (max lo ((left-whi h bs+h-1).tdiv h)) (min hi (left-wlo bs))).flatMap fun m=>numE h bs (zkW h bs) m.toNat left
def allB(h:Int)(bs:List Bn):List (List (List Int)):=(ranE (wlo bs) (whi h bs)).flatMap (zkW h bs)
def FitB(v:Int):List Bn->List (List Int)->Prop
 | [],[]=>True
 | (lo,hi)::bs,x::xs=>lo<=x.length/\x.length<=hi/\(∀e∈x,-v<=e/\e<=v)/\FitB v bs xs
 | _,_=>False
theorem zmY{lo hi x:Int}(h:x∈ranE lo hi):lo<=x/\x<=hi:=by
 obtain⟨m,hm,rfl⟩:=List.mem_map.1 h;have:=List.mem_range.1 hm;omega
theorem zsk{v r:Int}(h0:0<=r)(h1:r<=2*v) : -v<=unrk r/\unrk r<=v:=by
 unfold unrk;rw[Int.tmod_eq_emod_of_nonneg h0,Int.tdiv_eq_ediv_of_nonneg h0];rw[if_neg (by omega)]
 split<;>omega
theorem zq4{v h:Int}(hh:h=2*v+1){bs:List Bn}{rec:Int->List (List (List Int))}(hr:∀left,∀x∈rec left,FitB v bs x) :
  ∀(k:Nat) (left:Int),∀x∈numE h bs rec k left,∃l ls,x=l::ls/\l.length=k/\(∀e∈l,-v<=e/\e<=v)/\FitB v bs ls
 | 0,left,x,hx=>by
  obtain⟨y,hy,rfl⟩:=List.mem_map.1 hx;exact⟨[],y,rfl,rfl,by simp,hr _ _ hy⟩
 | k+1,left,x,hx=>by
  rw[numE]at hx;obtain⟨r,hr1,hx⟩:=List.mem_flatMap.1 hx;obtain⟨y,hy,rfl⟩:=List.mem_map.1 hx;obtain⟨l,ls,rfl,h1,h2,h3⟩:=zq4 hh hr k _ y hy;have h4:=zmY hr1;refine⟨unrk r::l,ls,rfl,by simp[h1],fun e he=>?_,h3⟩;rcases List.mem_cons.1 he with rfl|he
  ·exact zsk (by omega) (by omega)
  ·exact h2 e he
theorem zpU{v h:Int}(hh:h=2*v+1):∀(bs:List Bn) (left:Int),∀x∈zkW h bs left,FitB v bs x
 | [],left,x,hx=>by
  simp only[zkW,List.mem_singleton]at hx;subst hx;trivial
 | (lo,hi)::bs,left,x,hx=>by
  rw[zkW]at hx;obtain⟨m,hm,hx⟩:=List.mem_flatMap.1 hx;obtain⟨l,ls,rfl,h1,h2,h3⟩:=zq4 hh (zpU hh bs) _ _ x hx;have h4:=zmY hm;exact⟨by omega,by omega,h2,h3⟩
theorem zvI{v h:Int}(hh:h=2*v+1){bs:List Bn}:∀x∈allB h bs,FitB v bs x:=fun x hx=>by
 obtain⟨w,_,hx⟩:=List.mem_flatMap.1 hx;exact zpU hh bs w x hx
theorem FitB.len{v:Int}:∀ {bs:List Bn} {x:List (List Int)},FitB v bs x->x.length=bs.length
 | [],[],_=>rfl
 | _::_,_::_,h=>by simp[FitB.len h.2.2.2]
 | [],_::_,h=>h.elim
 | _::_,[],h=>h.elim
def sumZ(f:Int->Nat)(A:Int):Nat->Nat
 | 0=>0
 | n+1=>sumZ f A n+f (A+n)
theorem zsp{f g:Int->Nat}(A:Int)(h:∀x,f x<=g x):∀n,sumZ f A n<=sumZ g A n
 | 0=>zl
 | n+1=>Nat.add_le_add (zsp A h n) (h _)
theorem zqS(f g:Int->Nat)(A:Int):∀n,sumZ (fun x=>f x+g x) A n=sumZ f A n+sumZ g A n
 | 0=>rfl
 | n+1=>by
  rw[sumZ,sumZ,sumZ,zqS f g A n];omega
theorem zpB(A:Int):∀n,sumZ (fun _=>0) A n=0
 | 0=>rfl
 | n+1=>by rw[sumZ,zpB A n]
theorem zoz(f:Int->Nat)(A d:Int):∀n,sumZ (fun x=>f (x-d)) A n=sumZ f (A-d) n
 | 0=>rfl
 | n+1=>by
  rw[sumZ,sumZ,zoz f A d n,show A+(n:Int)-d=A-d+n by omega]
theorem zo2(f:Int->Nat):∀(n:Nat) (A lo hi:Int),A<=lo->hi<A+n->((ranE lo hi).map f).sum<=sumZ f A n:=by
 have key:∀(m:Nat) (lo:Int),(((List.range m).map fun(i:Nat)=>lo+(i:Int)).map f).sum=sumZ f lo m:=by
  intro m lo
  induction m with
  | zero=>rfl
  | succ m ih=>rw[List.range_succ,List.map_append,List.map_append,List.sum_append,ih,sumZ];simp
 have mono:∀(a m:Nat) (A:Int),sumZ f (A+a) m<=sumZ f A (a+m):=by
  intro a m A
  induction m with
  | zero=>exact Nat.zero_le _
  | succ m ih =>
   rw[sumZ,show a+(m+1)=(a+m)+1 by omega,sumZ,show A+(a:Int)+m=A+((a+m:Nat):Int) by omega];omega
 have grow:∀(m k:Nat) (A:Int),sumZ f A m<=sumZ f A (m+k):=by
  intro m k A
  induction k with
  | zero=>exact zl
  | succ k ih=>rw[show m+(k+1)=(m+k)+1 by omega,sumZ];omega
 intro n A lo hi h1 h2;unfold ranE;rw[key];by_cases hm:hi-lo+1<=0
 ·rw[show(hi-lo+1).toNat=0 by omega];exact Nat.zero_le _
 ·obtain⟨a,rfl⟩:∃a:Nat,lo=A+a:=⟨(lo-A).toNat,by omega⟩
  refine Nat.le_trans (mono a _ A) ?_;have:=grow (a+(hi-(A+a)+1).toNat) (n-(a+(hi-(A+a)+1).toNat)) A;rwa[show a+(hi-(A+a)+1).toNat+(n-(a+(hi-(A+a)+1).toNat))=n by omega]at this
theorem znD{α β:Type}(f:α->List β):∀l:List α,(l.flatMap f).length=(l.map fun x=>(f x).length).sum
 | []=>rfl
 | x::l=>by rw[List.flatMap_cons,List.length_append,znD f l,List.map_cons,List.sum_cons]
def Tot(f:Int->Nat)(N:Nat):Prop:=∀(A:Int) (n:Nat),sumZ f A n<=N
theorem Tot.shift{f:Int->Nat}{N:Nat}(h:Tot f N)(d:Int):Tot (fun x=>f (x-d)) N:=fun A n=>by rw[zoz];exact h _ _
theorem Tot.le{f g:Int->Nat}{N:Nat}(h:Tot f N)(hg:∀x,g x<=f x):Tot g N:=fun A n=>Nat.le_trans (zsp A hg n) (h A n)
theorem Tot.add{f g:Int->Nat}{N M:Nat}(h:Tot f N)(h':Tot g M):Tot (fun x=>f x+g x) (N+M):=fun A n=>by rw[zqS];exact Nat.add_le_add (h A n) (h' A n)
theorem Tot.many{f:Int->Int->Nat}{F:Nat->Nat}(h:∀i:Nat,Tot (fun x=>f x i) (F i))(lo:Nat):∀m,Tot (fun x=>sumZ (f x) lo m) (((List.range m).map fun i=>F (lo+i)).sum)
 | 0=>fun A n=>by rw[show(fun x=>sumZ (f x) lo 0)=fun _=>0 from rfl,zpB];exact Nat.zero_le _
 | m+1=>by
  rw[List.range_succ,List.map_append,List.sum_append];have:=(Tot.many h lo m).add (h (lo+m));simp only[List.map_cons,List.map_nil,List.sum_cons,List.sum_nil,Nat.add_zero];refine this.le fun x=>?_;rw[sumZ];exact Nat.le_of_eq (by rw[show((lo:Int)+(m:Int))=((lo+m:Nat):Int) by omega])
def nLst(h:Nat)(b:Bn):Nat:=((List.range (b.2+1-b.1)).map fun i=>h ^ (b.1+i)).sum
def nAll(h:Nat):List Bn->Nat
 | []=>1
 | b::bs=>nLst h b*nAll h bs
def fD(h:Int)(bs:List Bn)(w:Int):Nat:=if (wlo bs:Int)<=w/\w<=whi h bs then(zkW h bs w).length else 0
def fN(h:Int)(bs:List Bn)(k:Nat)(w:Int):Nat:=if (k+wlo bs:Int)<=w/\w<=k*h+whi h bs then(numE h bs (zkW h bs) k w).length else 0
theorem zms{f g:Int->Nat}:∀ {l:List Int},(∀x∈l,f x=g x)->(l.map f).sum=(l.map g).sum
 | [],_=>rfl
 | x::l,h=>by
  rw[List.map_cons,List.map_cons,List.sum_cons,List.sum_cons,h x (List.mem_cons_self ..),zms fun y hy=>h y (List.mem_cons_of_mem _ hy)]
theorem zwk{h:Nat}{bs:List Bn}{N:Nat}(hr:Tot (fD h bs) N):∀k,Tot (fN h bs k) (h ^ k*N)
 | 0=>by
  refine Tot.le (by simpa using hr) fun x=>?_;unfold fN fD;rw[numE,List.length_map];simp
 | k+1=>by
  have h1:∀i:Nat,Tot (fun w=>(fun(w r:Int)=>fN h bs k (w-1-r)) w i) (h ^ k*N):=fun i=>by
   refine((zwk hr k).shift (1+(i:Int))).le fun x=>?_;simp only;rw[show x-1-(i:Int)=x-(1+i) by omega];exact zl
  have h2:=Tot.many (f:=fun(w r:Int)=>fN h bs k (w-1-r)) (F:=fun _=>h ^ k*N) h1 0 h;have e:((List.range h).map fun _=>h ^ k*N).sum=h ^ (k+1)*N:=by
   rw[List.map_const',List.sum_replicate_nat,List.length_range,Nat.pow_succ,Nat.mul_comm (h ^ k) h,Nat.mul_assoc]
  rw[e]at h2;refine h2.le fun x=>?_;unfold fN
  split
  ·rw[numE,znD];simp only[List.length_map];rw[zms (g:=fun r=>fN h bs k (x-1-r)) fun r hr=>by
    have hr:=zmY hr;unfold fN;rw[if_pos (by omega)]]
   exact zo2 (fun r=>fN h bs k (x-1-r)) h 0 _ _ (by omega) (by omega)
  ·exact Nat.zero_le _
theorem zsF:Tot (fun w=>if w=0 then 1 else 0) 1:=by
 have key:∀(A:Int) (n:Nat),sumZ (fun w=>if w=0 then 1 else 0) A n=if A<=0/\0<A+n then 1 else 0:=by
  intro A n
  induction n with
  | zero=>rw[sumZ,if_neg (by omega)]
  | succ n ih =>
   rw[sumZ,ih];by_cases h1:A<=0/\0<A+(n:Int)
   ·rw[if_pos h1,if_neg (by omega),if_pos (by omega)]
   ·rw[if_neg h1];by_cases h2:A+(n:Int)=0
    ·rw[if_pos h2,if_pos (by omega)]
    ·rw[if_neg h2,if_neg (by omega)]
 intro A n;rw[key]
 split<;>omega
theorem zsn{a h m:Int}(hh:0<h)(hm:0<=m)(h1:(a+h-1).tdiv h<=m):a<=m*h:=by
 by_cases ha:0<=a+h-1
 ·rw[Int.tdiv_eq_ediv_of_nonneg ha]at h1;have h2:=Int.emod_lt_of_pos (a+h-1) hh;have h3:=Int.mul_ediv_add_emod (a+h-1) h;have h4:h*((a+h-1) / h)<=h*m:=Int.mul_le_mul_of_nonneg_left h1 (by omega);rw[Int.mul_comm m h];omega
 ·have:0<=m*h:=Int.mul_nonneg hm (by omega);omega
theorem zwl{h:Nat}(hh:0<h):∀bs:List Bn,(∀b∈bs,b.1<=b.2)->Tot (fD h bs) (nAll h bs)
 | [],_=>by
  refine zsF.le fun x=>?_;unfold fD;simp only[wlo,whi,zkW,List.map_nil,List.sum_nil,List.length_cons,List.length_nil];by_cases hx:x=0
  ·rw[if_pos hx];split<;>omega
  ·rw[if_neg hx,if_neg (by omega)];exact zl
 | (lo,hi)::bs,hb=>by
  have ih:=zwl hh bs fun b h=>hb b (List.mem_cons_of_mem _ h);have hlh:lo<=hi:=hb (lo,hi) (List.mem_cons_self ..);have h1:∀i:Nat,Tot (fun w=>(fun(w m:Int)=>fN h bs m.toNat w) w i) (h ^ i*nAll h bs):=fun i=>zwk ih i;have h2:=Tot.many (f:=fun(w m:Int)=>fN h bs m.toNat w) (F:=fun i=>h ^ i*nAll h bs) h1 lo (hi+1-lo);have e:((List.range (hi+1-lo)).map fun i=>h ^ (lo+i)*nAll h bs).sum=nAll h ((lo,hi)::bs):=by
   rw[nAll,nLst]
   induction List.range (hi+1-lo)with
   | nil=>simp
   | cons x l ih=>rw[List.map_cons,List.sum_cons,ih,List.map_cons,List.sum_cons,Nat.add_mul]
  rw[e]at h2;refine h2.le fun x=>?_;have e1:wlo ((lo,hi)::bs)=lo+wlo bs:=by simp[wlo]
  have e2:whi h ((lo,hi)::bs)=hi*h+whi h bs:=by simp[whi]
  rw[fD,zkW]
  split
  ·rename_i hx;rw[znD,zms (g:=fun m=>fN h bs m.toNat x) fun m hm=>by
    have hm:=zmY hm;have hm0:0<=m:=by omega
    have hc:(x-whi h bs+h-1).tdiv h<=m:=by omega
    have hc2:=zsn (by omega) hm0 hc;rw[fN,if_pos];rw[show((m.toNat:Nat):Int)=m by omega];omega]
   exact zo2 (fun m=>fN h bs m.toNat x) (hi+1-lo) lo _ _ (by omega) (by omega)
  ·exact Nat.zero_le _
theorem zxr{h:Nat}(hh:0<h){bs:List Bn}(hb:∀b∈bs,b.1<=b.2):(allB h bs).length<=nAll h bs:=by
 unfold allB;rw[znD,zms (g:=fD h bs) fun w hw=>by
  have hw:=zmY hw;rw[fD,if_pos hw]]
 refine Nat.le_trans (zo2 (fD h bs) (whi h bs-wlo bs+1).toNat (wlo bs) _ _ (by omega) (by omega)) (zwl hh bs hb _ _)
def maxC:Int:=1099511627776
def prdE(x y:Int):Int:=if maxC.tdiv y<x then maxC+1 else x*y
def lcL(lo:Nat)(v:Int):Nat->Int×Int
 | 0=>(0,1)
 | n+1=>(if lo<=n then min ((lcL lo v n).1+(lcL lo v n).2) (maxC+1)else(lcL lo v n).1,prdE (lcL lo v n).2 v)
def lcE(b:Bn)(v:Int):Int:=(lcL b.1 v (b.2+1)).1
def cntE(v:Int)(bs:List Bn):Int:=bs.foldl (fun s b=>prdE s (lcE b v)) 1
structure Sat(c:Int)(n:Nat):Prop where
 le:c<=maxC->(n:Int)<=c
 top:c<=maxC+1
 pos:0<=c
theorem Sat.prd{c d:Int}{n m:Nat}(h:Sat c n)(h':Sat d m)(hc:1<=c)(hd:1<=d):Sat (prdE c d) (n*m)/\1<=prdE c d:=by
 unfold prdE
 split
 ·exact⟨⟨fun h=>by omega,Int.le_refl _,by unfold maxC;omega⟩,by unfold maxC;omega⟩
 ·rename_i h1;rw[Int.tdiv_eq_ediv_of_nonneg (by unfold maxC;omega)]at h1;have h2:c<=maxC / d:=by omega
  have h3:c*d<=maxC:=by
   have h4:=Int.mul_le_mul_of_nonneg_right h2 (show 0<=d by omega);have h5:=Int.ediv_mul_le maxC (show d≠0 by omega);omega
  have h4:1*1<=c*d:=Int.mul_le_mul hc hd (by decide) (by omega);have h5:c*1<=c*d:=Int.mul_le_mul_of_nonneg_left hd (by omega);have h6:1*d<=c*d:=Int.mul_le_mul_of_nonneg_right hc (by omega);refine⟨⟨fun _=>?_,by omega,by omega⟩,by omega⟩;have a:=h.le (by omega);have b:=h'.le (by omega);rw[Int.natCast_mul];exact Int.mul_le_mul a b (by omega) (by omega)
theorem Sat.sum{c d:Int}{n m:Nat}(h:Sat c n)(h':Sat d m):Sat (min (c+d) (maxC+1)) (n+m):=by
 have h0:=h.pos;have h1:=h'.pos;refine⟨fun hle=>?_,by omega,by unfold maxC;omega⟩;have a:=h.le (by omega);have b:=h'.le (by omega);omega
theorem zqs{v:Nat}(hv:1<=v)(hv2:(v:Int)<=maxC)(lo:Nat):∀n,Sat (lcL lo v n).1 (((List.range (n-lo)).map fun i=>v ^ (lo+i)).sum)/\Sat (lcL lo v n).2 (v ^ n)/\1<=(lcL lo v n).2/\(lo<n->1<=(lcL lo v n).1)
 | 0=>by
  simp only[lcL];refine⟨⟨fun _=>?_,by decide,by decide⟩,⟨fun _=>by simp,by decide,by decide⟩,by decide,fun h=>by omega⟩;rw[Nat.zero_sub];exact Int.le_refl _
 | n+1=>by
  obtain⟨h1,h2,h3,h4⟩:=zqs hv hv2 lo n;have hp:=h2.prd (d:=(v:Int)) (m:=v) ⟨fun _=>Int.le_refl _,by omega,by omega⟩ h3 (by omega);rw[lcL];refine⟨?_,by rw[Nat.pow_succ];exact hp.1,hp.2,fun hl=>?_⟩
  ·simp only
   split
   ·rename_i hl;rw[show n+1-lo=(n-lo)+1 by omega,List.range_succ,List.map_append,List.sum_append];simp only[List.map_cons,List.map_nil,List.sum_cons,List.sum_nil,Nat.add_zero];rw[show lo+(n-lo)=n by omega];exact h1.sum h2
   ·rename_i hl;rw[show n+1-lo=n-lo by omega];exact h1
  ·have:=h1.pos;simp only;rw[if_pos (by omega)];unfold maxC;omega
theorem zsZ{v:Nat}(hv:1<=v)(hv2:(v:Int)<=maxC){b:Bn}(hb:b.1<=b.2):Sat (lcE b v) (nLst v b)/\1<=lcE b v:=by
 obtain⟨h1,-,-,h4⟩:=zqs hv hv2 b.1 (b.2+1);exact⟨h1,h4 (by omega)⟩
theorem zqz{v:Nat}(hv:1<=v)(hv2:(v:Int)<=maxC):∀(bs:List Bn) (c:Int) (n:Nat),(∀b∈bs,b.1<=b.2)->Sat c n->1<=c->Sat (bs.foldl (fun s b=>prdE s (lcE b v)) c) (n*nAll v bs)/\1<=bs.foldl (fun s b=>prdE s (lcE b v)) c
 | [],c,n,_,h,hc=>by rw[nAll,Nat.mul_one];exact⟨h,hc⟩
 | b::bs,c,n,hb,h,hc=>by
  obtain⟨a1,a2⟩:=zsZ hv hv2 (hb b (List.mem_cons_self ..));obtain⟨b1,b2⟩:=h.prd a1 hc a2;have:=zqz hv hv2 bs _ _ (fun x hx=>hb x (List.mem_cons_of_mem _ hx)) b1 b2;rw[List.foldl_cons,nAll,<-Nat.mul_assoc];exact this
theorem zvJ{v:Nat}(hv:1<=v)(hv2:(v:Int)<=maxC){bs:List Bn}(hb:∀b∈bs,b.1<=b.2)(hc:cntE v bs<=maxC):((allB v bs).length:Int)<=cntE v bs:=by
 have h1:=(zqz hv hv2 bs 1 1 hb ⟨fun _=>Int.le_refl _,by decide,by decide⟩ (by decide)).1.le hc;have h2:=zxr (h:=v) (by omega) hb;rw[Nat.one_mul]at h1;unfold cntE at hc ⊢;omega
end
end Go.Proofs.YtghbhbdnkjjnnaaGreat
