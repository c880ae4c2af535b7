/-
  Texts of the proof, put together without their remarks: Ib, Fw, Ig, Eqv, Wfp, Rxp, Pvl, Sfa, Ssm, Sve, Altb, Sfd, Rpj.
-/
import Derived.Test.YtembgnhbpmfhpaaGreatW10
import Derived.Laws.StructEq
set_option linter.unusedSimpArgs false
set_option linter.unusedVariables false
set_option maxHeartbeats 8000000
set_option maxRecDepth 100000
namespace Go.Proofs.YtembgnhbpmfhpaaGreat
open Tryz
section
open Go Go.RowKit
def Fam(p:PG):Prop:=∃G:List PR->T->Prop,(∀g,IStC G g)/\(zla p=true->chkN p=0->(∀u∈p.m.ks,G p.prs u)/\∀(F:Int) (g:Nat) (back:Bool) (r:RS),Nz (runO p.prs F g back p.m r))
theorem zyZ(p:PG):Fam p:=⟨GP,zrT zKv,fun hv hc=>⟨zvJ hv hc,fun _ _ _ _=>zyn zKv (zvJ hv hc)⟩⟩
theorem zsJ{G:List PR->T->Prop}(hS:∀g,IStC G g){C:RC}(hC:C.Ok){W:World}{r:RS}(h:RI C W r)(hG:∀u∈C.p.m.ks,G C.p.prs u)(g:Nat)(back:Bool)(hg:runO C.p.prs C.F g back C.p.m r ≠ .gas)(pb qb bb:Nat)
  (h0:W.cell? ⟨pb,0,none⟩=some (.pointer (some ⟨C.rb,0,none⟩)))(hq:W.heap[qb]?=some (.cells #[.slice C.A1 C.p.vs.length C.c1,.slice C.A2 C.p.prs.length C.c2,.int .u8 C.p.m.k,.int .i64 C.p.m.n,.string C.p.m.s,.slice C.A3 C.p.m.ks.length C.c3] 43 (0,0)))(hb:W.cell? ⟨bb,0,none⟩=some (.bool back)) :
  Calls prog 100 #[.pointer (some ⟨pb,0,none⟩),.pointer (some ⟨qb,0,none⟩),.pointer (some ⟨bb,0,none⟩)] W (RunP C W (runO C.p.prs C.F g back C.p.m r)):=by
 have aD:=zh (zlf (hS g) hC h C.p.m _ back hC.pg.main hG hg);have q2:W.cell? ⟨qb,2,none⟩=some (.int .u8 C.p.m.k):=zc hq rfl;have q3:W.cell? ⟨qb,3,none⟩=some (.int .i64 C.p.m.n):=zc hq rfl;have q4:W.cell? ⟨qb,4,none⟩=some (.string C.p.m.s):=zc hq rfl;have q5:W.cell? ⟨qb,5,none⟩=some (.slice C.A3 C.p.m.ks.length C.c3):=zc hq rfl;obtain⟨o,ho⟩:=zX (runO C.p.prs C.F g back C.p.m r);rw[ho]at aD hg ⊢;clear hC h hG hq ho;go_enter func100,ntmps100;go_wp2_with fail;refine aD.out.mono ?_;rintro e w1 ⟨hk1,hb1,ho1⟩
 cases o with
 | gas=>exact absurd rfl hg
 | err x =>
  subst ho1;exact⟨rfl,hk1,hb1,rfl⟩
 | ok r1 =>
  obtain⟨⟨u,rfl⟩,hr1⟩:=ho1;have HR:=zh hr1;have aB:=zh hk1;have HB1:=zh hb1;clear h0 q2 q3 q4 q5 hb hr1 hk1 hb1;go_wp2_with fail;go_end0;exact⟨aB.out,HB1.out,⟨_,rfl⟩,HR.out⟩
def outR(s:SS):Out->SS×Nat×Int×List Nat
 | .ok r=>(r.S.state,r.n,0,r.ent)
 | .err e=>(s,0,e,[])
 | .gas=>(s,0,0,[])
def resO(p:PG)(s:SS)(F:Int)(g:Nat)(back:Bool):SS×Nat×Int×List Nat :=
 if zla p=false\/chkN p≠0 then(s,0,3,[])else if fitB p.vs s=false then(s,0,20,[])else outR s (runO p.prs F g back p.m ⟨newS p.vs s,0,List.replicate p.prs.length 0⟩)
def LimR(R:SS×Nat×Int×List Nat):Prop:=R.1.Lim/\(R.2.2.1=0->R.1.cells.length<=1000+R.2.1/\(∀l∈R.1.cells,l.length<=1000)/\R.1.tin.length<=4096/\R.1.tout.length<=4096)
theorem LimR.run{r:RS}(h:r.S.WF)(hf:FB r.n r.S)(e:List Nat):LimR (r.S.state,r.n,0,e):=by
 obtain⟨-,h1,h2⟩:=ztK h;obtain⟨kd,hb,-⟩:=h.ex;refine⟨h1,fun _=>⟨?_,h2,h.tin.1,h.tout.1⟩⟩;have:=hb.len;have:=hf.1;simp only[ST.state,List.length_map,List.length_take];omega
def ResP(W:World)(R:SS×Nat×Int×List Nat)(e:Ending)(W':World):Prop:=∃A c v1 v2 v3,e=.returned (.tuple #[.slice A R.2.2.2.length c,.agg #[v1,v2,v3,.int .i64 (R.2.1:Int),.int .i64 R.2.2.1]]) /\
 OwnS W' W.heap.size R.1 (.agg #[v1,v2,v3])/\RowI W' (fun b=>W.heap.size<=b) A (R.2.2.2.map Int.ofNat)/\R.2.2.2.length<=c/\Below W.heap.size W W'/\LimR R
theorem OwnS.slices{W:World}{n0:Nat}{s:SS}{v:Value}(h:OwnS W n0 s v):∃A c B d D e,v=.agg #[.slice A s.cells.length c,.slice B s.tin.length d,.slice D s.tout.length e]:=by
 obtain⟨vc,vi,vo,fc,rfl,hr,-⟩:=h;obtain⟨A,c,e1,-⟩:=zkf (hr.row .all);obtain⟨B,d,e2,-⟩:=zkf (hr.row .inp);obtain⟨D,e,e3,-⟩:=zkf (hr.row .out);change vc=.slice A s.cells.length c at e1;change vi=.slice B s.tin.length d at e2;change vo=.slice D s.tout.length e at e3;exact⟨A,c,B,d,D,e,by rw[e1,e2,e3]⟩
theorem OwnS.chg{W W':World}{n0:Nat}{s:SS}{v:Value}{Cc:Nat->Prop}(h:OwnS W n0 s v)(hc:Chg Cc W W')(hC:∀b,Cc b->b<n0):OwnS W' n0 s v:=by
 obtain⟨vc,vi,vo,fc,rfl,hr,hi⟩:=h;exact⟨vc,vi,vo,fc,rfl,hr.chg hc fun i b hb hcb=>by have:=(hr.lt i b hb).1;have:=hC b hcb;omega,hi⟩
theorem OwnS.lower{W:World}{n0 n1:Nat}{s:SS}{v:Value}(h:OwnS W n1 s v)(hn:n0<=n1):OwnS W n0 s v:=by
 obtain⟨vc,vi,vo,fc,rfl,hr,hi⟩:=h;exact⟨vc,vi,vo,fc,rfl,hr.mono hn,hi⟩
theorem set5{W:World}{b:Nat}{x0 x1 x2 x3 x4 u0 u1 u2 u3 u4:Value}{E:TypeId}(h:W.heap[b]?=some (.cells #[x0,x1,x2,x3,x4] E (0,0))) :
  (((((W.setCell ⟨b,0,none⟩ u0).setCell ⟨b,1,none⟩ u1).setCell ⟨b,2,none⟩ u2).setCell ⟨b,3,none⟩ u3).setCell ⟨b,4,none⟩ u4).heap[b]?=some (.cells #[u0,u1,u2,u3,u4] E (0,0)) /\
   Chg (fun q=>q=b) W (((((W.setCell ⟨b,0,none⟩ u0).setCell ⟨b,1,none⟩ u1).setCell ⟨b,2,none⟩ u2).setCell ⟨b,3,none⟩ u3).setCell ⟨b,4,none⟩ u4):=by
 refine⟨?_,(((((Chg.refl (fun q=>q=b) W).setCell (p:=⟨b,0,none⟩) (.inl rfl) _).setCell (p:=⟨b,1,none⟩) (.inl rfl) _).setCell (p:=⟨b,2,none⟩) (.inl rfl) _).setCell (p:=⟨b,3,none⟩) (.inl rfl) _).setCell (p:=⟨b,4,none⟩) (.inl rfl) _⟩;rw[heap_setCell_same _ b 4 _ _ u4 (heap_setCell_same _ b 3 _ _ u3 (heap_setCell_same _ b 2 _ _ u2 (heap_setCell_same _ b 1 _ _ u1 (heap_setCell_same W b 0 _ _ u0 h))))];simp
theorem bRes(A B D:Option Addr)(l c m d n e:Nat)(x:Int)(w:World):(Instr.build 59 #[(0,.agg #[.slice A l c,.slice B m d,.slice D n e]),(2,.int .i64 x)]).run prog w=.ok (.agg #[.slice A l c,.slice B m d,.slice D n e,.int .i64 0,.int .i64 x]) w:=by kernel_rfl
theorem zKX(A B D:Option Addr)(l c m d n e:Nat)(x:Int)(w:World):(Instr.build 59 #[(0,.agg #[.slice A l c,.slice B m d,.slice D n e]),(1,.int .i64 x)]).run prog w=.ok (.agg #[.slice A l c,.slice B m d,.slice D n e,.int .i64 x,.int .i64 0]) w:=by kernel_rfl
theorem zue(n:Nat):madeCells (Value.int .i64 0).cells (n*1)=(zkg (List.replicate n 0)).toArray:=by
 apply Array.ext';apply List.ext_getElem
 ·rw[Array.length_toList,size_madeCells];simp[zkg]
 ·intro i h1 h2;have e:i % 1=0:=by omega
  simp[madeCells,zkg,Value.cells,e]
theorem zKY(n:Nat)(hn:n<=4096)(w:World):(Instr.makeSlice 30 (.int .i64 (n:Int)) (.int .i64 (n:Int))).run prog w=.ok (.slice (some ⟨w.heap.size,0,none⟩) n n) (w.alloc (.cells (zkg (List.replicate n 0)).toArray 3)):=by
 have h:=zlP;obtain⟨i,hi,hz⟩:=Option.map_eq_some_iff.1 h;injection hz with h1 h2;injection h2 with h2 h3;have hsc:(4096:Nat)<=9223372036854775807:=by decide
 have:=zlk (P:=prog) 30 3 i (.int .i64 0) underlying30 hi h1 .i64 .i64 n n zl (by rw[h3];omega) (Nat.le_trans hn hsc) w;rw[h2,zue]at this;exact this
theorem bRun(A1 A2 A3 E:Option Addr)(l1 c1 l2 c2 l3 c3 m d:Nat)(k n F:Int)(s:ByteArray)(sb:Nat)(w:World):(Instr.build 147 #[(0,pv A1 l1 c1 A2 l2 c2 k n s A3 l3 c3),(1,.pointer (some ⟨sb,0,none⟩)),(3,.int .i64 F),(4,.slice E m d)]).run prog w =
  .ok (.agg #[.slice A1 l1 c1,.slice A2 l2 c2,.int .u8 k,.int .i64 n,.string s,.slice A3 l3 c3,.pointer (some ⟨sb,0,none⟩),.int .i64 0,.int .i64 F,.slice E m d]) w:=by kernel_rfl
theorem zvd{W:World}{a b:Nat}{x y:Array Value}{E F:TypeId}(ha:W.heap[a]?=some (.cells x E (0,0)))(hb:W.heap[b]?=some (.cells y F (0,0)))(hne:E≠F):a≠b:=by
 rintro rfl;rw[ha]at hb;injection hb with hb;injection hb with h1 h2;exact hne h2
theorem zqT{W w4 w8 aR:World}{n0:Nat}{kb:Nat->Prop}(h4:Below W.heap.size W w4)(h11:Below W.heap.size W aR)(h48:Below w4.heap.size w4 w8)(hk:Kpt n0 kb w8 aR)(hn:w4.heap.size<=n0):Below w4.heap.size w4 aR :=
 ⟨h11.os.trans h4.os.symm,h11.tape.trans h4.tape.symm,h11.output.trans h4.output.symm,Nat.le_trans h48.size hk.size,fun b hb=>(hk.kept b (Nat.lt_of_lt_of_le hb h48.size) (.inl (Nat.lt_of_lt_of_le hb hn))).trans (h48.block b hb)⟩
theorem zwK:IsFn prog 100 f100:=⟨func100,by kernel_rfl,by kernel_rfl⟩
theorem zwJ:IsFn prog 102 f102:=⟨func102,by kernel_rfl,by kernel_rfl⟩
def OkR(C:RC)(lo hi:Nat)(o:Out)(w9 w':World):Prop:=∃r,o=.ok r/\(C.plus lo hi).Ok/\RI (C.plus lo hi) w' r/\Kpt C.n0 C.kb w9 w'
def ErX(C:RC)(o:Out)(w9:World)(x:Int)(w':World):Prop:=o=.err x/\Kpt C.n0 C.kb w9 w'/\Below C.w.heap.size C.w w'
theorem zrv{G:List PR->T->Prop}(hS:∀g,IStC G g){C:RC}{w8 w9:World}{r:RS}{jb:Nat}(hC8:C.Ok)(h8:RI C w8 r)(dJ:w8.alloc (.cells #[.slice none 0 0,.bool false] 152)=w9)(hjb:w8.heap.size=jb)(hG:∀u∈C.p.m.ks,G C.p.prs u)(g:Nat)(back:Bool)(o:Out)(ho:runO C.p.prs C.F g back C.p.m r=o)(hg:o ≠ .gas)(pb qb bb:Nat)
  (h0:w8.cell? ⟨pb,0,none⟩=some (.pointer (some ⟨C.rb,0,none⟩)))(hq:w8.heap[qb]?=some (.cells #[.slice C.A1 C.p.vs.length C.c1,.slice C.A2 C.p.prs.length C.c2,.int .u8 C.p.m.k,.int .i64 C.p.m.n,.string C.p.m.s,.slice C.A3 C.p.m.ks.length C.c3] 43 (0,0)))(hb:w8.cell? ⟨bb,0,none⟩=some (.bool back)) :
  Calls prog 99 #[.pointer (some ⟨jb,0,none⟩),.func (.func 100) #[] #[.pointer (some ⟨pb,0,none⟩),.pointer (some ⟨qb,0,none⟩),.pointer (some ⟨bb,0,none⟩)]] w9 (AttP w9 (OkR (C.plus jb w9.heap.size) w9.heap.size (w9.heap.size+3) o w9) (ErX (C.plus jb w9.heap.size) o w9)):=by
 have hbj:=zkb (zs w8) (.cells #[.slice none 0 0,.bool false] 152);have kj:=heap_alloc_new w8 (.cells #[.slice none 0 0,.bool false] 152);obtain⟨hC9,h9⟩:=h8.plus hC8 hbj;rw[dJ,hjb]at kj hC9 h9;rw[dJ]at hbj;have hjl:=zko kj;refine zrG jb _ _ zwK _ w9 kj _ _ fun W1 hb1 hz1=>?_;obtain⟨dz,h1⟩:=h9.plus hC9 hb1;have hbt:=zka hbj hb1;have hrun:=zsJ hS dz h1 hG g back (show runO C.p.prs C.F g back C.p.m r ≠ .gas by rw[ho];exact hg) pb qb bb (zb hbt h0) (zkc hq hbt) (zb hbt hb);refine hrun.mono ?_;rintro e w' ⟨hk,hbl,hout⟩;rw[show runO ((C.plus jb w9.heap.size).plus w9.heap.size W1.heap.size).p.prs ((C.plus jb w9.heap.size).plus w9.heap.size W1.heap.size).F g back ((C.plus jb w9.heap.size).plus w9.heap.size W1.heap.size).p.m r=o from ho]at hout;refine⟨fun b hb hlt=>hk.kept b hlt (.inr ?_),?_⟩
 ·rcases hb with hb|rfl
  ·exact .inr ⟨hb,hlt⟩
  ·exact .inl (.inr ⟨zl,hjl⟩)
 ·have hkk:Kpt C.n0 (C.plus jb w9.heap.size).kb w9 w':=(Kpt.of_below hb1).trans (Kpt.less (C:=C.plus jb w9.heap.size) hk)
  cases o with
  | gas=>exact absurd rfl hg
  | err x=>exact .inr ⟨x,hout,rfl,hkk,hbl⟩
  | ok r1 =>
   rw[hz1]at dz hout;exact .inl ⟨hout.1,r1,rfl,dz,hout.2,hkk⟩
theorem ztL(p:PG)(s:SS)(F:Int)(g:Nat)(back:Bool)(v sv:Value)(W:World)(hp:PV W Any p v)(hs:SV W Any s sv)(hcl:s.cells.length<=5864062014800)(hF:I64 F)(eY:F<=1000000)(hg:F.toNat*2000+2000<=g)(hfam:Fam p) :
  Calls prog 57 #[v,sv,.int .i64 F,.bool back] W (ResP W (resO p s F g back)):=by
 have HFAM:=zh hfam;clear hfam;have HP:=zh hp;have HS:=zh hs;obtain⟨A1,c1,A2,c2,A3,c3,rfl,dP⟩:=hp;obtain⟨A,c,B,d,D,e,rfl,hr1,hr2,hr3,hc1,hc2,hc3,hl1,hl2,hl3,hl4⟩:=hs;have xG:=zh dP;have oP:=zh (show s.Lim from⟨hl1,hl2,hl3,hl4⟩);have HV:=zh (fun w' (hb:Below W.heap.size W w')=>zoF p Any _ w' (HP.out.later hb));have cz:=zh (fun w' (hb:Below W.heap.size W w')=>zpr p Any _ w' (HP.out.later hb));have dB:=zh (fun w' (hb:Below W.heap.size W w')=>zp8 s _ w' (HS.out.later hb) hcl);have vY:=zh (fun w' (hb:Below W.heap.size W w')=>zzs p.vs s A1 c1 _ w' (dP.vars.later hb) dP.lv (HS.out.later hb));obtain⟨Re,hRe⟩:=zX (resO p s F g back);have eD:=zh hRe;rw[hRe]
 have hb4:=zkb (zkb (zkb (zkb (zs W) (.cells #[.slice A1 p.vs.length c1,.slice A2 p.prs.length c2,.int .u8 p.m.k,.int .i64 p.m.n,.string p.m.s,.slice A3 p.m.ks.length c3] 43)) (.cells #[.slice A s.cells.length c,.slice B s.tin.length d,.slice D s.tout.length e] 32)) (.cells #[.bool back] 4)) (.cells #[.slice none 0 0,.slice none 0 0,.slice none 0 0,.int .i64 0,.int .i64 0] 59);have k0:=zke (zke (zke (heap_alloc_new W (.cells #[.slice A1 p.vs.length c1,.slice A2 p.prs.length c2,.int .u8 p.m.k,.int .i64 p.m.n,.string p.m.s,.slice A3 p.m.ks.length c3] 43)) (.cells #[.slice A s.cells.length c,.slice B s.tin.length d,.slice D s.tout.length e] 32)) (.cells #[.bool back] 4)) (.cells #[.slice none 0 0,.slice none 0 0,.slice none 0 0,.int .i64 0,.int .i64 0] 59)
 have k1:=zke (zke (heap_alloc_new (W.alloc (.cells #[.slice A1 p.vs.length c1,.slice A2 p.prs.length c2,.int .u8 p.m.k,.int .i64 p.m.n,.string p.m.s,.slice A3 p.m.ks.length c3] 43)) (.cells #[.slice A s.cells.length c,.slice B s.tin.length d,.slice D s.tout.length e] 32)) (.cells #[.bool back] 4)) (.cells #[.slice none 0 0,.slice none 0 0,.slice none 0 0,.int .i64 0,.int .i64 0] 59);have k2:=zke (heap_alloc_new ((W.alloc (.cells #[.slice A1 p.vs.length c1,.slice A2 p.prs.length c2,.int .u8 p.m.k,.int .i64 p.m.n,.string p.m.s,.slice A3 p.m.ks.length c3] 43)).alloc (.cells #[.slice A s.cells.length c,.slice B s.tin.length d,.slice D s.tout.length e] 32)) (.cells #[.bool back] 4)) (.cells #[.slice none 0 0,.slice none 0 0,.slice none 0 0,.int .i64 0,.int .i64 0] 59)
 have k3:=heap_alloc_new (((W.alloc (.cells #[.slice A1 p.vs.length c1,.slice A2 p.prs.length c2,.int .u8 p.m.k,.int .i64 p.m.n,.string p.m.s,.slice A3 p.m.ks.length c3] 43)).alloc (.cells #[.slice A s.cells.length c,.slice B s.tin.length d,.slice D s.tout.length e] 32)).alloc (.cells #[.bool back] 4)) (.cells #[.slice none 0 0,.slice none 0 0,.slice none 0 0,.int .i64 0,.int .i64 0] 59);simp only[World.size_alloc]at k1 k2 k3;have yn:((((W.alloc (.cells #[.slice A1 p.vs.length c1,.slice A2 p.prs.length c2,.int .u8 p.m.k,.int .i64 p.m.n,.string p.m.s,.slice A3 p.m.ks.length c3] 43)).alloc (.cells #[.slice A s.cells.length c,.slice B s.tin.length d,.slice D s.tout.length e] 32)).alloc (.cells #[.bool back] 4)).alloc (.cells #[.slice none 0 0,.slice none 0 0,.slice none 0 0,.int .i64 0,.int .i64 0] 59)).heap.size=W.heap.size+4:=by simp
 obtain⟨w4,hw4⟩:=zX (((((W.alloc (.cells #[.slice A1 p.vs.length c1,.slice A2 p.prs.length c2,.int .u8 p.m.k,.int .i64 p.m.n,.string p.m.s,.slice A3 p.m.ks.length c3] 43)).alloc (.cells #[.slice A s.cells.length c,.slice B s.tin.length d,.slice D s.tout.length e] 32)).alloc (.cells #[.bool back] 4)).alloc (.cells #[.slice none 0 0,.slice none 0 0,.slice none 0 0,.int .i64 0,.int .i64 0] 59)));rw[hw4]at hb4 k0 k1 k2 k3 yn;have aF:=zh hb4;have aG:=zh k0;have aB:=zh k1;have aT:=zh k2;have ik:=zh k3;have ru:=zh yn;have p0:w4.cell? ⟨W.heap.size,0,none⟩=some (.slice A1 p.vs.length c1):=zc k0 rfl;have p1:w4.cell? ⟨W.heap.size,1,none⟩=some (.slice A2 p.prs.length c2):=zc k0 rfl;have p2:w4.cell? ⟨W.heap.size,2,none⟩=some (.int .u8 p.m.k):=zc k0 rfl;have p3:w4.cell? ⟨W.heap.size,3,none⟩=some (.int .i64 p.m.n):=zc k0 rfl;have p4:w4.cell? ⟨W.heap.size,4,none⟩=some (.string p.m.s):=zc k0 rfl
 have p5:w4.cell? ⟨W.heap.size,5,none⟩=some (.slice A3 p.m.ks.length c3):=zc k0 rfl;obtain⟨vb,hvb⟩:=zX (zla p);have eZ:=zh hvb;rw[hvb]at HV cz;clear dP hr1 hr2 hr3 hRe hvb hb4 k0 k1 k2 k3 yn hl1 hl2 hl3 hl4 hc1 hc2 hc3;go_enter func57,ntmps57;go_wp2_with fail;refine(HV.out w4 aF.out).mono ?_;rintro e5 w5 ⟨rfl,b5⟩;clear hw4
 cases vb
 ·have HX:=zh (show Re=(s,0,3,[]) by rw[<-eD.out,resO,if_pos (.inl eZ.out)]);clear p0 p1 p2 p3 p4 p5;have eu:=zkc aB.out b5;have mX:=zkc ik.out b5;have s0:w5.cell? ⟨W.heap.size+1,0,none⟩=some (.slice A s.cells.length c):=zc eu rfl;have s1:w5.cell? ⟨W.heap.size+1,1,none⟩=some (.slice B s.tin.length d):=zc eu rfl;have s2:w5.cell? ⟨W.heap.size+1,2,none⟩=some (.slice D s.tout.length e):=zc eu rfl;have aZ:=zh (dB.out w5 (zka aF.out b5));have dD:=zh mX;have hbq:=b5;clear eu mX;go_wp2_with fail;refine aZ.out.mono ?_;rintro e9 w9 ⟨v9,rfl,dV,aS⟩;obtain⟨A9,c9,B9,d9,D9,e9,rfl⟩:=dV.slices;have gu:=zh dV;have aH:=zh (zka hbq aS);have aL:=zkc dD.out aS;have x0:w9.cell? ⟨W.heap.size+3,0,none⟩=some (.slice none 0 0):=zc aL rfl;have x1:w9.cell? ⟨W.heap.size+3,1,none⟩=some (.slice none 0 0):=zc aL rfl
  have x2:w9.cell? ⟨W.heap.size+3,2,none⟩=some (.slice none 0 0):=zc aL rfl;have x3:w9.cell? ⟨W.heap.size+3,3,none⟩=some (.int .i64 0):=zc aL rfl;have x4:w9.cell? ⟨W.heap.size+3,4,none⟩=some (.int .i64 0):=zc aL rfl;have xf:∀o,w9.frozen? ⟨W.heap.size+3,o,none⟩=false:=fun _=>zf aL;have gy:=zh aL;have hbr:=bRes;have jC:W.heap.size+4<=w5.heap.size:=by have:=hbq.size;rw[ru.out]at this;exact this
  clear s0 s1 s2 aL dV aS hbq aZ;go_wp2_with fail;obtain⟨hh,hch⟩:=set5 (u0:=.slice A9 s.cells.length c9) (u1:=.slice B9 s.tin.length d9) (u2:=.slice D9 s.tout.length e9) (u3:=.int .i64 0) (u4:=.int .i64 3) gy.out;obtain⟨aV,df⟩:=zX ((((((w9.setCell ⟨W.heap.size+3,0,none⟩ (.slice A9 s.cells.length c9)).setCell ⟨W.heap.size+3,1,none⟩ (.slice B9 s.tin.length d9)).setCell ⟨W.heap.size+3,2,none⟩ (.slice D9 s.tout.length e9)).setCell ⟨W.heap.size+3,3,none⟩ (.int .i64 0)).setCell ⟨W.heap.size+3,4,none⟩ (.int .i64 3)));rw[df]at hh hch ⊢;have t0:aV.cell? ⟨W.heap.size+3,0,none⟩=some (.slice A9 s.cells.length c9):=zc hh rfl;have t1:aV.cell? ⟨W.heap.size+3,1,none⟩=some (.slice B9 s.tin.length d9):=zc hh rfl;have t2:aV.cell? ⟨W.heap.size+3,2,none⟩=some (.slice D9 s.tout.length e9):=zc hh rfl;have t3:aV.cell? ⟨W.heap.size+3,3,none⟩=some (.int .i64 0):=zc hh rfl
  have t4:aV.cell? ⟨W.heap.size+3,4,none⟩=some (.int .i64 3):=zc hh rfl;refine bodyPost_ret (v:=.tuple #[.slice none 0 0,.agg #[.slice A9 s.cells.length c9,.slice B9 s.tin.length d9,.slice D9 s.tout.length e9,.int .i64 0,.int .i64 3]]) (by simp[results,results57,go_sem,t0,t1,t2,t3,t4]) rfl ?_;rw[HX.out];exact⟨none,0,_,_,_,rfl,(gu.out.chg hch fun b hb=>by omega).lower (by omega),fun i hi=>absurd hi (by simp),zl,(zka aF.out aH.out).trans (hch.below (zka aF.out aH.out).size fun b hb=>by omega),oP.out,fun h=>by first|(simp at h;done)|exact absurd h yJ.out⟩
 ·have q0:=zb b5 p0;have q1:=zb b5 p1;have q2:=zb b5 p2;have q3:=zb b5 p3;have q4:=zb b5 p4;have q5:=zb b5 p5;have eH:=zh (show Calls prog 26 #[pv A1 p.vs.length c1 A2 p.prs.length c2 p.m.k p.m.n p.m.s A3 p.m.ks.length c3] w5 (fun e w'=>∃A c,e=Ending.returned (.slice A (chkN p) c)/\Below w5.heap.size w5 w')from(cz.out w5 (zka aF.out b5)).mono (fun e w' ⟨A,c,h1,h2⟩=>⟨A,c,by rw[h1,if_pos rfl],h2⟩));clear p0 p1 p2 p3 p4 p5 cz HV;go_wp2_with fail;refine eH.out.mono ?_;rintro e6 w6 ⟨AA,cc,rfl,b6⟩;have nu:=zka b5 b6;clear q0 q1 q2 q3 q4 q5;by_cases hn:chkN p=0
  ·obtain⟨n,hnn⟩:=zX (chkN p);rw[hnn];obtain rfl:n=0:=by omega
   have hng:¬ (0:Int)<((0:Nat):Int):=by omega
   have oG:=zkc aG.out nu;have eu:=zkc aB.out nu;have p0:w6.cell? ⟨W.heap.size,0,none⟩=some (.slice A1 p.vs.length c1):=zc oG rfl;have s0:w6.cell? ⟨W.heap.size+1,0,none⟩=some (.slice A s.cells.length c):=zc eu rfl;have s1:w6.cell? ⟨W.heap.size+1,1,none⟩=some (.slice B s.tin.length d):=zc eu rfl;have s2:w6.cell? ⟨W.heap.size+1,2,none⟩=some (.slice D s.tout.length e):=zc eu rfl;have iV:=zh hnn;clear oG eu hn hnn;go_wp2_with fail;refine(vY.out w6 (zka aF.out nu)).mono ?_;rintro e7 w7 ⟨b7,⟨hfit,rfl⟩|⟨hfit,P,rfl,zZ⟩⟩
   ·have HX:=zh (show Re=(s,0,20,[]) by rw[<-eD.out,resO,if_neg (by rw[eZ.out,iV.out];simp),if_pos hfit]);have rq:=zka nu b7;clear p0 s0 s1 s2 hfit;have eu:=zkc aB.out rq;have mX:=zkc ik.out rq;have s0:w7.cell? ⟨W.heap.size+1,0,none⟩=some (.slice A s.cells.length c):=zc eu rfl;have s1:w7.cell? ⟨W.heap.size+1,1,none⟩=some (.slice B s.tin.length d):=zc eu rfl;have s2:w7.cell? ⟨W.heap.size+1,2,none⟩=some (.slice D s.tout.length e):=zc eu rfl;have aZ:=zh (dB.out w7 (zka aF.out rq));have dD:=zh mX;have hbq:=rq;clear eu mX;go_wp2_with fail;refine aZ.out.mono ?_;rintro e9 w9 ⟨v9,rfl,dV,aS⟩;obtain⟨A9,c9,B9,d9,D9,e9,rfl⟩:=dV.slices;have gu:=zh dV;have aH:=zh (zka hbq aS);have aL:=zkc dD.out aS;have x0:w9.cell? ⟨W.heap.size+3,0,none⟩=some (.slice none 0 0):=zc aL rfl;have x1:w9.cell? ⟨W.heap.size+3,1,none⟩=some (.slice none 0 0):=zc aL rfl
    have x2:w9.cell? ⟨W.heap.size+3,2,none⟩=some (.slice none 0 0):=zc aL rfl;have x3:w9.cell? ⟨W.heap.size+3,3,none⟩=some (.int .i64 0):=zc aL rfl;have x4:w9.cell? ⟨W.heap.size+3,4,none⟩=some (.int .i64 0):=zc aL rfl;have xf:∀o,w9.frozen? ⟨W.heap.size+3,o,none⟩=false:=fun _=>zf aL;have gy:=zh aL;have hbr:=bRes;have jC:W.heap.size+4<=w7.heap.size:=by have:=hbq.size;rw[ru.out]at this;exact this
    clear s0 s1 s2 aL dV aS hbq aZ;go_wp2_with fail;obtain⟨hh,hch⟩:=set5 (u0:=.slice A9 s.cells.length c9) (u1:=.slice B9 s.tin.length d9) (u2:=.slice D9 s.tout.length e9) (u3:=.int .i64 0) (u4:=.int .i64 20) gy.out;obtain⟨aV,df⟩:=zX ((((((w9.setCell ⟨W.heap.size+3,0,none⟩ (.slice A9 s.cells.length c9)).setCell ⟨W.heap.size+3,1,none⟩ (.slice B9 s.tin.length d9)).setCell ⟨W.heap.size+3,2,none⟩ (.slice D9 s.tout.length e9)).setCell ⟨W.heap.size+3,3,none⟩ (.int .i64 0)).setCell ⟨W.heap.size+3,4,none⟩ (.int .i64 20)));rw[df]at hh hch ⊢;have t0:aV.cell? ⟨W.heap.size+3,0,none⟩=some (.slice A9 s.cells.length c9):=zc hh rfl;have t1:aV.cell? ⟨W.heap.size+3,1,none⟩=some (.slice B9 s.tin.length d9):=zc hh rfl;have t2:aV.cell? ⟨W.heap.size+3,2,none⟩=some (.slice D9 s.tout.length e9):=zc hh rfl;have t3:aV.cell? ⟨W.heap.size+3,3,none⟩=some (.int .i64 0):=zc hh rfl
    have t4:aV.cell? ⟨W.heap.size+3,4,none⟩=some (.int .i64 20):=zc hh rfl;refine bodyPost_ret (v:=.tuple #[.slice none 0 0,.agg #[.slice A9 s.cells.length c9,.slice B9 s.tin.length d9,.slice D9 s.tout.length e9,.int .i64 0,.int .i64 20]]) (by simp[results,results57,go_sem,t0,t1,t2,t3,t4]) rfl ?_;rw[HX.out];exact⟨none,0,_,_,_,rfl,(gu.out.chg hch fun b hb=>by omega).lower (by omega),fun i hi=>absurd hi (by simp),zl,(zka aF.out aH.out).trans (hch.below (zka aF.out aH.out).size fun b hb=>by omega),oP.out,fun h=>by first|(simp at h;done)|exact absurd h yJ.out⟩
   ·have rq:=zka nu b7;have lZ:=zh hfit;have BO:=zh zZ;clear p0 s0 s1 s2 hfit zZ;have oG:=zkc aG.out rq;have p0:w7.cell? ⟨W.heap.size,0,none⟩=some (.slice A1 p.vs.length c1):=zc oG rfl;have p1:w7.cell? ⟨W.heap.size,1,none⟩=some (.slice A2 p.prs.length c2):=zc oG rfl;have p2:w7.cell? ⟨W.heap.size,2,none⟩=some (.int .u8 p.m.k):=zc oG rfl;have p3:w7.cell? ⟨W.heap.size,3,none⟩=some (.int .i64 p.m.n):=zc oG rfl;have p4:w7.cell? ⟨W.heap.size,4,none⟩=some (.string p.m.s):=zc oG rfl;have p5:w7.cell? ⟨W.heap.size,5,none⟩=some (.slice A3 p.m.ks.length c3):=zc oG rfl;obtain⟨hvl,hpl,hpp,-,hpm⟩:=zmm eZ.out;have hmk:=zKY p.prs.length (by omega);obtain⟨np,sP⟩:=zX (p.prs.length);rw[sP]at p1 hmk;have rH:=zh sP
    obtain⟨HH,hHH⟩:∃H:World->Prop,H=fun w':World=>w'.cell? ⟨W.heap.size,0,none⟩=some (.slice A1 p.vs.length c1)/\w'.cell? ⟨W.heap.size,1,none⟩=some (.slice A2 np c2)/\w'.cell? ⟨W.heap.size,2,none⟩=some (.int .u8 p.m.k)/\w'.cell? ⟨W.heap.size,3,none⟩=some (.int .i64 p.m.n)/\w'.cell? ⟨W.heap.size,4,none⟩=some (.string p.m.s)/\w'.cell? ⟨W.heap.size,5,none⟩=some (.slice A3 p.m.ks.length c3):=⟨_,rfl⟩
    have az:=zh (show ∀w',Below w7.heap.size w7 w'->HH w' by
     rw[hHH];exact fun w' hb=>⟨zb hb p0,zb hb p1,zb hb p2,zb hb p3,zb hb p4,zb hb p5⟩)
    rw[sP];go_upto_region 6 with fail;have hSS:zW HH zU w7.drew:=⟨az.out _ zr.drew,trivial⟩
    refine wp_region_noPanic ?_;refine zG hSS 10 ?_;subst hHH;refine zT 0 hSS ?_;refine zT 1 hSS ?_;refine zT 2 hSS ?_;refine zT 3 hSS ?_;refine zT 4 hSS ?_;refine zT 5 hSS ?_;clear p0 p1 p2 p3 p4 p5 oG sP;refine zrH (fun A f l a wr=>∃(l6 l7 l8 l9:Bool) (v43 v44 v45 v12:Value) (eb rb pb:Nat),f=(!l6).toNat+(!l7).toNat+(!l8).toNat+(!l9).toNat+1/\l = #[true,true,true,true,true,true,l6,l7,l8,l9,false] /\
     a=(((A.put (some 43) v43).put (some 44) v44).put (some 45) v45).put (some 12) v12/\Hid (Below w7.heap.size w7 wr) /\
     Hid ((l7=true->l6=true)/\(l8=true->l7=true)/\(l6=true->v43=.slice (some ⟨eb,0,none⟩) np np/\wr.heap[eb]?=some (.cells (zkg (List.replicate np 0)).toArray 3 (0,0))/\w7.heap.size<=eb) /\
      (l7=true->v44=.agg #[.slice A1 p.vs.length c1,.slice A2 np c2,.int .u8 p.m.k,.int .i64 p.m.n,.string p.m.s,.slice A3 p.m.ks.length c3,.pointer (some ⟨P.sb,0,none⟩),.int .i64 0,.int .i64 F,.slice (some ⟨eb,0,none⟩) np np]) /\
      (l8=true->v45=.pointer (some ⟨rb,0,none⟩)/\wr.heap[rb]?=some (.cells #[.slice A1 p.vs.length c1,.slice A2 np c2,.int .u8 p.m.k,.int .i64 p.m.n,.string p.m.s,.slice A3 p.m.ks.length c3,.pointer (some ⟨P.sb,0,none⟩),.int .i64 0,.int .i64 F,.slice (some ⟨eb,0,none⟩) np np] 147 (0,0))/\w7.heap.size<=rb) /\
      (l9=true->v12=.pointer (some ⟨pb,0,none⟩)/\wr.heap[pb]?=some (.cells #[.pointer none] 145 (0,0))/\w7.heap.size<=pb)) /\
     Hid ((l6=false->v43=undef)/\(l7=false->v44=undef)/\(l8=false->v45=undef)/\(l9=false->v12=undef))) (fun A f l a wr h=>?_) ?_ ⟨false,false,false,false,undef,undef,undef,undef,0,0,0,rfl,rfl,(by simp only[Act.put,zD,zE,zF]),zh zr.drew,zh ⟨fun h=>(by cases h),fun h=>(by cases h),fun h=>(by cases h),fun h=>(by cases h),fun h=>(by cases h),fun h=>(by cases h)⟩,zh ⟨fun _=>rfl,fun _=>rfl,fun _=>rfl,fun _=>rfl⟩⟩
    ·obtain⟨_,_,_,_,_,_,_,_,_,_,_,_,_,_,hb,_⟩:=h;exact⟨az.out _ hb.out,trivial⟩
    rintro A' hA f l a wr ⟨l6,l7,l8,l9,v43,v44,v45,v12,eb,rb,pb,hf,rfl,ha,ag,HC,HU⟩;by_cases hall:(l6&&l7&&l8&&l9)=true
    ·left
     simp only[Bool.and_eq_true]at hall;obtain⟨⟨⟨rfl,rfl⟩,rfl⟩,rfl⟩:=hall;obtain⟨-,-,h6,h7,h8,h9⟩:=HC.out;obtain⟨rfl,he,hel⟩:=h6 rfl;obtain rfl:=h7 rfl;obtain⟨rfl,hr,hrl⟩:=h8 rfl;obtain⟨rfl,hq,kJ⟩:=h9 rfl;subst hf ha hA;have hner:eb≠rb:=zvd he hr (by decide);have hneq:eb≠pb:=zvd he hq (by decide);have hnrq:rb≠pb:=zvd hr hq (by decide);have c0:wr.cell? ⟨pb,0,none⟩=some (.pointer none):=zc hq rfl;have cf:∀j,wr.frozen? ⟨pb,j,none⟩=false:=fun j=>zf hq;refine zp 10 fun K hK=>?_;(try simp only[zQ]);go_simp;have hch:Chg (fun b=>b=pb) wr (wr.setCell ⟨pb,0,none⟩ (.pointer (some ⟨rb,0,none⟩))):=(Chg.refl (fun b=>b=pb) wr).setCell (p:=⟨pb,0,none⟩) (.inl rfl) _;have hh:(wr.setCell ⟨pb,0,none⟩ (.pointer (some ⟨rb,0,none⟩))).heap[pb]?=some (.cells #[.pointer (some ⟨rb,0,none⟩)] 145 (0,0)):=by
      rw[heap_setCell_same wr pb 0 _ _ (.pointer (some ⟨rb,0,none⟩)) hq];rfl
     have dZ:=zh (show Below w7.heap.size w7 (wr.setCell ⟨pb,0,none⟩ (.pointer (some ⟨rb,0,none⟩)))from ag.out.trans (hch.below ag.out.size fun b e=>by omega));have Cv:=zh (hch.keep he hneq);have iB:=zh (hch.keep hr hnrq);have yR:=zh hh;obtain⟨w8,hw8⟩:=zX (wr.setCell ⟨pb,0,none⟩ (.pointer (some ⟨rb,0,none⟩)));rw[hw8]at dZ Cv iB yR ⊢;refine hK.out _ _ (az.out _ dZ.out) ?_;clear hK K hSS hch hh hw8 c0 cf he hr hq h6 h7 h8 h9 HC HU ag hmk az;refine zd ?_;refine NoPanic.normal ?_;(try simp only[zQ]);have hlt_e:=zko Cv.out;have hlt_r:=zko iB.out;have hlt_q:=zko yR.out;obtain⟨C,hC⟩:∃C:RC,C=⟨W,w6.heap.size,P.sb,rb,p,A1,c1,A2,c2,A3,c3,F,.slice (some ⟨eb,0,none⟩) np np,fun b=>b=pb⟩:=⟨_,rfl⟩
     have hs67:=b7.size;have hs46:=nu.size;have yn:=ru.out;have hbWw6:=zka aF.out nu;have zg:=zh (show C.Ok by
      rw[hC];exact⟨xG.out,hF,eY,⟨by simp only;omega,by simp only;exact hnrq⟩,⟨by simp[Value.ownBlock];exact hner,fun b hb hk=>by simp only[Value.ownBlock,Option.some.injEq]at hb;simp only at hk;omega⟩,fun q hq=>by have:=(hpp q hq).1;omega⟩)
     have dL:=zh (show RI C w8 ⟨newS p.vs s,0,List.replicate np 0⟩ by
      rw[hC];have hks:=(KS.new hbWw6 b7 BO.out).also dZ.out (kb':=fun b=>b=pb\/b=rb\/(Value.slice (some ⟨eb,0,none⟩) np np).ownBlock=some b) (fun b hb=>.inr (by
       rcases hb with rfl|rfl|hb
       ·exact⟨kJ,hlt_q⟩
       ·exact⟨hrl,hlt_r⟩
       ·simp[Value.ownBlock]at hb;subst hb;exact⟨hel,hlt_e⟩))
      refine⟨hks,by rw[<-rH.out]at iB;simpa[RC.cells,rH.out]using iB.out,?_,by simp[rH.out],fun c hc=>by simp at hc;omega,by simp,?_⟩
      ·refine⟨by simp[zkg],.inr ⟨eb,np,_,by simp,Nat.le_trans hs67 hel,Cv.out,by simp,by unfold maxLen;have:=rH.out;omega,by simp[zkg],by simp[zkg]⟩⟩
      ·exact⟨by simp only[newS];omega,fun f hf=>by simp[newS]at hf⟩)
     obtain⟨GX,hGX,hGM⟩:=HFAM.out;have wD:=zh (hGM eZ.out iV.out);clear hGM;obtain⟨o,ho⟩:=zX (runO p.prs F g back p.m ⟨newS p.vs s,0,List.replicate np 0⟩);have hog:o ≠ .gas:=ho▸(zwc eZ.out hg back (newS p.vs s) (List.replicate np 0)).1;have hon:Nz o:=ho▸wD.out.2 _ _ _ _;have HRR:=zh (show Re=outR s o by rw[<-eD.out,resO,if_neg (by rw[eZ.out,iV.out];simp),if_neg (by rw[lZ.out];simp),<-ho,<-rH.out]);have ko:=zka rq dZ.out;obtain⟨jb,hjb⟩:=zX (w8.heap.size);obtain⟨w9,dJ⟩:=zX (w8.alloc (.cells #[.slice none 0 0,.bool false] 152));have HAT:=zh (zrv hGX zg.out dL.out dJ hjb (by rw[hC];exact wD.out.1) g back o (by rw[hC];exact ho) hog pb W.heap.size (W.heap.size+1+1) (by rw[hC];exact zc yR.out rfl) (by rw[hC];simp only;rw[rH.out];have:=zkc aG.out ko;rw[rH.out]at this;exact this) (zc (zkc aT.out ko) rfl))
     have ym:w9.heap.size=jb+1:=by rw[<-dJ];simp[hjb]
     have HK89:=zh (show Kpt C.n0 C.kb w8 w9 from Kpt.of_below (dJ▸zkb (zs w8) _));have pI:∀(fn:Fn) (first cap:Array Value) (w:World),(Instr.makeFunc fn first cap).run prog w=.ok (.func fn first cap) w:=fun _ _ _ _=>rfl;have HN0C:=zh (show C.n0=w6.heap.size/\C.w=W/\C.rb=rb/\C.ev=.slice (some ⟨eb,0,none⟩) np np/\(C.kb=fun b=>b=pb)/\C.sb=P.sb/\C.p=p by rw[hC];exact⟨rfl,rfl,rfl,rfl,rfl,rfl,rfl⟩);have HHB48:=zh ko;have kg:=aF.out;have hb4s:W.heap.size<=w6.heap.size:=hbWw6.size;clear hC ko ho hlt_e hlt_r;go_wp2_with fail;refine HAT.out.mono ?_;rintro e10 aR hat;clear HAT dJ pI;rcases hat with⟨rfl,aV,⟨r,rfl,hok,bg,hkp⟩,hch⟩|⟨x,rfl,aV,⟨rfl,hkp,hbl⟩,hch⟩
     ·obtain⟨hn0,hcw,pV,mP,kQ,pU,hcp⟩:=HN0C.out;have hri1:=RI.chgK (C:=C.plus jb w9.heap.size) hok bg hch (by show C.w.heap.size<=_;rw[hcw];have:=dZ.out.size;omega);have jD:RI C aR r:=hri1.less.less;have hkk:Kpt C.n0 C.kb w8 aR:=HK89.out.trans ((Kpt.less (C:=C) hkp).trans (Kpt.chg hch fun b hb=>⟨by rw[hn0];omega,by rw[kQ];intro e;subst e;omega⟩));have dQ:=zqT kg (by have:=jD.below;rw[hcw]at this;exact this) HHB48.out hkk (by rw[hn0];exact hs46);have gW:=zh jD;have HX:=zh (show Re=(r.S.state,r.n,0,r.ent)from HRR.out);obtain⟨-,x7,-,x9,-⟩:=jD.cells;rw[pV]at x7 x9;rw[mP]at x9;have xp:aR.cell? ⟨pb,0,none⟩=some (.pointer (some ⟨rb,0,none⟩)):=zc (hkk.blk (.inr (by rw[kQ])) yR.out) rfl;have HKR:=zh (zkc ik.out dQ);have oh:=zh dQ;have hls:=jD.ks;have HST:=zh (fun w' (hb:Below aR.heap.size aR w')=>(hls.later hb).state);rw[pU]at HST
      have oM:=zh (show r.ent.length=np by rw[jD.el,hcp,rH.out]);have nW:=zh jD.ent;rw[hn0,mP]at nW;have hne0:(0:Int)=0:=rfl;have az:=zh (show ∀w',Below aR.heap.size aR w'->(fun w':World=>zv w' pb 0 (.pointer (some ⟨rb,0,none⟩))/\zv w' rb 7 (.int .i64 r.n)/\zv w' rb 9 (.slice (some ⟨eb,0,none⟩) np np)) w' from fun w' hb=>⟨zb hb xp,zb hb x7,zb hb x9⟩);clear bg hri1 jD hkk hkp hls hn0 hcw pV mP kQ pU hch x7 x9 xp dQ hok;go_upto_region 10 with fail;have hSS:zW (fun w':World=>zv w' pb 0 (.pointer (some ⟨rb,0,none⟩))/\zv w' rb 7 (.int .i64 r.n)/\zv w' rb 9 (.slice (some ⟨eb,0,none⟩) np np)) zU aR.drew:=⟨az.out _ zr.drew,trivial⟩
      refine wp_region_noPanic ?_;refine zG hSS 12 ?_;refine zT 0 hSS ?_;refine zT 1 hSS ?_;refine zT 2 hSS ?_;refine zT 3 hSS ?_;refine zT 4 hSS ?_;refine zT 6 hSS ?_;refine zT 7 hSS ?_;refine zT 8 hSS ?_;refine zT 9 hSS ?_;have had:Calls prog 102 [.pointer (some ⟨P.sb,0,none⟩)].toArray aR.drew fun e W'=>∃v,e=.returned v/\(OwnS W' aR.heap.size r.S.state v/\Below aR.heap.size aR W') :=
       (HST.out _ zr.drew).mono fun e w' ⟨v,h1,h2,h3⟩=>⟨v,h1,h2,zka (zs aR).drew h3⟩
      refine zo 5 fun K hK=>?_;refine zkd (by rfl) (.func 102) [.tmp 59] _ (by rfl) 102 _ zwJ (by rfl) _ (by rfl) _ had ?_;rintro v12 jc ⟨sN,qa⟩;obtain⟨A9,c9,B9,d9,D9,e9,rfl⟩:=sN.slices;have HO12:=zh sN;have iw:=zh qa;refine hK.out _ _ ⟨az.out _ qa,trivial⟩ ?_;have aN:=zV hSS (az.out _ qa) trivial;clear hK K hSS had sN qa;(try simp only[zQ]);have hbr:=zKX;refine zT 10 aN ?_;refine zo 11 fun K hK=>?_;(try simp only[zA,zB,zC]);go_simp;refine hK.out _ _ ⟨az.out _ iw.out,trivial⟩ ?_;clear hK K;(try simp only[zQ]);have aL:=zkc HKR.out iw.out;have x0:jc.cell? ⟨W.heap.size+3,0,none⟩=some (.slice none 0 0):=zc aL rfl;have x1:jc.cell? ⟨W.heap.size+3,1,none⟩=some (.slice none 0 0):=zc aL rfl;have x2:jc.cell? ⟨W.heap.size+3,2,none⟩=some (.slice none 0 0):=zc aL rfl;have x3:jc.cell? ⟨W.heap.size+3,3,none⟩=some (.int .i64 0):=zc aL rfl
      have x4:jc.cell? ⟨W.heap.size+3,4,none⟩=some (.int .i64 0):=zc aL rfl;have xf:∀o,jc.frozen? ⟨W.heap.size+3,o,none⟩=false:=fun _=>zf aL;refine zp 12 fun K hK=>?_;(try simp only[zQ]);go_simp;obtain⟨hh,hch⟩:=set5 (u0:=.slice A9 r.S.state.cells.length c9) (u1:=.slice B9 r.S.state.tin.length d9) (u2:=.slice D9 r.S.state.tout.length e9) (u3:=.int .i64 r.n) (u4:=.int .i64 0) aL;obtain⟨lJ,hw13⟩:=zX ((((((jc.setCell ⟨W.heap.size+3,0,none⟩ (.slice A9 r.S.state.cells.length c9)).setCell ⟨W.heap.size+3,1,none⟩ (.slice B9 r.S.state.tin.length d9)).setCell ⟨W.heap.size+3,2,none⟩ (.slice D9 r.S.state.tout.length e9)).setCell ⟨W.heap.size+3,3,none⟩ (.int .i64 r.n)).setCell ⟨W.heap.size+3,4,none⟩ (.int .i64 0)));rw[hw13]at hh hch ⊢;have dN:=zh hch;have t0:lJ.cell? ⟨W.heap.size+3,0,none⟩=some (.slice A9 r.S.state.cells.length c9):=zc hh rfl
      have t1:lJ.cell? ⟨W.heap.size+3,1,none⟩=some (.slice B9 r.S.state.tin.length d9):=zc hh rfl;have t2:lJ.cell? ⟨W.heap.size+3,2,none⟩=some (.slice D9 r.S.state.tout.length e9):=zc hh rfl;have t3:lJ.cell? ⟨W.heap.size+3,3,none⟩=some (.int .i64 r.n):=zc hh rfl;have t4:lJ.cell? ⟨W.heap.size+3,4,none⟩=some (.int .i64 0):=zc hh rfl;have hszs:W.heap.size+4<=aR.heap.size:=by have:=oh.out.size;omega
      have hplt:W.heap.size+3<w7.heap.size:=by have:=rq.size;omega
      refine hK.out _ _ ?_ ?_
      ·obtain⟨q1,q2,q3⟩:=az.out _ iw.out;exact⟨zkV hch q1 (by simp only;omega),zkV hch q2 (by simp only;omega),zkV hch q3 (by simp only;omega)⟩
      clear hK K hch hh hw13 x0 x1 x2 x3 x4 xf aL aN az;(try simp only[zQ]);refine zd ?_;refine NoPanic.normal ?_;go_wp2_with fail;have hrow:=zkp nW.out iw.out;have hrow2:=zms hrow (fun b hb=>dN.out.block b (hrow.lt b hb).2 (by have:=(hrow.lt b hb).1;omega));have hI:∀z∈r.ent.map Int.ofNat,I64 z:=fun z hz=>by
       obtain⟨q,hq,rfl⟩:=List.mem_map.1 hz;have h1:=gW.out.en q hq;have h2:=gW.out.n;exact⟨by simp only[Int.ofNat_eq_natCast];omega,by simp only[Int.ofNat_eq_natCast];omega⟩
      obtain⟨Ae,ce,he1,he2,he3⟩:=zr0 (l:=r.ent.map Int.ofNat) (by simpa using hrow2) hI;injection he1 with he1 _ he4;subst he1 he4;refine bodyPost_ret (v:=.tuple #[.slice (some ⟨eb,0,none⟩) np np,.agg #[.slice A9 r.S.state.cells.length c9,.slice B9 r.S.state.tin.length d9,.slice D9 r.S.state.tout.length e9,.int .i64 r.n,.int .i64 0]]) (by simp[results,results57,go_sem,t0,t1,t2,t3,t4]) rfl ?_;rw[HX.out];refine⟨_,_,_,_,_,by rw[oM.out],(HO12.out.chg dN.out fun b hb=>by omega).lower (by omega),he3.keep (fun b hb _=>by have:=hb4s;omega) (fun _ _ _=>rfl),by simpa using he2,?_⟩;exact⟨(zka kg (zka oh.out iw.out)).trans (dN.out.below (zka kg (zka oh.out iw.out)).size fun b hb=>by omega),LimR.run gW.out.ks.wf gW.out.fb _⟩
     ·have hx:x≠0:=fun e=>hon (by rw[e]);obtain⟨hn0,hcw,pV,mP,kQ,pU,-⟩:=HN0C.out;have hkk:Kpt C.n0 C.kb w8 aR:=HK89.out.trans ((Kpt.less (C:=C) hkp).trans (Kpt.chg hch fun b hb=>⟨by rw[hn0];omega,by rw[kQ];intro e;subst e;omega⟩));have pX:Below C.w.heap.size C.w aV:=hbl;rw[hcw]at pX;have yx:=dZ.out.size;have pY:Below W.heap.size W aR:=pX.trans (hch.below pX.size fun b hb=>by omega);have dQ:=zqT kg pY HHB48.out hkk (by rw[hn0];exact hs46);have HX:=zh (show Re=(s,0,x,[])from HRR.out);have e1:(x != 0)=true:=by simpa using hx
      have yJ:=zh hx;clear hn0 hcw pV mP kQ pU hkk pY hkp hbl pX hch hon;have eu:=zkc aB.out dQ;have mX:=zkc ik.out dQ;have s0:aR.cell? ⟨W.heap.size+1,0,none⟩=some (.slice A s.cells.length c):=zc eu rfl;have s1:aR.cell? ⟨W.heap.size+1,1,none⟩=some (.slice B s.tin.length d):=zc eu rfl;have s2:aR.cell? ⟨W.heap.size+1,2,none⟩=some (.slice D s.tout.length e):=zc eu rfl;have aZ:=zh (dB.out aR (zka aF.out dQ));have dD:=zh mX;have hbq:=dQ;clear eu mX;go_wp2_with fail;refine aZ.out.mono ?_;rintro e9 w9 ⟨v9,rfl,dV,aS⟩;obtain⟨A9,c9,B9,d9,D9,e9,rfl⟩:=dV.slices;have gu:=zh dV;have aH:=zh (zka hbq aS);have aL:=zkc dD.out aS;have x0:w9.cell? ⟨W.heap.size+3,0,none⟩=some (.slice none 0 0):=zc aL rfl;have x1:w9.cell? ⟨W.heap.size+3,1,none⟩=some (.slice none 0 0):=zc aL rfl
      have x2:w9.cell? ⟨W.heap.size+3,2,none⟩=some (.slice none 0 0):=zc aL rfl;have x3:w9.cell? ⟨W.heap.size+3,3,none⟩=some (.int .i64 0):=zc aL rfl;have x4:w9.cell? ⟨W.heap.size+3,4,none⟩=some (.int .i64 0):=zc aL rfl;have xf:∀o,w9.frozen? ⟨W.heap.size+3,o,none⟩=false:=fun _=>zf aL;have gy:=zh aL;have hbr:=bRes;have jC:W.heap.size+4<=aR.heap.size:=by have:=hbq.size;rw[ru.out]at this;exact this
      clear s0 s1 s2 aL dV aS hbq aZ;go_wp2_with fail;obtain⟨hh,hch⟩:=set5 (u0:=.slice A9 s.cells.length c9) (u1:=.slice B9 s.tin.length d9) (u2:=.slice D9 s.tout.length e9) (u3:=.int .i64 0) (u4:=.int .i64 x) gy.out;obtain⟨aV,df⟩:=zX ((((((w9.setCell ⟨W.heap.size+3,0,none⟩ (.slice A9 s.cells.length c9)).setCell ⟨W.heap.size+3,1,none⟩ (.slice B9 s.tin.length d9)).setCell ⟨W.heap.size+3,2,none⟩ (.slice D9 s.tout.length e9)).setCell ⟨W.heap.size+3,3,none⟩ (.int .i64 0)).setCell ⟨W.heap.size+3,4,none⟩ (.int .i64 x)));rw[df]at hh hch ⊢;have t0:aV.cell? ⟨W.heap.size+3,0,none⟩=some (.slice A9 s.cells.length c9):=zc hh rfl;have t1:aV.cell? ⟨W.heap.size+3,1,none⟩=some (.slice B9 s.tin.length d9):=zc hh rfl;have t2:aV.cell? ⟨W.heap.size+3,2,none⟩=some (.slice D9 s.tout.length e9):=zc hh rfl;have t3:aV.cell? ⟨W.heap.size+3,3,none⟩=some (.int .i64 0):=zc hh rfl
      have t4:aV.cell? ⟨W.heap.size+3,4,none⟩=some (.int .i64 x):=zc hh rfl;refine bodyPost_ret (v:=.tuple #[.slice none 0 0,.agg #[.slice A9 s.cells.length c9,.slice B9 s.tin.length d9,.slice D9 s.tout.length e9,.int .i64 0,.int .i64 x]]) (by simp[results,results57,go_sem,t0,t1,t2,t3,t4]) rfl ?_;rw[HX.out];exact⟨none,0,_,_,_,rfl,(gu.out.chg hch fun b hb=>by omega).lower (by omega),fun i hi=>absurd hi (by simp),zl,(zka aF.out aH.out).trans (hch.below (zka aF.out aH.out).size fun b hb=>by omega),oP.out,fun h=>by first|(simp at h;done)|exact absurd h yJ.out⟩
    ·right
     have bA:=HC.out;have jh:=HU.out;have hcc:(l7=true->l6=true)/\(l8=true->l7=true):=⟨bA.1,bA.2.1⟩
     refine⟨f-1,?_,?_,?_⟩
     ·clear HC bA HU jh ha ag hcc;subst hf;revert hall;revert l6 l7 l8 l9
      decide
     ·clear HC bA HU jh ha ag hf;revert hall hcc;revert l6 l7 l8 l9
      decide +kernel
     intro i hi;have hcase:(i=6/\l6=false/\l7=false/\l8=false)\/(i=7/\l7=false/\l6=true/\l8=false)\/(i=8/\l8=false/\l6=true/\l7=true)\/(i=9/\l9=false):=by
      refine of_decide_eq_true ((List.all_eq_true (p:=fun i=>decide ((i=6/\l6=false/\l7=false/\l8=false)\/(i=7/\l7=false/\l6=true/\l8=false)\/(i=8/\l8=false/\l6=true/\l7=true)\/(i=9/\l9=false)))).1 ?_ i hi);clear HC bA HU jh ha ag hf hi;revert hall hcc;revert l6 l7 l8 l9
      decide +kernel
     clear hi hall;subst ha hA;rcases hcase with⟨rfl,rfl,rfl,rfl⟩|⟨rfl,rfl,rfl,rfl⟩|⟨rfl,rfl,rfl,rfl⟩|⟨rfl,rfl⟩
     ·refine wpOp_step rfl (fun K' aa=>?_);have hK:=zh aa;clear aa;have hU1:=jh.1 rfl;have AV:=jh.2.1 rfl;have wW:=jh.2.2.1 rfl;subst hU1 AV wW;(try simp only[zQ]);go_simp;have hsz:=ag.out.size;exact hK.out _ _ ⟨true,false,false,l9,_,undef,undef,v12,wr.heap.size,0,pb,(by subst hf;simp<;>omega),rfl,(by simp only[zQ]),zh (zkb ag.out _),zh ⟨fun h=>(by cases h),fun h=>(by cases h),fun _=>⟨rfl,heap_alloc_new wr _,hsz⟩,fun h=>(by cases h),fun h=>(by cases h),fun h=>⟨(bA.2.2.2.2.2 h).1,zke (bA.2.2.2.2.2 h).2.1 _,(bA.2.2.2.2.2 h).2.2⟩⟩,zh ⟨fun h=>(by cases h),fun _=>rfl,fun _=>rfl,jh.2.2.2⟩⟩
     ·refine wpOp_step rfl (fun K' aa=>?_);have hK:=zh aa;clear aa;have AV:=jh.2.1 rfl;have wW:=jh.2.2.1 rfl;obtain⟨hv6,he,hel⟩:=bA.2.2.1 rfl;subst AV wW hv6;have hbn:=bRun;(try simp only[zQ]);go_simp;exact hK.out _ _ ⟨true,true,false,l9,_,_,undef,v12,eb,0,pb,(by subst hf;simp<;>omega),rfl,(by simp only[zQ]),ag,zh ⟨fun _=>rfl,fun h=>(by cases h),fun _=>⟨rfl,he,hel⟩,fun _=>rfl,fun h=>(by cases h),bA.2.2.2.2.2⟩,zh ⟨fun h=>(by cases h),fun h=>(by cases h),fun _=>rfl,jh.2.2.2⟩⟩
     ·refine wpOp_step rfl (fun K' aa=>?_);have hK:=zh aa;clear aa;have wW:=jh.2.2.1 rfl;obtain⟨hv6,he,hel⟩:=bA.2.2.1 rfl;have hv7:=bA.2.2.2.1 rfl;subst wW hv6 hv7;(try simp only[zQ]);go_simp;have hsz:=ag.out.size;exact hK.out _ _ ⟨true,true,true,l9,_,_,_,v12,eb,wr.heap.size,pb,(by subst hf;simp<;>omega),rfl,(by simp only[zQ]),zh (zkb ag.out _),zh ⟨fun _=>rfl,fun _=>rfl,fun _=>⟨rfl,zke he _,hel⟩,fun _=>rfl,fun _=>⟨rfl,heap_alloc_new wr _,hsz⟩,fun h=>⟨(bA.2.2.2.2.2 h).1,zke (bA.2.2.2.2.2 h).2.1 _,(bA.2.2.2.2.2 h).2.2⟩⟩,zh ⟨fun h=>(by cases h),fun h=>(by cases h),fun h=>(by cases h),jh.2.2.2⟩⟩
     ·refine wpOp_step rfl (fun K' aa=>?_);have hK:=zh aa;clear aa;have hU4:=jh.2.2.2 rfl;subst hU4;(try simp only[zQ]);go_simp;have hsz:=ag.out.size;exact hK.out _ _ ⟨l6,l7,l8,true,v43,v44,v45,_,eb,rb,wr.heap.size,(by subst hf;simp<;>omega),rfl,(by simp only[zQ]),zh (zkb ag.out _),zh ⟨bA.1,bA.2.1,fun h=>⟨(bA.2.2.1 h).1,zke (bA.2.2.1 h).2.1 _,(bA.2.2.1 h).2.2⟩,bA.2.2.2.1,fun h=>⟨(bA.2.2.2.2.1 h).1,zke (bA.2.2.2.2.1 h).2.1 _,(bA.2.2.2.2.1 h).2.2⟩,fun _=>⟨rfl,heap_alloc_new wr _,hsz⟩⟩,zh ⟨jh.1,jh.2.1,jh.2.2.1,fun h=>(by cases h)⟩⟩
  ·have HX:=zh (show Re=(s,0,3,[]) by rw[<-eD.out,resO,if_pos (.inr hn)]);obtain⟨n,hnn⟩:=zX (chkN p);rw[hnn];have hng:(0:Int)<(n:Int):=by omega
   clear hn hnn;have eu:=zkc aB.out nu;have mX:=zkc ik.out nu;have s0:w6.cell? ⟨W.heap.size+1,0,none⟩=some (.slice A s.cells.length c):=zc eu rfl;have s1:w6.cell? ⟨W.heap.size+1,1,none⟩=some (.slice B s.tin.length d):=zc eu rfl;have s2:w6.cell? ⟨W.heap.size+1,2,none⟩=some (.slice D s.tout.length e):=zc eu rfl;have aZ:=zh (dB.out w6 (zka aF.out nu));have dD:=zh mX;have hbq:=nu;clear eu mX;go_wp2_with fail;refine aZ.out.mono ?_;rintro e9 w9 ⟨v9,rfl,dV,aS⟩;obtain⟨A9,c9,B9,d9,D9,e9,rfl⟩:=dV.slices;have gu:=zh dV;have aH:=zh (zka hbq aS);have aL:=zkc dD.out aS;have x0:w9.cell? ⟨W.heap.size+3,0,none⟩=some (.slice none 0 0):=zc aL rfl;have x1:w9.cell? ⟨W.heap.size+3,1,none⟩=some (.slice none 0 0):=zc aL rfl;have x2:w9.cell? ⟨W.heap.size+3,2,none⟩=some (.slice none 0 0):=zc aL rfl;have x3:w9.cell? ⟨W.heap.size+3,3,none⟩=some (.int .i64 0):=zc aL rfl
   have x4:w9.cell? ⟨W.heap.size+3,4,none⟩=some (.int .i64 0):=zc aL rfl;have xf:∀o,w9.frozen? ⟨W.heap.size+3,o,none⟩=false:=fun _=>zf aL;have gy:=zh aL;have hbr:=bRes;have jC:W.heap.size+4<=w6.heap.size:=by have:=hbq.size;rw[ru.out]at this;exact this
   clear s0 s1 s2 aL dV aS hbq aZ;go_wp2_with fail;obtain⟨hh,hch⟩:=set5 (u0:=.slice A9 s.cells.length c9) (u1:=.slice B9 s.tin.length d9) (u2:=.slice D9 s.tout.length e9) (u3:=.int .i64 0) (u4:=.int .i64 3) gy.out;obtain⟨aV,df⟩:=zX ((((((w9.setCell ⟨W.heap.size+3,0,none⟩ (.slice A9 s.cells.length c9)).setCell ⟨W.heap.size+3,1,none⟩ (.slice B9 s.tin.length d9)).setCell ⟨W.heap.size+3,2,none⟩ (.slice D9 s.tout.length e9)).setCell ⟨W.heap.size+3,3,none⟩ (.int .i64 0)).setCell ⟨W.heap.size+3,4,none⟩ (.int .i64 3)));rw[df]at hh hch ⊢;have t0:aV.cell? ⟨W.heap.size+3,0,none⟩=some (.slice A9 s.cells.length c9):=zc hh rfl;have t1:aV.cell? ⟨W.heap.size+3,1,none⟩=some (.slice B9 s.tin.length d9):=zc hh rfl;have t2:aV.cell? ⟨W.heap.size+3,2,none⟩=some (.slice D9 s.tout.length e9):=zc hh rfl;have t3:aV.cell? ⟨W.heap.size+3,3,none⟩=some (.int .i64 0):=zc hh rfl
   have t4:aV.cell? ⟨W.heap.size+3,4,none⟩=some (.int .i64 3):=zc hh rfl;refine bodyPost_ret (v:=.tuple #[.slice none 0 0,.agg #[.slice A9 s.cells.length c9,.slice B9 s.tin.length d9,.slice D9 s.tout.length e9,.int .i64 0,.int .i64 3]]) (by simp[results,results57,go_sem,t0,t1,t2,t3,t4]) rfl ?_;rw[HX.out];exact⟨none,0,_,_,_,rfl,(gu.out.chg hch fun b hb=>by omega).lower (by omega),fun i hi=>absurd hi (by simp),zl,(zka aF.out aH.out).trans (hch.below (zka aF.out aH.out).size fun b hb=>by omega),oP.out,fun h=>by first|(simp at h;done)|exact absurd h yJ.out⟩
def FwP(W:World)(R:SS×Nat×Int×List Nat)(e:Ending)(W':World):Prop:=∃v1 v2 v3,e=.returned (.agg #[v1,v2,v3,.int .i64 (R.2.1:Int),.int .i64 R.2.2.1]) /\
 OwnS W' W.heap.size R.1 (.agg #[v1,v2,v3])/\Below W.heap.size W W'/\LimR R
theorem zrD(p:PG)(s:SS)(F:Int)(g:Nat)(v sv:Value)(W:World)(hp:PV W Any p v)(hs:SV W Any s sv)(hcl:s.cells.length<=5864062014800)(hF:I64 F)(eY:F<=1000000)(hg:F.toNat*2000+2000<=g)(hfam:Fam p) :
  Calls prog 21 #[v,sv,.int .i64 F] W (FwP W (resO p s F g false)):=by
 have nI:=zh hp;have HSX:=zh hs;obtain⟨A1,c1,A2,c2,A3,c3,rfl,dP⟩:=hp;obtain⟨A,c,B,d,D,e,rfl,hr1,hr2,hr3,hc1,hc2,hc3,hl1,hl2,hl3,hl4⟩:=hs;have HST:=zh (fun w' (hb:Below W.heap.size W w')=>ztL p s F g false _ _ w' (nI.out.later hb) (HSX.out.later hb) hcl hF eY hg hfam);have hb3:=zkb (zkb (zkb (zs W) (.cells #[.slice A1 p.vs.length c1,.slice A2 p.prs.length c2,.int .u8 p.m.k,.int .i64 p.m.n,.string p.m.s,.slice A3 p.m.ks.length c3] 43)) (.cells #[.slice A s.cells.length c,.slice B s.tin.length d,.slice D s.tout.length e] 32)) (.cells #[.slice none 0 0,.slice none 0 0,.slice none 0 0,.int .i64 0,.int .i64 0] 59)
 have k2:=heap_alloc_new ((W.alloc (.cells #[.slice A1 p.vs.length c1,.slice A2 p.prs.length c2,.int .u8 p.m.k,.int .i64 p.m.n,.string p.m.s,.slice A3 p.m.ks.length c3] 43)).alloc (.cells #[.slice A s.cells.length c,.slice B s.tin.length d,.slice D s.tout.length e] 32)) (.cells #[.slice none 0 0,.slice none 0 0,.slice none 0 0,.int .i64 0,.int .i64 0] 59);simp only[World.size_alloc]at k2;obtain⟨Re,hRe⟩:=zX (resO p s F g false);rw[hRe]at HST;have HR:=zh hRe;have HB3:=zh hb3;have aT:=zh k2;have hz3:W.heap.size+3<=(((W.alloc (.cells #[.slice A1 p.vs.length c1,.slice A2 p.prs.length c2,.int .u8 p.m.k,.int .i64 p.m.n,.string p.m.s,.slice A3 p.m.ks.length c3] 43)).alloc (.cells #[.slice A s.cells.length c,.slice B s.tin.length d,.slice D s.tout.length e] 32)).alloc (.cells #[.slice none 0 0,.slice none 0 0,.slice none 0 0,.int .i64 0,.int .i64 0] 59)).heap.size:=by simp
 rw[hRe];clear dP hr1 hr2 hr3 hRe hb3 k2 hl1 hl2 hl3 hl4 hc1 hc2 hc3;clear hfam;go_enter func21,ntmps21;go_wp2_with fail;refine(HST.out _ HB3.out).mono ?_;rintro e9 w9 ⟨A9,c9,v1,v2,v3,rfl,dV,-,-,aS,hlm9⟩;have oP:=zh hlm9;clear hlm9;obtain⟨A4,c4,B5,d5,D6,e6,h6⟩:=dV.slices;injection h6 with h6;injection h6 with h6;injection h6 with h6 h7;injection h7 with h7 h8;injection h8 with h8 _;subst h6 h7 h8;have gu:=zh dV;have aH:=zh aS;have aL:=zkc aT.out aS;have x0:w9.cell? ⟨W.heap.size+1+1,0,none⟩=some (.slice none 0 0):=zc aL rfl;have x1:w9.cell? ⟨W.heap.size+1+1,1,none⟩=some (.slice none 0 0):=zc aL rfl;have x2:w9.cell? ⟨W.heap.size+1+1,2,none⟩=some (.slice none 0 0):=zc aL rfl;have x3:w9.cell? ⟨W.heap.size+1+1,3,none⟩=some (.int .i64 0):=zc aL rfl;have x4:w9.cell? ⟨W.heap.size+1+1,4,none⟩=some (.int .i64 0):=zc aL rfl
 have xf:∀o,w9.frozen? ⟨W.heap.size+1+1,o,none⟩=false:=fun _=>zf aL;have y0:=fun o=>zks x0 o;have y1:=fun o=>zks x1 o;have y2:=fun o=>zks x2 o;have y3:=fun o=>zks x3 o;have y4:=fun o=>zks x4 o;have hlt9:W.heap.size+1+1<w9.heap.size:=zko aL;have gy:=zh aL;clear dV aS aL;go_wp2_with fail;obtain⟨hh,hch⟩:=set5 (u0:=.slice A4 Re.1.cells.length c4) (u1:=.slice B5 Re.1.tin.length d5) (u2:=.slice D6 Re.1.tout.length e6) (u3:=.int .i64 (Re.2.1:Int)) (u4:=.int .i64 Re.2.2.1) gy.out;obtain⟨aV,df⟩:=zX ((((((w9.setCell ⟨W.heap.size+1+1,0,none⟩ (.slice A4 Re.1.cells.length c4)).setCell ⟨W.heap.size+1+1,1,none⟩ (.slice B5 Re.1.tin.length d5)).setCell ⟨W.heap.size+1+1,2,none⟩ (.slice D6 Re.1.tout.length e6)).setCell ⟨W.heap.size+1+1,3,none⟩ (.int .i64 (Re.2.1:Int))).setCell ⟨W.heap.size+1+1,4,none⟩ (.int .i64 Re.2.2.1)));rw[df]at hh hch ⊢
 obtain⟨aR,gJ⟩:=zX (aV.alloc (.cells #[.slice A4 Re.1.cells.length c4,.slice B5 Re.1.tin.length d5,.slice D6 Re.1.tout.length e6,.int .i64 (Re.2.1:Int),.int .i64 Re.2.2.1] 59));rw[gJ];have t0:aR.cell? ⟨W.heap.size+1+1,0,none⟩=some (.slice A4 Re.1.cells.length c4):=gJ▸zks (zc hh rfl) _;have t1:aR.cell? ⟨W.heap.size+1+1,1,none⟩=some (.slice B5 Re.1.tin.length d5):=gJ▸zks (zc hh rfl) _;have t2:aR.cell? ⟨W.heap.size+1+1,2,none⟩=some (.slice D6 Re.1.tout.length e6):=gJ▸zks (zc hh rfl) _;have t3:aR.cell? ⟨W.heap.size+1+1,3,none⟩=some (.int .i64 (Re.2.1:Int)):=gJ▸zks (zc hh rfl) _;have t4:aR.cell? ⟨W.heap.size+1+1,4,none⟩=some (.int .i64 Re.2.2.1):=gJ▸zks (zc hh rfl) _
 refine bodyPost_ret (v:=.agg #[.slice A4 Re.1.cells.length c4,.slice B5 Re.1.tin.length d5,.slice D6 Re.1.tout.length e6,.int .i64 (Re.2.1:Int),.int .i64 Re.2.2.1]) (by simp[results,results21,go_sem,t0,t1,t2,t3,t4]) rfl ?_;have hz33:=hz3;have hb39:Below W.heap.size W w9:=zka HB3.out aH.out;have dW:Chg (fun b=>b=W.heap.size+1+1) w9 aR:=gJ▸hch.alloc _;have pG:=gu.out.chg dW fun b hb=>by omega
 have qc:=hb39.trans (dW.below hb39.size fun b hb=>by omega);exact⟨_,_,_,rfl,pG.lower (by omega),qc,oP.out⟩
theorem zlz(p:PG)(s:SS)(F:Int)(g:Nat)(v sv:Value)(W:World)(hp:PV W Any p v)(hs:SV W Any s sv)(hcl:s.cells.length<=5864062014800)(hF:I64 F)(eY:F<=1000000)(hg:F.toNat*2000+2000<=g) :
  Calls prog 21 #[v,sv,.int .i64 F] W (FwP W (resO p s F g false)):=zrD p s F g v sv W hp hs hcl hF eY hg (zyZ p)
section
variable {E:Prop} {Rl:Nat->ST->ST->Prop} {F F' k:Int} {o o':Out}
end
section
variable {S:ST} {l:List Int}
end
section
variable {ρ ρ':Nat->Nat->Prop} {f g:FR} {S S' S'':ST} {a b:Nat}
end
section
variable {S:ST}
end
section
variable {o:Out} {f:RS->Out} {r r':RS} {F:Int} {t:T}
end
section
variable {r r1 r':RS} {F:Int}
end
attribute [local go_sem] Oper.semAt_some
structure FrI(B:Nat)(w1 w:World):Prop where
 size:B<=w.heap.size
 same:∀b,b<B->w.heap[b]?=w1.heap[b]?
theorem FrI.keep{B:Nat}{w1 w w':World}(h:FrI B w1 w)(hs:w.heap.size<=w'.heap.size)(hk:∀b,b<B->w'.heap[b]?=w.heap[b]?):FrI B w1 w':=⟨Nat.le_trans h.size hs,fun b hb=>(hk b hb).trans (h.same b hb)⟩
theorem FrI.below{w1 w:World}{C:Nat->Prop}(h:FrI w1.heap.size w1 w)(hc:Chg C w1 w):Below w1.heap.size w1 w:=⟨hc.os,hc.tape,hc.output,hc.size,h.same⟩
def errE(p:PG)(F:Int)(s:SS):Int:=(resO p s F (F.toNat*2000+2000) false).2.2.1
theorem zp1{vs:List VD}{b:BX}(h:(b.ok&&svB vs)=true):∀x∈allS b (lenE vs b),x.Lim/\x.cells.length<=100:=by
 intro x hx;have h1:=(zp2 h x hx).sm;have h2:=zl2 h;have hn:=(zp2 h x hx).n;refine⟨⟨by have:=h1.n;unfold LI;omega,fun l hl=>by have:=(h1.c l hl).1;unfold LI;omega,by have:=h1.i.1;unfold LI;omega,by have:=h1.o.1;unfold LI;omega⟩,by have:=h2.2.1;omega⟩
theorem zo9:IsFn prog 21 Tryz.f21:=⟨func21,by kernel_rfl,by kernel_rfl⟩
theorem zyQ:IsFn prog 54 Tryz.f54:=⟨func54,by kernel_rfl,by kernel_rfl⟩
abbrev pgA(p:PG)(A1:Option Addr)(c1:Nat)(A2:Option Addr)(c2:Nat)(A3:Option Addr)(c3:Nat):Array Value := #[.slice A1 p.vs.length c1,.slice A2 p.prs.length c2,.int .u8 p.m.k,.int .i64 p.m.n,.string p.m.s,.slice A3 p.m.ks.length c3]
theorem beqI(a b:Int):(a==b)=decide (a=b):=by by_cases h:a=b<;>simp[h]
abbrev pgS(w':World)(b:Nat)(p:PG)(A1:Option Addr)(c1:Nat)(A2:Option Addr)(c2:Nat)(A3:Option Addr)(c3:Nat):Prop:=w'.cell? ⟨b,0,none⟩=some (.slice A1 p.vs.length c1)/\w'.cell? ⟨b,1,none⟩=some (.slice A2 p.prs.length c2)/\w'.cell? ⟨b,2,none⟩=some (.int .u8 p.m.k)/\w'.cell? ⟨b,3,none⟩=some (.int .i64 p.m.n)/\w'.cell? ⟨b,4,none⟩=some (.string p.m.s)/\w'.cell? ⟨b,5,none⟩=some (.slice A3 p.m.ks.length c3)
theorem zuM{W:World}{p:PG}{s:SS}{F e:Int}{bp bf be c1 c2 c3:Nat}{A1 A2 A3:Option Addr}{sv:Value}(hk:W.heap[bp]?=some (.cells (pgA p A1 c1 A2 c2 A3 c3) 43 (0,0)))(hp:PV W Any p (pv A1 p.vs.length c1 A2 p.prs.length c2 p.m.k p.m.n p.m.s A3 p.m.ks.length c3))(hf:W.heap[bf]?=some (.cells #[.int .i64 F] 3 (0,0)))
  (he:W.heap[be]?=some (.cells #[.int .i64 e] 48 (0,0)))(hs:SV W Any s sv)(hcl:s.cells.length<=100)(hF:I64 F)(eY:F<=1000000) :
  Calls prog 54 #[sv,.pointer (some ⟨bp,0,none⟩),.pointer (some ⟨bf,0,none⟩),.pointer (some ⟨be,0,none⟩)] W fun e' W'=>e'=.returned (.bool (decide (errE p F s=e)))/\Below W.heap.size W W':=by
 obtain⟨A,c,B,d,D,k,rfl⟩:∃A c B d D k,sv=.agg #[.slice A s.cells.length c,.slice B s.tin.length d,.slice D s.tout.length k]:=by
  obtain⟨A,c,B,d,D,k,rfl,-⟩:=hs;exact⟨_,_,_,_,_,_,rfl⟩
 have hkb:=heap_alloc_new W (.cells #[.slice A s.cells.length c,.slice B s.tin.length d,.slice D s.tout.length k] 32);have hb:=zkb (zs W) (.cells #[.slice A s.cells.length c,.slice B s.tin.length d,.slice D s.tout.length k] 32);obtain⟨w1,hw1⟩:=zX (W.alloc (.cells #[.slice A s.cells.length c,.slice B s.tin.length d,.slice D s.tout.length k] 32));obtain⟨N,hN⟩:=zX (W.heap.size);rw[hw1]at hkb hb;rw[hN]at hkb;have HB:=zh hb;have uO:=zh (zkc hk hb);have jN:=zh (zkc hf hb);have oQ:=zh (zkc he hb);have nR:=zh hkb;have HP:=zh (hp.later hb);have HS:=zh (hs.later hb);have HL:=zh (And.intro hcl (And.intro hF eY));clear hk hp hf he hs hcl hF eY hb hkb;go_enter func54,ntmps54;go_upto_region 1 with fail
 try rw[hw1]
 try rw[hN]
 clear hw1 hN;have az:=zh (show ∀w',Below w1.heap.size w1 w'->(fun w':World=>pgS w' bp p A1 c1 A2 c2 A3 c3/\stC w' N A s.cells.length c B s.tin.length d D s.tout.length k/\zv w' bf 0 (.int .i64 F)/\zv w' be 0 (.int .i64 e)) w' from fun w' hb=>⟨box6 (zkc uO.out hb),zkz (zkc nR.out hb),zc (zkc jN.out hb) rfl,zc (zkc oQ.out hb) rfl⟩);have hSS:zW (fun w':World=>pgS w' bp p A1 c1 A2 c2 A3 c3/\stC w' N A s.cells.length c B s.tin.length d D s.tout.length k/\zv w' bf 0 (.int .i64 F)/\zv w' be 0 (.int .i64 e)) zU w1.drew:=⟨az.out _ zr.drew,trivial⟩
 refine wp_region_noPanic ?_;refine zG hSS 8 ?_;refine zT 0 hSS ?_;refine zT 1 hSS ?_;refine zT 2 hSS ?_;refine zT 5 hSS ?_;refine zo 3 fun K hK=>?_;have hcon:=zlz p s F (F.toNat*2000+2000) _ _ w1.drew (HP.out.later zr.drew) (HS.out.later zr.drew) (by have:=HL.out.1;omega) HL.out.2.1 HL.out.2.2 zl;have xY:=zh (show errE p F s=(resO p s F (F.toNat*2000+2000) false).2.2.1 from rfl);generalize resO p s F (F.toNat*2000+2000) false=R at hcon xY;have had:Calls prog 21 [pv A1 p.vs.length c1 A2 p.prs.length c2 p.m.k p.m.n p.m.s A3 p.m.ks.length c3,.agg #[.slice A s.cells.length c,.slice B s.tin.length d,.slice D s.tout.length k],.int .i64 F].toArray w1.drew fun e' W'=>∃z,e'=.returned z/\(∃v1 v2 v3,z=.agg #[v1,v2,v3,.int .i64 (R.2.1:Int),.int .i64 R.2.2.1])/\Below w1.heap.size w1 W' :=
  hcon.mono fun e' W' ⟨v1,v2,v3,h1,h2,h3,h4⟩=>⟨_,h1,⟨v1,v2,v3,rfl⟩,zka (zs w1).drew h3⟩
 refine zkd (by rfl) (.func 21) [.tmp 6,.tmp 7,.tmp 8] _ (by rfl) 21 _ zo9 (by rfl) [pv A1 p.vs.length c1 A2 p.prs.length c2 p.m.k p.m.n p.m.s A3 p.m.ks.length c3,.agg #[.slice A s.cells.length c,.slice B s.tin.length d,.slice D s.tout.length k],.int .i64 F] (by rfl) _ had ?_;rintro z w2 ⟨⟨v1,v2,v3,rfl⟩,hb2⟩;have hS2:=zV hSS (az.out _ hb2) trivial;refine hK.out _ _ hS2 ?_;clear hK K had hcon hSS;(try simp only[zQ]);have hfl:∀w,(Instr.field 59 (.agg #[v1,v2,v3,.int .i64 (R.2.1:Int),.int .i64 R.2.2.1]) 2).run prog w=.ok (.int .i64 R.2.2.1) w:=fun w=>by kernel_rfl
 refine zT 4 hS2 ?_;refine zT 6 hS2 ?_;refine zT 7 hS2 ?_;refine zd ?_;refine NoPanic.normal ?_;have rU:=zh (zka HB.out hb2);clear hS2 hb2;go_wp2_with fail;go_ret;exact⟨by rw[xY.out];rw[beqI];rfl,rU.out⟩
theorem PV.pg{w:World}{S:Nat->Prop}{p:PG}{A1 A2 A3:Option Addr}{l1 c1 l2 c2 l3 c3:Nat}{k n:Int}{s:ByteArray}(h:PV w S p (pv A1 l1 c1 A2 l2 c2 k n s A3 l3 c3)):PgR w S p A1 c1 A2 c2 A3 c3:=by
 obtain⟨B1,d1,B2,d2,B3,d3,e,h⟩:=h;unfold pv at e;injection e with e;simp only[Array.mk.injEq,List.cons.injEq,and_true,Value.slice.injEq]at e;obtain⟨⟨rfl,-,rfl⟩,⟨rfl,-,rfl⟩,-,-,-,rfl,-,rfl⟩:=e;exact h
def FalP(r:SS×Nat×Bool)(W:World)(e:Ending)(W':World):Prop:=Below W.heap.size W W'/\∃v,e=.returned (.tuple #[v,.bool r.2.2])/\SV W' (fun q=>W.heap.size<=q) r.1 v
theorem zrE{W:World}{p:PG}{b:BX}{e F:Int}{v:Value}(hp:PV W Any p v)(hok:(b.ok&&svB p.vs)=true)(hm:(allS b (lenE p.vs b)).length<=1000000)(hF:I64 F)(eY:F<=1000000) :
  Calls prog 18 #[v,.int .i64 e,.agg #[.int .i64 b.v,.int .i64 b.l,.int .i64 b.i],.int .i64 F] W (FalP (fndE (fun s=>decide (errE p F s=e)) (allS b (lenE p.vs b))) W):=by
 obtain⟨A1,c1,A2,c2,A3,c3,rfl,-⟩:=id hp;obtain⟨bv,bl,bi⟩:=b;obtain⟨N,hN⟩:=zX (W.heap.size);have HN:=zh hN;obtain⟨hb1,hz1,k0,k1,k2,k3,k4⟩:=al5F W (.cells (pgA p A1 c1 A2 c2 A3 c3) 43) (.cells #[.int .i64 e] 48) (.cells #[.int .i64 bv,.int .i64 bl,.int .i64 bi] 24) (.cells #[.int .i64 F] 3) (.cells #[.slice none 0 0,.slice none 0 0,.slice none 0 0] 32);obtain⟨w1,hw1⟩:=zX (((((W.alloc (.cells (pgA p A1 c1 A2 c2 A3 c3) 43)).alloc (.cells #[.int .i64 e] 48)).alloc (.cells #[.int .i64 bv,.int .i64 bl,.int .i64 bi] 24)).alloc (.cells #[.int .i64 F] 3)).alloc (.cells #[.slice none 0 0,.slice none 0 0,.slice none 0 0] 32));rw[hw1]at hb1 hz1 k0 k1 k2 k3 k4;rw[hN]at hz1 k0 k1 k2 k3 k4;have HB1:=zh hb1;have HZ1:=zh hz1;have dR:=zh k4;have iD:=zh ((hp.keep (S':=fun q=>q<N+5) (fun q _ h=>by omega) fun _ _ _=>rfl).keep (w':=w1) (S':=fun q=>q<N+5) (fun _ h _=>h) fun q _ hlt=>hb1.block q hlt)
 have HT:=zh (show ztc 54 #[.pointer (some ⟨N,0,none⟩),.pointer (some ⟨N+3,0,none⟩),.pointer (some ⟨N+1,0,none⟩)] (fun _ s=>decide (errE p F s=e)) (allS ⟨bv,bl,bi⟩ (lenE p.vs ⟨bv,bl,bi⟩)) w1.heap.size (fun _=>FrI w1.heap.size w1)from by
  refine⟨fun n W W' h h1 h2=>h.keep h1 h2,fun n W h=>h.size,fun n s v W g hI hg hgs ho hx=>?_⟩;have hx2:=zp1 hok s (List.mem_of_getElem? hx);have hlt:∀q,q<N+5->W.heap[q]?=w1.heap[q]?:=fun q hq=>hI.same q (by omega);refine(zuM (e:=e) (F:=F) (p:=p) (s:=s) ((hlt N (by omega)).trans k0) (iD.out.keep (fun _ _ _=>trivial) fun q h _=>hlt q h) ((hlt (N+3) (by omega)).trans k3) ((hlt (N+1) (by omega)).trans k1) (ho.sv hx2.1) hx2.2 hF eY).mono ?_;rintro e' W' ⟨rfl,hb⟩;exact⟨rfl,hI.keep hb.size fun q hq=>hb.block q (Nat.lt_of_lt_of_le hq hI.size),Chg.of_below hb⟩)
 have bz:=zh (show Calls _ _ _ _ (FstP (fndE (fun s=>decide (errE p F s=e)) (allS ⟨bv,bl,bi⟩ (lenE p.vs ⟨bv,bl,bi⟩))) (fun _=>FrI w1.heap.size w1) w1)from zoH (W:=w1) (A1:=A1) (c1:=c1) (vs:=p.vs) (b:=⟨bv,bl,bi⟩) (iD.out.keep (S':=Any) (fun _ _ _=>trivial) fun _ _ _=>rfl).pg.vars hp.pg.lv hok hm zyQ HT.out ⟨zl,fun _ _=>rfl⟩);clear hp hb1 hz1 k1 k3 k4 hok hm HT;obtain⟨⟨s1,n1,ok1⟩,hr⟩:=zX (fndE (fun s=>decide (errE p F s=e)) (allS ⟨bv,bl,bi⟩ (lenE p.vs ⟨bv,bl,bi⟩)));rw[hr]at bz ⊢;clear hr;obtain⟨p0,p1,p2,p3,p4,p5⟩:=box6 k0;obtain⟨y0,y1,y2⟩:=zkz k2;have pI:∀(fn:Fn) (first cap:Array Value) (w:World),(Instr.makeFunc fn first cap).run prog w=.ok (.func fn first cap) w:=fun _ _ _ _=>rfl
 show Calls prog 18 #[pv A1 p.vs.length c1 A2 p.prs.length c2 p.m.k p.m.n p.m.s A3 p.m.ks.length c3,.int .i64 e,.agg #[.int .i64 bv,.int .i64 bl,.int .i64 bi],.int .i64 F] W _
 go_enter func18,ntmps18;go_wp2_with fail;simp only[Nat.add_assoc,Nat.reduceAdd];refine bz.out.mono ?_;rintro e' w2 ⟨v2,rfl,hs2,hi2,hc2⟩;have Af:=hs2;obtain⟨B1,d1,B2,d2,B3,d3,rfl,-⟩:=Af;have hb2:=hi2.below hc2;have hb3:=zkb hb2 (.cells #[.slice B1 s1.cells.length d1,.slice B2 s1.tin.length d2,.slice B3 s1.tout.length d3] 32);have k10:=heap_alloc_new w2 (.cells #[.slice B1 s1.cells.length d1,.slice B2 s1.tin.length d2,.slice B3 s1.tout.length d3] 32);have k8:=zkc (dR.out) hb3;have hs3:=hs2.later (zkb (zs w2) (.cells #[.slice B1 s1.cells.length d1,.slice B2 s1.tin.length d2,.slice B3 s1.tout.length d3] 32));obtain⟨w3,hw3⟩:=zX (w2.alloc (.cells #[.slice B1 s1.cells.length d1,.slice B2 s1.tin.length d2,.slice B3 s1.tout.length d3] 32));rw[hw3]at hb3 k10 k8 hs3;obtain⟨x0,x1,x2⟩:=zkz k10;obtain⟨q0,q1,q2⟩:=zkz k8;have cf:∀o,w3.frozen? ⟨N+4,o,none⟩=false:=fun o=>zf k8
 obtain⟨w9,dJ,bI,fT⟩:=st3 (.slice B1 s1.cells.length d1) (.slice B2 s1.tin.length d2) (.slice B3 s1.tout.length d3) k8;have xB:=zh (hs3.keep (S':=fun q=>W.heap.size<=q) (fun q h _=>by have:=HZ1.out;have:=HN.out;omega) fun q h _=>bI.block q ‹_› (fun e=>by have e:q=N+4:=e;have:=HZ1.out;omega));have xR:=zh fT;have aH:=zh (((HB1.out).trans (hb3.mono HB1.out.size)).trans (bI.below (by have:=HB1.out.size;have:=hb3.size;omega) fun q e=>by have e:q=N+4:=e;have:=HN.out;omega));clear hs2 hi2 hc2 hb2 hb3 k10 k8 hs3 bI fT y0 y1 y2 p0 p1 p2 p3 p4 p5;go_wp2_with fail;obtain⟨t0,t1,t2⟩:=zkz xR.out;exact bodyPost_ret (v:=.tuple #[.agg #[.slice B1 s1.cells.length d1,.slice B2 s1.tin.length d2,.slice B3 s1.tout.length d3],.bool ok1]) (by simp[results,results18,go_sem,t0,t1,t2]) rfl ⟨aH.out,_,rfl,xB.out⟩
end
section
open Go Go.RowKit
attribute [local go_sem] Oper.semAt_some
theorem bldR{w:World}{N0 n:Nat}{P:Nat->Prop}{C:Nat->Prop}{ls:List (List Int)}{us:List Value}(hN:N0<=w.heap.size)(hl:us.length=n)(hn:ls.length=n)
  (hs:∀k (hk:k<ls.length) (hv:k<us.length),∃A c,us[k]=.slice A ls[k].length c/\ls[k].length<=c/\RowI w (fun q=>q<N0) A ls[k])(hm:n<=1000000) :
  Chg C w (w.alloc (.cells us.toArray 30))/\(∀b,(Value.slice (some ⟨w.heap.size,0,none⟩) n n).ownBlock=some b->(w.heap.size<=b\/P b)/\b<(w.alloc (.cells us.toArray 30)).heap.size) /\
   zkr (w.alloc (.cells us.toArray 30)) N0 (fun q=>q<N0) (.slice (some ⟨w.heap.size,0,none⟩) n n) ls :=
 ⟨Chg.of_below (zkb zr _),fun b hb=>by
  injection hb with hb;have hb:w.heap.size=b:=hb;rw[World.size_alloc];exact⟨.inl (by omega),by omega⟩,zkr.built hN hl hn (fun q h=>by have:q<N0:=h;omega) hs hm⟩
theorem zKy{w:World}{S:Nat->Prop}{s:SS}{v:Value}(h:SV w S s v):∀l∈s.cells++[s.tin,s.tout],l.length<=17592186044416:=by
 obtain⟨A,c,B,d,D,e,rfl,a1,a2,a3,a4,a5,a6,a7,a8,a9,a10⟩:=h;intro l hl;simp only[List.mem_append,List.mem_cons,List.not_mem_nil,or_false]at hl;rcases hl with hl|rfl|rfl
 ·exact a8 l hl
 ·exact a9
 ·exact a10
end
section
open Go Go.RowKit
theorem zKx(s1 s2:ByteArray)(k1 k2 n1 n2:Int)(w:World):(Op.equalIn 10000 57 (.agg #[.string s1,.int .u8 k1,.int .i64 n1]) (.agg #[.string s2,.int .u8 k2,.int .i64 n2])).run prog w=.ok (s1.toList==s2.toList&&k1==k2&&n1==n2) w:=by
 have hS:prog.underlying 57=some (.struct (prog.fieldsOf 57)):=by kernel_rfl
 have hp:prog.stoodInHeld 57=false:=by kernel_rfl
 rw[show(10000:Nat)=9999+1 from rfl,run_equalIn_agg w 9999 57 _ _ hS hp];simp only[Program.fieldsOf,underlying57];go_simp;by_cases h1:s1.toList=s2.toList<;>by_cases h2:k1=k2<;>by_cases h3:n1=n2<;>simp[h1,h2,h3]
def eqV(u v:VD):Bool:=decide (u.s=v.s)&&decide (u.k=v.k)&&decide (u.n=v.n)
def eqVs:List VD->List VD->Bool
 | [],[]=>true
 | u::us,v::vs=>eqV u v&&eqVs us vs
 | _,_=>false
theorem zpT{u v:VD}:eqV u v=true↔u=v:=by
 obtain⟨a,b,c⟩:=u;obtain⟨d,e,f⟩:=v;simp[eqV,and_assoc]
theorem zm9:∀ {us vs:List VD},eqVs us vs=true↔us=vs
 | [],[]=>by simp[eqVs]
 | u::us,v::vs=>by simp[eqVs,zpT,zm9 (us:=us) (vs:=vs)]
 | [],_::_=>by simp[eqVs]
 | _::_,[]=>by simp[eqVs]
theorem zsF(s1 s2:ByteArray):(s1.toList==s2.toList)=decide (s1=s2):=by
 rw[ByteArray.toList_eq,ByteArray.toList_eq];obtain⟨⟨x⟩⟩:=s1;obtain⟨⟨y⟩⟩:=s2;by_cases h:x=y
 ·subst h;simp
 ·simp[h]
theorem zzA(s1 s2:ByteArray)(k1 k2 n1 n2:Int)(w:World):(binOp BinOp.neq 57 (.agg #[.string s1,.int .u8 k1,.int .i64 n1]) (.agg #[.string s2,.int .u8 k2,.int .i64 n2])).run prog w=.ok (.bool (!eqV ⟨s1,k1,n1⟩ ⟨s2,k2,n2⟩)) w:=by
 rw[run_neq_struct,zKx];simp only[Result.andThen_ok,zsF,eqV];congr 3
theorem ztz(x y:Operand)(xs ys:Array Value)(w:World):(eqGuard BinOp.neq 57 x y (.agg xs) (.agg ys)).run prog w=.ok () w:=run_eqGuard_agg w _ _ x y xs ys (by kernel_rfl)
theorem zzy{vs us:List VD}{j:Nat}(h1:j<vs.length)(h2:j<us.length)(h:eqV vs[j] us[j]=false):eqVs vs us=false:=by
 cases e:eqVs vs us with
 | false=>rfl
 | true =>
  have e:=zm9.1 e;subst e;rw[zpT.2 rfl]at h
  cases h
theorem zxE{vs us:List VD}(h:vs.length≠us.length):eqVs vs us=false:=by
 cases e:eqVs vs us with
 | false=>rfl
 | true=>exact absurd (by rw[zm9.1 e]) h
theorem zzz{vs us:List VD}(hl:vs.length=us.length)(h:∀k (h1:k<vs.length) (h2:k<us.length),vs[k]=us[k]):eqVs vs us=true:=zm9.2 (List.ext_getElem hl fun i h1 h2=>h i h1 h2)
theorem zzo{W:World}{vs us:List VD}{A B:Option Addr}{c d:Nat}(h1:RowV W Any A vs)(h2:RowV W Any B us)(hl:vs.length<=LV)(hk:us.length<=LV) :
  Calls prog 58 #[.slice A vs.length c,.slice B us.length d] W fun e W'=>e=.returned (.bool (eqVs vs us))/\Below W.heap.size W W':=by
 have H1:=zh h1;have H2:=zh h2;have hl1:=zkZ hl;have hl2:=zkZ hk;clear h1 h2 hl hk;have hneq:=zzA;have hgd:=ztz;obtain⟨n,hn⟩:=zX (vs.length);obtain⟨m,hm⟩:=zX (us.length);have HN:=zh (And.intro hn hm);rw[hn]at hl1 ⊢;rw[hm]at hl2 ⊢;clear hn hm;obtain⟨R,hR⟩:=zX (eqVs vs us);have HR:=zh hR;rw[hR];clear hR;go_enter func58,ntmps58;by_cases hnm:n=m;rotate_left 1
 ·have e0:((n:Int) != (m:Int))=true:=by simp;omega
  go_wp2_with fail;go_ret;exact⟨by rw[<-HR.out,zxE (by have:=HN.out;omega)];rfl,zr⟩
 subst hnm;go_wp2_with fail
 go_loopw [13] (fun i wr=>∃j:Nat,j<=n/\i=.int .i64 j/\Hid (Below W.heap.size W wr)/\Hid (∀k (h1:k<vs.length) (h2:k<us.length),k<j->vs[k]=us[k])) (fun i _=>n-(intOf i).toNat)
 case atStart=>exact⟨0,by omega,rfl,zh zr,zh fun k _ _ h=>by omega⟩
 case round =>
  obtain⟨j,hj,rfl,HB,HE⟩:=hrel;by_cases hlt:j<n
  ·have hj1:(j:Int)<(n:Int):=by omega
   have hj0:(0:Int)<=(j:Int):=by omega
   have bR:j<vs.length:=by rw[HN.out.1];exact hlt
   have wT:j<us.length:=by rw[HN.out.2];exact hlt
   obtain⟨a,v,rfl,-,hv,⟨x0,x1,x2⟩,-⟩:=(H1.out.later HB.out).nd bR;obtain⟨b,u,rfl,-,hu,⟨y0,y1,y2⟩,-⟩:=(H2.out.later HB.out).nd wT;obtain⟨v0,v1,v2⟩:=v;obtain⟨u0,u1,u2⟩:=u;simp only at x0 x1 x2 y0 y1 y2;have hvv:=hv.out;have jB:=hu.out;obtain⟨t,ht⟩:=zX (eqV ⟨v0,v1,v2⟩ ⟨u0,u1,u2⟩);have hnn:=fun w=>(hneq v0 u0 v1 u1 v2 u2 w).trans (by rw[ht]);have HT:=zh (show eqV vs[j] us[j]=t by rw[hvv,jB];exact ht);have HJ:=zh (And.intro bR wT);clear ht hneq hv hu hvv jB
   cases t
   ·go_upto_region 6 with fail
    go_quiet (fail)
    have cB:=zh (zkm HB.out nq);go_wp2_with fail;go_ret;exact⟨by rw[<-HR.out,zzy HJ.out.1 HJ.out.2 HT.out];rfl,cB.out⟩
   ·go_upto_region 6 with fail
    go_quiet (fail)
    have cB:=zh (zkm HB.out nq);go_wp2_with fail
    go_roundw
    case rel =>
     refine⟨j+1,by omega,by go_num,cB,zh fun k h1 h2 hk=>?_⟩;by_cases e:k<j
     ·exact HE.out k h1 h2 e
     ·obtain rfl:k=j:=by omega
      exact zpT.1 HT.out
    case measure=>simp[intOf];omega
  ·obtain rfl:j=n:=by omega
   have hj1:¬ (j:Int)<(j:Int):=by omega
   go_wp2_with fail;go_ret;exact⟨by rw[<-HR.out,zzz (by have:=HN.out;omega) fun k h1 h2=>HE.out k h1 h2 (by have:=HN.out;omega)];rfl,HB.out⟩
theorem zxk{W:World}{vs us:List VD}{A B:Option Addr}{c d:Nat}(h1:RowV W Any A vs)(h2:RowV W Any B us)(hl:vs.length<=LV)(hk:us.length<=LV) :
  Calls prog 20 #[.slice A vs.length c,.slice B us.length d] W fun e W'=>e=.returned (.bool (eqVs vs us))/\Below W.heap.size W W':=by
 have H1:=zh h1;have H2:=zh h2;have hl1:=zkZ hl;have hl2:=zkZ hk;clear h1 h2 hl hk;have hneq:=zzA;have hgd:=ztz;obtain⟨n,hn⟩:=zX (vs.length);obtain⟨m,hm⟩:=zX (us.length);have HN:=zh (And.intro hn hm);rw[hn]at hl1 ⊢;rw[hm]at hl2 ⊢;clear hn hm;obtain⟨R,hR⟩:=zX (eqVs vs us);have HR:=zh hR;rw[hR];clear hR;go_enter func20,ntmps20;by_cases hnm:n=m;rotate_left 1
 ·have e0:((n:Int) != (m:Int))=true:=by simp;omega
  go_wp2_with fail;go_ret;exact⟨by rw[<-HR.out,zxE (by have:=HN.out;omega)];rfl,zr⟩
 subst hnm;go_wp2_with fail
 go_loopw [5] (fun i wr=>∃j:Nat,j<=n/\i=.int .i64 j/\Hid (Below W.heap.size W wr)/\Hid (∀k (h1:k<vs.length) (h2:k<us.length),k<j->vs[k]=us[k])) (fun i _=>n-(intOf i).toNat)
 case atStart=>exact⟨0,by omega,rfl,zh zr,zh fun k _ _ h=>by omega⟩
 case round =>
  obtain⟨j,hj,rfl,HB,HE⟩:=hrel;by_cases hlt:j<n
  ·have hj1:(j:Int)<(n:Int):=by omega
   have hj0:(0:Int)<=(j:Int):=by omega
   have bR:j<vs.length:=by rw[HN.out.1];exact hlt
   have wT:j<us.length:=by rw[HN.out.2];exact hlt
   obtain⟨a,v,rfl,-,hv,⟨x0,x1,x2⟩,-⟩:=(H1.out.later HB.out).nd bR;obtain⟨b,u,rfl,-,hu,⟨y0,y1,y2⟩,-⟩:=(H2.out.later HB.out).nd wT;obtain⟨v0,v1,v2⟩:=v;obtain⟨u0,u1,u2⟩:=u;simp only at x0 x1 x2 y0 y1 y2;have hvv:=hv.out;have jB:=hu.out;obtain⟨t,ht⟩:=zX (eqV ⟨v0,v1,v2⟩ ⟨u0,u1,u2⟩);have hnn:=fun w=>(hneq v0 u0 v1 u1 v2 u2 w).trans (by rw[ht]);have HT:=zh (show eqV vs[j] us[j]=t by rw[hvv,jB];exact ht);have HJ:=zh (And.intro bR wT);clear ht hneq hv hu hvv jB
   cases t
   ·go_upto_region 6 with fail
    go_quiet (fail)
    have cB:=zh (zkm HB.out nq);go_wp2_with fail;go_ret;exact⟨by rw[<-HR.out,zzy HJ.out.1 HJ.out.2 HT.out];rfl,cB.out⟩
   ·go_upto_region 6 with fail
    go_quiet (fail)
    have cB:=zh (zkm HB.out nq);go_wp2_with fail
    go_roundw
    case rel =>
     refine⟨j+1,by omega,by go_num,cB,zh fun k h1 h2 hk=>?_⟩;by_cases e:k<j
     ·exact HE.out k h1 h2 e
     ·obtain rfl:k=j:=by omega
      exact zpT.1 HT.out
    case measure=>simp[intOf];omega
  ·obtain rfl:j=n:=by omega
   have hj1:¬ (j:Int)<(j:Int):=by omega
   go_wp2_with fail;go_ret;exact⟨by rw[<-HR.out,zzz (by have:=HN.out;omega) fun k h1 h2=>HE.out k h1 h2 (by have:=HN.out;omega)];rfl,HB.out⟩
section
variable {P:Program} {md:Region.Mode} {ops:Array Oper} {Q:Exit->Act->World->Prop} {S1 S2:World->Prop} {k:Nat}
theorem zrI{i j1 j2:Nat}{oi o1 o2:Oper}(si s1 s2:Option Nat)(n:Nat)(L:Bool->Bool->Bool->Array Bool)(a0:Act)(Inv:World->Prop)(J:Bool->Bool->Value->Value->World->Prop)(Fact:Value->World->Prop)
  (hoi:ops[i]?=some oi)(ho1:ops[j1]?=some o1)(ho2:ops[j2]?=some o2)(hdi:oi.dst=si)(hd1:o1.dst=s1)(hd2:o2.dst=s2)
  (h00:Region.ready md ops (L false false false)=[i,j1,j2])(h01:Region.ready md ops (L false false true)=[i,j1])(h10:Region.ready md ops (L false true false)=[i,j2])(h11:Region.ready md ops (L false true true)=[i])
  (hLi:∀la lb,(L false la lb).setIfInBounds i true=L true la lb)(hL1:∀lb,(L false false lb).setIfInBounds j1 true=L false true lb)(hL2:∀la,(L false la false).setIfInBounds j2 true=L false la true)
  (hS:∀w,Inv w->S1 w/\S2 w)(hInv:∀w w',Inv w->Below w.heap.size w w'->Inv w')(hJ:∀la lb u v w w',J la lb u v w->Below w.heap.size w w'->J la lb u v w')
  (hi:∀(u v:Value) (K:Act->World->Prop) (w:World),Inv w->Shut (∀x w',Below w.heap.size w w'->Fact x w'->K (((a0.put s1 u).put s2 v).put si x) w')->if Region.wanted oi (yielded ops ((a0.put s1 u).put s2 v).tmps)=true then Oper.wp P oi ((a0.put s1 u).put s2 v) w K Q else K (((a0.put s1 u).put s2 v).put si undef) w)
  (h1:∀(lb:Bool) (u v:Value) (K:Act->World->Prop) (w:World),Inv w->J false lb u v w->Shut (∀x w',Below w.heap.size w w'->J true lb x v w'->K (((a0.put s1 u).put s2 v).put s1 x) w')->if Region.wanted o1 (yielded ops ((a0.put s1 u).put s2 v).tmps)=true then Oper.wp P o1 ((a0.put s1 u).put s2 v) w K Q else K (((a0.put s1 u).put s2 v).put s1 undef) w)
  (h2:∀(la:Bool) (u v:Value) (K:Act->World->Prop) (w:World),Inv w->J la false u v w->Shut (∀x w',Below w.heap.size w w'->J la true u x w'->K (((a0.put s1 u).put s2 v).put s2 x) w')->if Region.wanted o2 (yielded ops ((a0.put s1 u).put s2 v).tmps)=true then Oper.wp P o2 ((a0.put s1 u).put s2 v) w K Q else K (((a0.put s1 u).put s2 v).put s2 undef) w)
  (hp1:∀u v x,((a0.put s1 u).put s2 v).put s1 x=(a0.put s1 x).put s2 v)(hp2:∀u v x,((a0.put s1 u).put s2 v).put s2 x=(a0.put s1 u).put s2 x)
  (hc:∀(la lb:Bool) (u v x:Value) (w:World),Inv w->Fact x w->J la lb u v w->wpG P md ops Q S1 S2 k (n+(!la).toNat+(!lb).toNat) (L true la lb) (((a0.put s1 u).put s2 v).put si x) w) :
  ∀(la lb:Bool) (u v:Value) (w:World),Inv w->J la lb u v w->(a0.put s1 u).put s2 v=a0->wpG P md ops Q S1 S2 k (n+1+(!la).toNat+(!lb).toNat) (L false la lb) a0 w:=by
 subst hdi hd1 hd2;have hmem:∀la lb q,q∈Region.ready md ops (L false la lb)->q=i\/(q=j1/\la=false)\/(q=j2/\lb=false):=by
  intro la lb q hq
  cases la<;>cases lb
  ·rw[h00]at hq;simp at hq;rcases hq with h|h|h<;>simp[h]
  ·rw[h01]at hq;simp at hq;rcases hq with h|h<;>simp[h]
  ·rw[h10]at hq;simp at hq;rcases hq with h|h<;>simp[h]
  ·rw[h11]at hq;simp at hq;simp[hq]
 have hne:∀la lb,Region.ready md ops (L false la lb)≠[]:=by
  intro la lb
  cases la<;>cases lb
  ·rw[h00];simp
  ·rw[h01];simp
  ·rw[h10];simp
  ·rw[h11];simp
 let Pp:Bool->Bool->Prop:=fun la lb=>∀(u v:Value) (w:World),Inv w->J la lb u v w->wpG P md ops Q S1 S2 k (n+1+(!la).toNat+(!lb).toNat) (L false la lb) ((a0.put o1.dst u).put o2.dst v) w
 have step:∀la lb,(la=false->Pp true lb)->(lb=false->Pp la true)->Pp la lb:=by
  intro la lb ia ib u v w hI hj;rw[show n+1+(!la).toNat+(!lb).toNat=(n+(!la).toNat+(!lb).toNat)+1 by omega];refine⟨(fun h0=>absurd h0 (hne la lb)),fun q hq=>?_⟩;rcases hmem la lb q hq with rfl|⟨rfl,rfl⟩|⟨rfl,rfl⟩
  ·refine wpOp_step hoi fun K' hK=>hi u v K' w hI ?_;intro x w' hbl hF;have hI':=hInv _ _ hI hbl;refine hK _ _ ⟨⟨(hS _ hI').1,fun _=>(hS _ hI').2⟩,?_⟩;rw[hLi];exact hc la lb u v x w' hI' hF (hJ _ _ _ _ _ _ hj hbl)
  ·refine wpOp_step ho1 fun K' hK=>h1 lb u v K' w hI hj ?_;intro x w' hbl hF;have hI':=hInv _ _ hI hbl;refine hK _ _ ⟨⟨(hS _ hI').1,fun _=>(hS _ hI').2⟩,?_⟩;rw[hL1,hp1];have:=ia rfl x v w' hI' hF;simpa using this
  ·refine wpOp_step ho2 fun K' hK=>h2 la u v K' w hI hj ?_;intro x w' hbl hF;have hI':=hInv _ _ hI hbl;refine hK _ _ ⟨⟨(hS _ hI').1,fun _=>(hS _ hI').2⟩,?_⟩;rw[hL2,hp2];have:=ib rfl u x w' hI' hF;have e:n+1+(!la).toNat+(!true).toNat=n+(!la).toNat+(!false).toNat:=by simp;omega
   rw[e]at this;exact this
 have wH:Pp true true:=step _ _ (fun h=>by cases h) (fun h=>by cases h);have zt:Pp true false:=step _ _ (fun h=>by cases h) (fun _=>wH);have zu:Pp false true:=step _ _ (fun _=>wH) (fun h=>by cases h);have pff:Pp false false:=step _ _ (fun _=>zt) (fun _=>zu);intro la lb u v w hI hj he;have:Pp la lb:=by cases la<;>cases lb<;>assumption
 rw[<-he];exact this u v w hI hj
theorem ztx{j1 j2:Nat}{o1 o2:Oper}(s1 s2:Option Nat)(n:Nat)(L:Bool->Bool->Array Bool)(a0:Act)(Inv:World->Prop)(J:Bool->Bool->Value->Value->World->Prop)
  (ho1:ops[j1]?=some o1)(ho2:ops[j2]?=some o2)(hd1:o1.dst=s1)(hd2:o2.dst=s2)
  (h00:Region.ready md ops (L false false)=[j1,j2])(h01:Region.ready md ops (L false true)=[j1])(h10:Region.ready md ops (L true false)=[j2])
  (hL1:∀lb,(L false lb).setIfInBounds j1 true=L true lb)(hL2:∀la,(L la false).setIfInBounds j2 true=L la true)
  (hS:∀w,Inv w->S1 w/\S2 w)(hInv:∀w w',Inv w->Below w.heap.size w w'->Inv w')
  (h1:∀(lb:Bool) (u v:Value) (K:Act->World->Prop) (w:World),Inv w->J false lb u v w->Shut (∀x w',Below w.heap.size w w'->J true lb x v w'->K (((a0.put s1 u).put s2 v).put s1 x) w')->if Region.wanted o1 (yielded ops ((a0.put s1 u).put s2 v).tmps)=true then Oper.wp P o1 ((a0.put s1 u).put s2 v) w K Q else K (((a0.put s1 u).put s2 v).put s1 undef) w)
  (h2:∀(la:Bool) (u v:Value) (K:Act->World->Prop) (w:World),Inv w->J la false u v w->Shut (∀x w',Below w.heap.size w w'->J la true u x w'->K (((a0.put s1 u).put s2 v).put s2 x) w')->if Region.wanted o2 (yielded ops ((a0.put s1 u).put s2 v).tmps)=true then Oper.wp P o2 ((a0.put s1 u).put s2 v) w K Q else K (((a0.put s1 u).put s2 v).put s2 undef) w)
  (hp1:∀u v x,((a0.put s1 u).put s2 v).put s1 x=(a0.put s1 x).put s2 v)(hp2:∀u v x,((a0.put s1 u).put s2 v).put s2 x=(a0.put s1 u).put s2 x)
  (hc:∀(u v:Value) (w:World),Inv w->J true true u v w->wpG P md ops Q S1 S2 k n (L true true) ((a0.put s1 u).put s2 v) w) :
  ∀(la lb:Bool) (u v:Value) (w:World),Inv w->J la lb u v w->(a0.put s1 u).put s2 v=a0->wpG P md ops Q S1 S2 k (n+(!la).toNat+(!lb).toNat) (L la lb) a0 w:=by
 subst hd1 hd2
 let Pp:Bool->Bool->Prop:=fun la lb=>∀(u v:Value) (w:World),Inv w->J la lb u v w->wpG P md ops Q S1 S2 k (n+(!la).toNat+(!lb).toNat) (L la lb) ((a0.put o1.dst u).put o2.dst v) w
 have wH:Pp true true:=fun u v w hI hj=>hc u v w hI hj;have s1:∀lb (u v:Value) (w:World),Inv w->J false lb u v w->Pp true lb->wpOp P ops Q j1 (fun a' w'=>(S1 w'/\(((L false lb).setIfInBounds j1 true).getD k true=false->S2 w'))/\wpG P md ops Q S1 S2 k (n+(!lb).toNat) ((L false lb).setIfInBounds j1 true) a' w') ((a0.put o1.dst u).put o2.dst v) w:=by
  intro lb u v w hI hj hP;refine wpOp_step ho1 fun K' hK=>h1 lb u v K' w hI hj ?_;intro x w' hbl hF;have hI':=hInv _ _ hI hbl;refine hK _ _ ⟨⟨(hS _ hI').1,fun _=>(hS _ hI').2⟩,?_⟩;rw[hL1,hp1];have:=hP x v w' hI' hF;simpa using this
 have s2:∀la (u v:Value) (w:World),Inv w->J la false u v w->Pp la true->wpOp P ops Q j2 (fun a' w'=>(S1 w'/\(((L la false).setIfInBounds j2 true).getD k true=false->S2 w'))/\wpG P md ops Q S1 S2 k (n+(!la).toNat) ((L la false).setIfInBounds j2 true) a' w') ((a0.put o1.dst u).put o2.dst v) w:=by
  intro la u v w hI hj hP;refine wpOp_step ho2 fun K' hK=>h2 la u v K' w hI hj ?_;intro x w' hbl hF;have hI':=hInv _ _ hI hbl;refine hK _ _ ⟨⟨(hS _ hI').1,fun _=>(hS _ hI').2⟩,?_⟩;rw[hL2,hp2];have:=hP u x w' hI' hF;simpa using this
 have zu:Pp false true:=fun u v w hI hj=>by
  show wpG P md ops Q S1 S2 k (n+1+0) _ _ w
  refine⟨(fun h0=>by rw[h01]at h0;cases h0),fun q hq=>?_⟩;rw[h01]at hq;simp only[List.mem_singleton]at hq;subst hq;exact s1 true u v w hI hj wH
 have zt:Pp true false:=fun u v w hI hj=>by
  show wpG P md ops Q S1 S2 k (n+0+1) _ _ w
  refine⟨(fun h0=>by rw[h10]at h0;cases h0),fun q hq=>?_⟩;rw[h10]at hq;simp only[List.mem_singleton]at hq;subst hq;exact s2 true u v w hI hj wH
 have pff:Pp false false:=fun u v w hI hj=>by
  show wpG P md ops Q S1 S2 k (n+1+1) _ _ w
  refine⟨(fun h0=>by rw[h00]at h0;cases h0),fun q hq=>?_⟩;rw[h00]at hq;simp only[List.mem_cons,List.not_mem_nil,or_false]at hq;rcases hq with rfl|rfl
  ·exact s1 false u v w hI hj zt
  ·exact s2 false u v w hI hj zu
 intro la lb u v w hI hj he;have:Pp la lb:=by cases la<;>cases lb<;>assumption
 rw[<-he];exact this u v w hI hj
end
def J2(o:Obj)(n:Nat)(la lb:Bool)(u v:Value)(w:World):Prop :=
 (la=true->∃b,u=.pointer (some ⟨b,0,none⟩)/\n<=b/\w.heap[b]?=some o)/\(lb=true->∃b,v=.pointer (some ⟨b,0,none⟩)/\n<=b/\w.heap[b]?=some o)/\(la=true->lb=true->u≠v)
theorem J2.later{o:Obj}{n:Nat}{la lb:Bool}{u v:Value}{w w':World}(h:J2 o n la lb u v w)(hb:Below w.heap.size w w'):J2 o n la lb u v w':=by
 obtain⟨h1,h2,h3⟩:=h;refine⟨fun e=>?_,fun e=>?_,h3⟩
 ·obtain⟨b,e1,e2,e3⟩:=h1 e;exact⟨b,e1,e2,zkc e3 hb⟩
 ·obtain⟨b,e1,e2,e3⟩:=h2 e;exact⟨b,e1,e2,zkc e3 hb⟩
theorem J2.one{o:Obj}{n:Nat}{lb:Bool}{u v:Value}{w:World}(h:J2 o n false lb u v w)(hn:n<=w.heap.size):J2 o n true lb (.pointer (some ⟨w.heap.size,0,none⟩)) v (w.alloc o):=by
 have hl:=h.later (zkb zr o);refine⟨fun _=>⟨_,rfl,hn,heap_alloc_new w o⟩,hl.2.1,fun _ e=>?_⟩;obtain⟨b,rfl,-,e3⟩:=h.2.1 e;intro hh;injection hh with hh;injection hh with hh;injection hh with hh;have:=zko e3;omega
theorem J2.two{o:Obj}{n:Nat}{la:Bool}{u v:Value}{w:World}(h:J2 o n la false u v w)(hn:n<=w.heap.size):J2 o n la true u (.pointer (some ⟨w.heap.size,0,none⟩)) (w.alloc o):=by
 have hl:=h.later (zkb zr o);refine⟨hl.1,fun _=>⟨_,rfl,hn,heap_alloc_new w o⟩,fun e _=>?_⟩;obtain⟨b,rfl,-,e3⟩:=h.1 e;intro hh;injection hh with hh;injection hh with hh;injection hh with hh;have:=zko e3;omega
theorem J2.boxes{o:Obj}{n:Nat}{u v:Value}{w:World}(h:J2 o n true true u v w):∃b c,u=.pointer (some ⟨b,0,none⟩)/\v=.pointer (some ⟨c,0,none⟩)/\n<=b/\n<=c/\b≠c/\w.heap[b]?=some o/\w.heap[c]?=some o:=by
 obtain⟨b,rfl,e2,e3⟩:=h.1 rfl;obtain⟨c,rfl,f2,f3⟩:=h.2.1 rfl;exact⟨b,c,rfl,rfl,e2,f2,fun e=>h.2.2 rfl rfl (by rw[e]),e3,f3⟩
attribute [local go_sem] Oper.semAt_some
theorem OwnS.chgD{W W':World}{n0 ba:Nat}{s:SS}{v:Value}{xs:Array Value}(h:OwnS W n0 s v)(hc:Chg (fun b=>b=ba) W W')(hz:W.heap[ba]?=some (.cells xs 59 (0,0))):OwnS W' n0 s v:=by
 obtain⟨vc,vi,vo,fc,rfl,hr,hi⟩:=h;refine⟨vc,vi,vo,fc,rfl,hr.chg hc fun i b hb hcb=>?_,hi⟩;have hcb:b=ba:=hcb;subst hcb;obtain⟨-,⟨hv,-⟩|⟨g,cap,cur,hv,-,hg,-⟩⟩:=hr.row i
 ·rw[hv]at hb
  cases hb
 ·rw[hv]at hb;injection hb with hb;have hb:g=b:=hb;subst hb;rw[hz]at hg;injection hg with hg;injection hg with _ hE
  cases i with
  | all=>simp[zmL]at hE
  | inp=>simp[zmL]at hE
  | out=>simp[zmL]at hE
  | el i =>
   simp only[zmL]at hE
   split at hE
   ·simp at hE
   ·exact absurd hE (by decide)
def FwV(n0:Nat)(R:SS×Nat×Int×List Nat)(x:Value)(w:World):Prop:=∃A c B d D g,x=.agg #[.slice A R.1.cells.length c,.slice B R.1.tin.length d,.slice D R.1.tout.length g,.int .i64 (R.2.1:Int),.int .i64 R.2.2.1]/\OwnS w n0 R.1 (.agg #[.slice A R.1.cells.length c,.slice B R.1.tin.length d,.slice D R.1.tout.length g])/\R.1.Lim
theorem FwP.v{W W':World}{R:SS×Nat×Int×List Nat}{e:Ending}{n:Nat}(hn:n<=W.heap.size)(h:FwP W R e W'):∃x,e=.returned x/\FwV n R x W'/\Below W.heap.size W W':=by
 obtain⟨v1,v2,v3,rfl,ho,hb,hl⟩:=h;have hsv:=ho.lower hn;obtain⟨A,c,B,d,D,g,hv⟩:=ho.slices;rw[hv]at hsv;injection hv with hv;simp only[Array.mk.injEq,List.cons.injEq,and_true]at hv;obtain⟨rfl,rfl,rfl⟩:=hv;exact⟨_,rfl,⟨A,c,B,d,D,g,rfl,hsv,hl.1⟩,hb⟩
def difE(p q:PG)(F:Int)(s:SS):Bool:=decide (errE p F s≠errE q F s) || !eqS (resO p s F (F.toNat*2000+2000) false).1 (resO q s F (F.toNat*2000+2000) false).1
theorem zyS:IsFn prog 59 f59:=⟨func59,by kernel_rfl,by kernel_rfl⟩
theorem zuT{W:World}{p q:PG}{s:SS}{F:Int}{bp bf bq c1 c2 c3 e1 e2 e3:Nat}{A1 A2 A3 D1 D2 D3:Option Addr}{sv:Value}(hk:W.heap[bp]?=some (.cells (pgA p A1 c1 A2 c2 A3 c3) 43 (0,0)))(hp:PV W Any p (pv A1 p.vs.length c1 A2 p.prs.length c2 p.m.k p.m.n p.m.s A3 p.m.ks.length c3))(hf:W.heap[bf]?=some (.cells #[.int .i64 F] 3 (0,0)))
  (hkq:W.heap[bq]?=some (.cells (pgA q D1 e1 D2 e2 D3 e3) 43 (0,0)))(hq:PV W Any q (pv D1 q.vs.length e1 D2 q.prs.length e2 q.m.k q.m.n q.m.s D3 q.m.ks.length e3))(hs:SV W Any s sv)(hcl:s.cells.length<=100)(hF:I64 F)(eY:F<=1000000) :
  Calls prog 59 #[sv,.pointer (some ⟨bp,0,none⟩),.pointer (some ⟨bf,0,none⟩),.pointer (some ⟨bq,0,none⟩)] W fun e' W'=>e'=.returned (.bool (difE p q F s))/\Below W.heap.size W W':=by
 obtain⟨A,c,B,d,D,k,rfl⟩:∃A c B d D k,sv=.agg #[.slice A s.cells.length c,.slice B s.tin.length d,.slice D s.tout.length k]:=by
  obtain⟨A,c,B,d,D,k,rfl,-⟩:=hs;exact⟨_,_,_,_,_,_,rfl⟩
 have hkb:=heap_alloc_new W (.cells #[.slice A s.cells.length c,.slice B s.tin.length d,.slice D s.tout.length k] 32);have hb:=zkb (zs W) (.cells #[.slice A s.cells.length c,.slice B s.tin.length d,.slice D s.tout.length k] 32);obtain⟨w1,hw1⟩:=zX (W.alloc (.cells #[.slice A s.cells.length c,.slice B s.tin.length d,.slice D s.tout.length k] 32));obtain⟨N,hN⟩:=zX (W.heap.size);rw[hw1]at hkb hb;rw[hN]at hkb;have HB:=zh hb;have uO:=zh (zkc hk hb);have HKQ:=zh (zkc hkq hb);have jN:=zh (zkc hf hb);have nR:=zh hkb;have jS:=zh (fun w (h:Below w1.heap.size w1 w)=>zlz p s F (F.toNat*2000+2000) _ _ w ((hp.later hb).later h) ((hs.later hb).later h) (by omega) hF eY zl);have lD:=zh (fun w (h:Below w1.heap.size w1 w)=>zlz q s F (F.toNat*2000+2000) _ _ w ((hq.later hb).later h) ((hs.later hb).later h) (by omega) hF eY zl)
 have lF:=zh (show difE p q F s=(decide ((resO p s F (F.toNat*2000+2000) false).2.2.1≠(resO q s F (F.toNat*2000+2000) false).2.2.1) || !eqS (resO p s F (F.toNat*2000+2000) false).1 (resO q s F (F.toNat*2000+2000) false).1)from rfl);obtain⟨RD,wZ⟩:=zX (difE p q F s);rw[wZ]at lF ⊢;generalize resO p s F (F.toNat*2000+2000) false=R1 at jS lF;generalize resO q s F (F.toNat*2000+2000) false=R2 at lD lF;clear hk hp hf hkq hq hs hcl hF eY hb hkb wZ;go_enter func59,ntmps59;go_upto_region 1 with fail
 try rw[hw1]
 try rw[hN]
 clear hw1 hN;have az:=zh (show ∀w',Below w1.heap.size w1 w'->(fun w':World=>pgS w' bp p A1 c1 A2 c2 A3 c3/\pgS w' bq q D1 e1 D2 e2 D3 e3/\stC w' N A s.cells.length c B s.tin.length d D s.tout.length k/\zv w' bf 0 (.int .i64 F)) w' from fun w' hb=>⟨box6 (zkc uO.out hb),box6 (zkc HKQ.out hb),zkz (zkc nR.out hb),zc (zkc jN.out hb) rfl⟩);obtain⟨S1,hS1⟩:∃S1:World->Prop,S1=fun w':World=>pgS w' bp p A1 c1 A2 c2 A3 c3/\pgS w' bq q D1 e1 D2 e2 D3 e3/\stC w' N A s.cells.length c B s.tin.length d D s.tout.length k/\w'.cell? ⟨bf,0,none⟩=some (.int .i64 F):=⟨_,rfl⟩
 rw[<-hS1]at az;have hSS:zW S1 zU w1.drew:=⟨az.out _ zr.drew,trivial⟩
 refine wp_region_noPanic ?_;refine zG hSS 10 ?_;subst hS1;refine zT 0 hSS ?_;refine zT 1 hSS ?_;refine zT 2 hSS ?_;refine zT 4 hSS ?_;refine zT 5 hSS ?_;refine zT 6 hSS ?_;have hI:(fun w=>Below w1.heap.size w1 w) w1.drew:=zr.drew;clear hSS
 refine zrI (i:=3) (j1:=8) (j2:=9) (some 11) (some 6) (some 7) 3 (fun li la lb => #[true,true,true,li,true,true,true,false,la,lb,false,false]) _ (fun w=>Below w1.heap.size w1 w) (J2 (.cells #[.slice none 0 0,.slice none 0 0,.slice none 0 0,.int .i64 0,.int .i64 0] 59 (0,0)) w1.heap.size) (FwV w1.heap.size R1) rfl rfl rfl rfl rfl rfl (by kernel_rfl) (by kernel_rfl) (by kernel_rfl) (by kernel_rfl) (fun la lb=>by cases la<;>cases lb<;>rfl) (fun lb=>by cases lb<;>rfl) (fun la=>by cases la<;>rfl) (fun w h=>⟨az.out _ h,trivial⟩) (fun w w' h hb=>?_) (fun la lb u v w w' h hb=>h.later hb) (fun u v K w h aa=>?_) (fun lb u v K w h hj aa=>?_) (fun la u v K w h hj aa=>?_) (fun u v x=>?_) (fun u v x=>?_) (fun la lb u v x wc h hF hj=>?_) false false undef undef w1.drew hI ⟨nofun,nofun,nofun⟩ ?_
 ·have hb0:=h;exact zka hb0 hb
 ·have hb0:=h;have hK:=zh aa;clear aa;refine zkd (by rfl) (.func 21) [.tmp 8,.tmp 9,.tmp 10] _ (by rfl) 21 _ zo9 (by rfl) [pv A1 p.vs.length c1 A2 p.prs.length c2 p.m.k p.m.n p.m.s A3 p.m.ks.length c3,.agg #[.slice A s.cells.length c,.slice B s.tin.length d,.slice D s.tout.length k],.int .i64 F] (by rfl) (fun x w'=>FwV w1.heap.size R1 x w'/\Below w.heap.size w w') ((jS.out w hb0).mono fun e w' h=>FwP.v hb0.size h) ?_;rintro x w' ⟨hx,hb⟩;exact hK.out _ _ hb hx
 ·have hb0:=h;have hK:=zh aa;clear aa;(try simp only[zQ]);(try simp only[zA,zB,zC]);go_simp;exact hK.out _ _ (zkb zr _) (hj.one hb0.size)
 ·have hb0:=h;have hK:=zh aa;clear aa;(try simp only[zQ]);(try simp only[zA,zB,zC]);go_simp;exact hK.out _ _ (zkb zr _) (hj.two hb0.size)
 ·simp only[Act.put,zD,zE,zF]
 ·simp only[Act.put,zD,zE,zF]
 rotate_left 1
 ·simp only[Act.put,zD,zE,zF]
 (try simp only[zQ]);obtain⟨fA,fc,fB,fd,fD,fg,rfl,hsa,hl1⟩:=hF;have ig:=zh hl1;clear hI hl1;have hI:(fun w=>Below w1.heap.size w1 w/\OwnS w w1.heap.size R1.1 (.agg #[.slice fA R1.1.cells.length fc,.slice fB R1.1.tin.length fd,.slice fD R1.1.tout.length fg])) wc:=⟨h,hsa⟩
 clear hsa h
 refine zrI (i:=7) (j1:=8) (j2:=9) (some 15) (some 6) (some 7) 2 (fun li la lb => #[true,true,true,true,true,true,true,li,la,lb,false,false]) _ (fun w=>Below w1.heap.size w1 w/\OwnS w w1.heap.size R1.1 (.agg #[.slice fA R1.1.cells.length fc,.slice fB R1.1.tin.length fd,.slice fD R1.1.tout.length fg])) (J2 (.cells #[.slice none 0 0,.slice none 0 0,.slice none 0 0,.int .i64 0,.int .i64 0] 59 (0,0)) w1.heap.size) (FwV w1.heap.size R2) rfl rfl rfl rfl rfl rfl (by kernel_rfl) (by kernel_rfl) (by kernel_rfl) (by kernel_rfl) (fun la lb=>by cases la<;>cases lb<;>rfl) (fun lb=>by cases lb<;>rfl) (fun la=>by cases la<;>rfl) (fun w h=>⟨az.out _ h.1,trivial⟩) (fun w w' h hb=>⟨zka h.1 hb,h.2.later hb⟩) (fun la lb u v w w' h hb=>h.later hb) (fun u v K w h aa=>?_) (fun lb u v K w h hj aa=>?_) (fun la u v K w h hj aa=>?_) (fun u v x=>?_) (fun u v x=>?_) (fun la lb u v x wc h hF hj=>?_) la lb u v wc hI hj ?_
 ·have hb0:=h.1;have hK:=zh aa;clear aa;refine zkd (by rfl) (.func 21) [.tmp 12,.tmp 13,.tmp 14] _ (by rfl) 21 _ zo9 (by rfl) [pv D1 q.vs.length e1 D2 q.prs.length e2 q.m.k q.m.n q.m.s D3 q.m.ks.length e3,.agg #[.slice A s.cells.length c,.slice B s.tin.length d,.slice D s.tout.length k],.int .i64 F] (by rfl) (fun x w'=>FwV w1.heap.size R2 x w'/\Below w.heap.size w w') ((lD.out w hb0).mono fun e w' h=>FwP.v hb0.size h) ?_;rintro x w' ⟨hx,hb⟩;exact hK.out _ _ hb hx
 ·have hb0:=h.1;have hK:=zh aa;clear aa;(try simp only[zQ]);(try simp only[zA,zB,zC]);go_simp;exact hK.out _ _ (zkb zr _) (hj.one hb0.size)
 ·have hb0:=h.1;have hK:=zh aa;clear aa;(try simp only[zQ]);(try simp only[zA,zB,zC]);go_simp;exact hK.out _ _ (zkb zr _) (hj.two hb0.size)
 ·simp only[Act.put,zD,zE,zF]
 ·simp only[Act.put,zD,zE,zF]
 rotate_left 1
 ·simp only[Act.put,zD,zE,zF]
 (try simp only[zQ]);obtain⟨gA,gc,gB,gd,gD,gg,rfl,hsb,hl2⟩:=hF;have HL2:=zh hl2;clear hI hl2;have hI:(fun w=>Below w1.heap.size w1 w/\OwnS w w1.heap.size R1.1 (.agg #[.slice fA R1.1.cells.length fc,.slice fB R1.1.tin.length fd,.slice fD R1.1.tout.length fg])/\OwnS w w1.heap.size R2.1 (.agg #[.slice gA R2.1.cells.length gc,.slice gB R2.1.tin.length gd,.slice gD R2.1.tout.length gg])) wc:=⟨h.1,h.2,hsb⟩
 clear hsb h;refine ztx (j1:=8) (j2:=9) (some 6) (some 7) 2 (fun la lb => #[true,true,true,true,true,true,true,true,la,lb,false,false]) _ (fun w=>Below w1.heap.size w1 w/\OwnS w w1.heap.size R1.1 (.agg #[.slice fA R1.1.cells.length fc,.slice fB R1.1.tin.length fd,.slice fD R1.1.tout.length fg])/\OwnS w w1.heap.size R2.1 (.agg #[.slice gA R2.1.cells.length gc,.slice gB R2.1.tin.length gd,.slice gD R2.1.tout.length gg])) (J2 (.cells #[.slice none 0 0,.slice none 0 0,.slice none 0 0,.int .i64 0,.int .i64 0] 59 (0,0)) w1.heap.size) rfl rfl rfl rfl (by kernel_rfl) (by kernel_rfl) (by kernel_rfl) (fun lb=>by cases lb<;>rfl) (fun la=>by cases la<;>rfl) (fun w h=>⟨az.out _ h.1,trivial⟩) (fun w w' h hb=>⟨zka h.1 hb,h.2.1.later hb,h.2.2.later hb⟩) (fun lb u v K w h hj aa=>?_) (fun la u v K w h hj aa=>?_) (fun u v x=>?_) (fun u v x=>?_) (fun u v wd h hj=>?_) la lb u v wc hI hj ?_
 ·have hb0:=h.1;have hK:=zh aa;clear aa;(try simp only[zQ]);(try simp only[zA,zB,zC]);go_simp;exact hK.out _ _ (zkb zr _) (hj.one hb0.size)
 ·have hb0:=h.1;have hK:=zh aa;clear aa;(try simp only[zQ]);(try simp only[zA,zB,zC]);go_simp;exact hK.out _ _ (zkb zr _) (hj.two hb0.size)
 ·simp only[Act.put,zD,zE,zF]
 ·simp only[Act.put,zD,zE,zF]
 rotate_left 1
 ·simp only[Act.put,zD,zE,zF]
 (try simp only[zQ]);obtain⟨ba,bb,rfl,rfl,hla,hlb,hne,hza,hzb⟩:=hj.boxes;obtain⟨hb0,hsa,hsb⟩:=h;clear hI hj;have x0:wd.cell? ⟨ba,0,none⟩=some (.slice none 0 0):=zc hza rfl;have x1:wd.cell? ⟨ba,1,none⟩=some (.slice none 0 0):=zc hza rfl;have x2:wd.cell? ⟨ba,2,none⟩=some (.slice none 0 0):=zc hza rfl;have x3:wd.cell? ⟨ba,3,none⟩=some (.int .i64 0):=zc hza rfl;have x4:wd.cell? ⟨ba,4,none⟩=some (.int .i64 0):=zc hza rfl;have xf:∀o,wd.frozen? ⟨ba,o,none⟩=false:=fun _=>zf hza;have gp:=zh hza;have cZ:=zh hzb;have HB0:=zh hb0;have nE:=zh hsa;have fw:=zh hsb;clear hza hzb hb0 hsa hsb;refine zo 10 fun K hK=>?_;(try simp only[zA,zB,zC]);go_simp;obtain⟨hh,hch⟩:=set5 (u0:=.slice fA R1.1.cells.length fc) (u1:=.slice fB R1.1.tin.length fd) (u2:=.slice fD R1.1.tout.length fg) (u3:=.int .i64 (R1.2.1:Int)) (u4:=.int .i64 R1.2.2.1) gp.out
 have hb0:=HB0.out.trans (hch.below HB0.out.size fun b e=>by omega);have hsa:=nE.out.chgD hch gp.out;have hsb:=fw.out.chgD hch gp.out;have hzb:=hch.keep cZ.out (by show ¬ (bb=ba);omega);obtain⟨we,mi⟩:=zX ((((((wd.setCell ⟨ba,0,none⟩ (.slice fA R1.1.cells.length fc)).setCell ⟨ba,1,none⟩ (.slice fB R1.1.tin.length fd)).setCell ⟨ba,2,none⟩ (.slice fD R1.1.tout.length fg)).setCell ⟨ba,3,none⟩ (.int .i64 (R1.2.1:Int))).setCell ⟨ba,4,none⟩ (.int .i64 R1.2.2.1)));rw[mi]at hh hch hb0 hsa hsb hzb ⊢;have hza:=hh;refine hK.out _ _ (⟨az.out _ hb0,trivial⟩) ?_;clear hK K x0 x1 x2 x3 x4 xf mi hch gp cZ HB0 nE fw hh;(try simp only[zQ]);have x0:we.cell? ⟨bb,0,none⟩=some (.slice none 0 0):=zc hzb rfl;have x1:we.cell? ⟨bb,1,none⟩=some (.slice none 0 0):=zc hzb rfl;have x2:we.cell? ⟨bb,2,none⟩=some (.slice none 0 0):=zc hzb rfl;have x3:we.cell? ⟨bb,3,none⟩=some (.int .i64 0):=zc hzb rfl
 have x4:we.cell? ⟨bb,4,none⟩=some (.int .i64 0):=zc hzb rfl;have xf:∀o,we.frozen? ⟨bb,o,none⟩=false:=fun _=>zf hzb;have gp:=zh hza;have cZ:=zh hzb;have HB0:=zh hb0;have nE:=zh hsa;have fw:=zh hsb;clear hza hzb hb0 hsa hsb;refine zp 11 fun K hK=>?_;(try simp only[zA,zB,zC]);go_simp;obtain⟨hh,hch⟩:=set5 (u0:=.slice gA R2.1.cells.length gc) (u1:=.slice gB R2.1.tin.length gd) (u2:=.slice gD R2.1.tout.length gg) (u3:=.int .i64 (R2.2.1:Int)) (u4:=.int .i64 R2.2.2.1) cZ.out;have hb0:=HB0.out.trans (hch.below HB0.out.size fun b e=>by omega);have hsa:=nE.out.chgD hch cZ.out;have hsb:=fw.out.chgD hch cZ.out;have hza:=hch.keep gp.out (by show ¬ (ba=bb);omega)
 obtain⟨wf,mh⟩:=zX ((((((we.setCell ⟨bb,0,none⟩ (.slice gA R2.1.cells.length gc)).setCell ⟨bb,1,none⟩ (.slice gB R2.1.tin.length gd)).setCell ⟨bb,2,none⟩ (.slice gD R2.1.tout.length gg)).setCell ⟨bb,3,none⟩ (.int .i64 (R2.2.1:Int))).setCell ⟨bb,4,none⟩ (.int .i64 R2.2.2.1)));rw[mh]at hh hch hb0 hsa hsb hza ⊢;have hzb:=hh;refine hK.out _ _ ((az.out _ hb0)) ?_;clear hK K x0 x1 x2 x3 x4 xf mh hch gp cZ HB0 nE fw hh;(try simp only[zQ]);refine zd ?_;refine NoPanic.normal ?_;have x0:wf.cell? ⟨ba,0,none⟩=some (.slice fA R1.1.cells.length fc):=zc hza rfl;have x1:wf.cell? ⟨ba,1,none⟩=some (.slice fB R1.1.tin.length fd):=zc hza rfl;have x2:wf.cell? ⟨ba,2,none⟩=some (.slice fD R1.1.tout.length fg):=zc hza rfl;have x4:wf.cell? ⟨ba,4,none⟩=some (.int .i64 R1.2.2.1):=zc hza rfl;have y0:wf.cell? ⟨bb,0,none⟩=some (.slice gA R2.1.cells.length gc):=zc hzb rfl
 have y1:wf.cell? ⟨bb,1,none⟩=some (.slice gB R2.1.tin.length gd):=zc hzb rfl;have y2:wf.cell? ⟨bb,2,none⟩=some (.slice gD R2.1.tout.length gg):=zc hzb rfl;have y4:wf.cell? ⟨bb,4,none⟩=some (.int .i64 R2.2.2.1):=zc hzb rfl;have kC:=zh (zqW R1.1 R2.1 _ _ wf (hsa.sv ig.out) (hsb.sv HL2.out));have rU:=zh (zka HB.out hb0);clear hza hzb hb0 hsa hsb;by_cases pQ:R1.2.2.1=R2.2.2.1
 ·have he:(R1.2.2.1 != R2.2.2.1)=false:=by simpa using pQ
  go_wp2_with fail;refine kC.out.mono ?_;rintro e' w9 ⟨rfl,aS⟩;go_wp2_with fail;go_ret;exact⟨by rw[lF.out,decide_eq_false (by simpa using pQ)];rfl,zka rU.out aS⟩
 ·have he:(R1.2.2.1 != R2.2.2.1)=true:=by simpa using pQ
  go_wp2_with fail;go_ret;exact⟨by rw[lF.out,decide_eq_true pQ];rfl,rU.out⟩
def dffE(p q:PG)(b:BX)(F:Int):SS×Nat×Bool:=if eqVs p.vs q.vs=true then fndE (difE p q F) (allS b (lenE p.vs b))else(nilS,0,false)
theorem zpt{W:World}{p q:PG}{b:BX}{F:Int}{v u:Value}(hp:PV W Any p v)(hq:PV W Any q u)(hok:(b.ok&&svB p.vs)=true)(hm:(allS b (lenE p.vs b)).length<=1000000)(hF:I64 F)(eY:F<=1000000) :
  Calls prog 22 #[v,u,.agg #[.int .i64 b.v,.int .i64 b.l,.int .i64 b.i],.int .i64 F] W (FalP (dffE p q b F) W):=by
 obtain⟨A1,c1,A2,c2,A3,c3,rfl,-⟩:=id hp;obtain⟨D1,e1,D2,e2,D3,e3,rfl,-⟩:=id hq;obtain⟨bv,bl,bi⟩:=b;obtain⟨N,hN⟩:=zX (W.heap.size);have HN:=zh hN;obtain⟨hb1,hz1,k0,k1,k2,k3,k4⟩:=al5F W (.cells (pgA p A1 c1 A2 c2 A3 c3) 43) (.cells (pgA q D1 e1 D2 e2 D3 e3) 43) (.cells #[.int .i64 bv,.int .i64 bl,.int .i64 bi] 24) (.cells #[.int .i64 F] 3) (.cells #[.slice none 0 0,.slice none 0 0,.slice none 0 0] 32);obtain⟨w1,hw1⟩:=zX (((((W.alloc (.cells (pgA p A1 c1 A2 c2 A3 c3) 43)).alloc (.cells (pgA q D1 e1 D2 e2 D3 e3) 43)).alloc (.cells #[.int .i64 bv,.int .i64 bl,.int .i64 bi] 24)).alloc (.cells #[.int .i64 F] 3)).alloc (.cells #[.slice none 0 0,.slice none 0 0,.slice none 0 0] 32));rw[hw1]at hb1 hz1 k0 k1 k2 k3 k4;rw[hN]at hz1 k0 k1 k2 k3 k4;have HB1:=zh hb1;have HZ1:=zh hz1;have BH:=zh (zzo (W:=w1) (c:=c1) (d:=e1) (hp.pg.vars.later hb1) (hq.pg.vars.later hb1) hp.pg.lv hq.pg.lv)
 have iD:=zh (((hp.keep (S':=fun q=>q<N+5) (fun q _ h=>by omega) fun _ _ _=>rfl).keep (w':=w1) (S':=fun q=>q<N+5) (fun _ h _=>h) fun q _ hlt=>hb1.block q hlt));have yQ:=zh (((hq.keep (S':=fun q=>q<N+5) (fun q _ h=>by omega) fun _ _ _=>rfl).keep (w':=w1) (S':=fun q=>q<N+5) (fun _ h _=>h) fun q _ hlt=>hb1.block q hlt));have qC:=zh hp.pg.lv;have bZ:=zh (And.intro hok (And.intro hm (And.intro hF eY)));obtain⟨⟨s9,n9,ok9⟩,lL⟩:=zX (dffE p q ⟨bv,bl,bi⟩ F);have bL:=zh lL;rw[lL];have aG:=zh k0;have aB:=zh k1;have aT:=zh k2;have ik:=zh k3;have dR:=zh k4;obtain⟨p0,p1,p2,p3,p4,p5⟩:=box6 k0;obtain⟨q0,q1,q2,q3,q4,q5⟩:=box6 k1;clear hp hq hb1 hz1 k0 k1 k2 k3 k4 hok hm hF eY lL;have pI:∀(fn:Fn) (first cap:Array Value) (w:World),(Instr.makeFunc fn first cap).run prog w=.ok (.func fn first cap) w:=fun _ _ _ _=>rfl
 show Calls prog 22 #[pv A1 p.vs.length c1 A2 p.prs.length c2 p.m.k p.m.n p.m.s A3 p.m.ks.length c3,pv D1 q.vs.length e1 D2 q.prs.length e2 q.m.k q.m.n q.m.s D3 q.m.ks.length e3,.agg #[.int .i64 bv,.int .i64 bl,.int .i64 bi],.int .i64 F] W _
 go_enter func22,ntmps22;go_wp2_with fail;simp only[Nat.add_assoc,Nat.reduceAdd];refine BH.out.mono ?_;rintro e' w2 ⟨rfl,hb2⟩;have HB2:=zh (zka HB1.out hb2);have qH:=zh (zkc aG.out hb2);have jP:=zh (zkc aB.out hb2);have qG:=zh (zkc aT.out hb2);have qF:=zh (zkc ik.out hb2);have jO:=zh (zkc dR.out hb2);have HZ2:=zh (show N+5<=w2.heap.size by have:=hb2.size;have:=HZ1.out;omega);have nJ:=zh (iD.out.later hb2);have HQV2:=zh (yQ.out.later hb2);clear hb2 p0 p1 p2 p3 p4 p5 q0 q1 q2 q3 q4 q5 iD yQ aG aB aT ik dR;obtain⟨ev,hev⟩:=zX (eqVs p.vs q.vs);rw[hev];have HEV:=zh hev;clear hev
 cases ev
 ·have hr:dffE p q ⟨bv,bl,bi⟩ F=(nilS,0,false):=by unfold dffE;rw[HEV.out];rfl
  have HRR:=zh (bL.out.symm.trans hr);clear hr;obtain⟨q0,q1,q2⟩:=zkz jO.out;have cf:∀o,w2.frozen? ⟨N+4,o,none⟩=false:=fun o=>zf jO.out;obtain⟨w9,dJ,bI,fT⟩:=st3 (.slice none 0 0) (.slice none 0 0) (.slice none 0 0) jO.out;have xR:=zh fT;have aH:=zh (HB2.out.trans (bI.below HB2.out.size fun q e=>by have e:q=N+4:=e;have:=HN.out;omega));clear bI fT;go_wp2_with fail;obtain⟨t0,t1,t2⟩:=zkz xR.out;have hx:=HRR.out;injection hx with h1 h2;injection h2 with h2 h3;subst h1 h2 h3;exact bodyPost_ret (v:=.tuple #[.agg #[.slice none 0 0,.slice none 0 0,.slice none 0 0],.bool false]) (by simp[results,results22,go_sem,t0,t1,t2]) rfl ⟨aH.out,_,rfl,SV.nilF _ _⟩
 have HT:=zh (show ztc 59 #[.pointer (some ⟨N,0,none⟩),.pointer (some ⟨N+3,0,none⟩),.pointer (some ⟨N+1,0,none⟩)] (fun _ s=>difE p q F s) (allS ⟨bv,bl,bi⟩ (lenE p.vs ⟨bv,bl,bi⟩)) w2.heap.size (fun _=>FrI w2.heap.size w2)from by
  refine⟨fun n W W' h h1 h2=>h.keep h1 h2,fun n W h=>h.size,fun n s v W g hI hg hgs ho hx=>?_⟩;have hx2:=zp1 bZ.out.1 s (List.mem_of_getElem? hx);have hZ:=HZ2.out;have hlt:∀q,q<N+5->W.heap[q]?=w2.heap[q]?:=fun q hq=>hI.same q (by omega);refine(zuT (F:=F) (p:=p) (q:=q) (s:=s) ((hlt N (by omega)).trans qH.out) (nJ.out.keep (fun _ _ _=>trivial) fun q h _=>hlt q h) ((hlt (N+3) (by omega)).trans qF.out) ((hlt (N+1) (by omega)).trans jP.out) (HQV2.out.keep (fun _ _ _=>trivial) fun q h _=>hlt q h) (ho.sv hx2.1) hx2.2 bZ.out.2.2.1 bZ.out.2.2.2).mono ?_;rintro e' W' ⟨rfl,hb⟩;exact⟨rfl,hI.keep hb.size fun q hq=>hb.block q (Nat.lt_of_lt_of_le hq hI.size),Chg.of_below hb⟩)
 have hr:dffE p q ⟨bv,bl,bi⟩ F=fndE (difE p q F) (allS ⟨bv,bl,bi⟩ (lenE p.vs ⟨bv,bl,bi⟩)):=by unfold dffE;rw[HEV.out];rfl
 have bz:=zh (show Calls _ _ _ _ (FstP (fndE (difE p q F) (allS ⟨bv,bl,bi⟩ (lenE p.vs ⟨bv,bl,bi⟩))) (fun _=>FrI w2.heap.size w2) w2)from zoH (W:=w2) (A1:=A1) (c1:=c1) (vs:=p.vs) (b:=⟨bv,bl,bi⟩) (nJ.out.keep (S':=Any) (fun _ _ _=>trivial) fun _ _ _=>rfl).pg.vars qC.out bZ.out.1 bZ.out.2.1 zyS HT.out ⟨zl,fun _ _=>rfl⟩);rw[<-hr,bL.out]at bz;clear hr HT;obtain⟨p0,p1,p2,p3,p4,p5⟩:=box6 qH.out;obtain⟨y0,y1,y2⟩:=zkz qG.out;go_wp2_with fail;refine bz.out.mono ?_;rintro e' w3 ⟨v2,rfl,hs2,hi2,hc2⟩;have Af:=hs2;obtain⟨B1,d1,B2,d2,B3,d3,rfl,-⟩:=Af;have hb2:=hi2.below hc2;have hb3:=zkb hb2 (.cells #[.slice B1 s9.cells.length d1,.slice B2 s9.tin.length d2,.slice B3 s9.tout.length d3] 32);have k10:=heap_alloc_new w3 (.cells #[.slice B1 s9.cells.length d1,.slice B2 s9.tin.length d2,.slice B3 s9.tout.length d3] 32);have k8:=zkc (jO.out) hb3
 have hs3:=hs2.later (zkb (zs w3) (.cells #[.slice B1 s9.cells.length d1,.slice B2 s9.tin.length d2,.slice B3 s9.tout.length d3] 32));obtain⟨w4,hw4⟩:=zX (w3.alloc (.cells #[.slice B1 s9.cells.length d1,.slice B2 s9.tin.length d2,.slice B3 s9.tout.length d3] 32));rw[hw4]at hb3 k10 k8 hs3;obtain⟨x0,x1,x2⟩:=zkz k10;obtain⟨q0,q1,q2⟩:=zkz k8;have cf:∀o,w4.frozen? ⟨N+4,o,none⟩=false:=fun o=>zf k8;obtain⟨w9,dJ,bI,fT⟩:=st3 (.slice B1 s9.cells.length d1) (.slice B2 s9.tin.length d2) (.slice B3 s9.tout.length d3) k8;have xB:=zh (hs3.keep (S':=fun q=>W.heap.size<=q) (fun q h _=>by have:=HB2.out.size;omega) fun q h _=>bI.block q ‹_› (fun e=>by have e:q=N+4:=e;have:=HZ2.out;omega));have xR:=zh fT;have aH:=zh (((HB2.out).trans (hb3.mono HB2.out.size)).trans (bI.below (by have:=HB2.out.size;have:=hb3.size;omega) fun q e=>by have e:q=N+4:=e;have:=HN.out;omega))
 clear hs2 hi2 hc2 hb2 hb3 k10 k8 hs3 bI fT y0 y1 y2 p0 p1 p2 p3 p4 p5;go_wp2_with fail;obtain⟨t0,t1,t2⟩:=zkz xR.out;exact bodyPost_ret (v:=.tuple #[.agg #[.slice B1 s9.cells.length d1,.slice B2 s9.tin.length d2,.slice B3 s9.tout.length d3],.bool ok9]) (by simp[results,results22,go_sem,t0,t1,t2]) rfl ⟨aH.out,_,rfl,xB.out⟩
end
section
open Go Go.RowKit
attribute [local go_sem] Oper.semAt_some
theorem zKT:IsFn prog 44 Tryz.f44:=⟨func44,by kernel_rfl,by kernel_rfl⟩
theorem bStZ(w:World):(Instr.build 32 #[]).run prog w=.ok (.agg #[.slice none 0 0,.slice none 0 0,.slice none 0 0]) w:=by kernel_rfl
theorem bSt1(A:Option Addr)(l c:Nat)(w:World):(Instr.build 32 #[(0,.slice A l c)]).run prog w=.ok (.agg #[.slice A l c,.slice none 0 0,.slice none 0 0]) w:=by kernel_rfl
theorem SV.nilR(w:World)(S:Nat->Prop):SV w S nilS (.agg #[.slice none 0 0,.slice none 0 0,.slice none 0 0]) :=
 ⟨none,0,none,0,none,0,rfl,fun i hi=>by simp[nilS]at hi,fun i hi=>by simp[nilS]at hi,fun i hi=>by simp[nilS]at hi,by simp[nilS],by simp[nilS],by simp[nilS],by simp[nilS,LI],by intro l hl;simp[nilS]at hl,by simp[nilS,LI],by simp[nilS,LI]⟩
theorem zxs(vs:List VD)(b:BX)(A:Option Addr)(c:Nat)(w:World)(hr:RowV w Any A vs)(hok:(b.ok&&svB vs)=true)(hc60:cntF vs b<=60) :
  Calls prog 11 #[.slice A vs.length c,.int .i64 b.v,.int .i64 b.l,.int .i64 b.i] w fun e w'=>∃v,e=.returned v/\(∃A' c',v=.slice A' (allR vs b).length c'/\(allR vs b).length<=c'/\zk8 w' A' (allR vs b))/\Below w.heap.size w w':=by
 have hok2:=hok;simp only[Bool.and_eq_true]at hok2;have hb:=zlm hok2.1;obtain⟨hn,hvd⟩:=zsG hok2.2;have dD:=zh (ztY hok2.1 hc60);have HV:=zh hvd;have HR:=zh hr;have wC:=zh (fun j (hj:j<=vs.length+1)=>zxI hok2.1 hok2.2 hj);have yZ:=zh (fun j l (h:l∈lsJ vs b j)=>zxL hok2.1 hok2.2 h);have rE:=zh (fun j=>zyi dD.out j);have bO:=zh (fun j=>zyy dD.out j);have lq:=zh (fun j (h:j<=vs.length)=>zrV (vs:=vs) (b:=b) h);have jW:=zh (show stJ vs b (vs.length+1)=allU vs b from zv8 vs b);have uC:=zh (show stJ vs b 0=[nilS] by simp[stJ,stgF]);obtain⟨V,hV⟩:=zX (b.v);obtain⟨nl,hnl⟩:∃nl:Nat,b.l=(nl:Int):=⟨b.l.toNat,by omega⟩
 obtain⟨ni,hni⟩:∃ni:Nat,b.i=(ni:Int):=⟨b.i.toNat,by omega⟩
 have rJ:=zh (fun j (h:j<vs.length)=>show lsJ vs b j=if vs[j].k=1 then betE V 1 1 else if vs[j].k=2 then betE V vs[j].n.toNat vs[j].n.toNat else betE V 0 nl by unfold lsJ;rw[dif_pos h];unfold lstE;rw[hV,hnl];rfl);have bF:=zh (show lsJ vs b vs.length=betE V 0 ni by unfold lsJ;rw[dif_neg (by omega),hV,hni];rfl);have hv3:0<=V/\V<=1000:=by omega
 have sS:nl<=1000:=by omega
 have sU:ni<=1000:=by omega
 have yc:=zh (fun a m w' (h1:a<=m) (h2:m<=1000) (h3:(betE V a m).length<=1000)=>zru V a m w' hv3 (by omega) h2 h1 h3);rw[hV,hnl,hni];have eD:=zh (show allR vs b=zli (allU vs b)from rfl);obtain⟨R9,qZ⟩:=zX (allR vs b);rw[qZ]at eD ⊢;obtain⟨U9,hU9⟩:=zX (allU vs b);rw[hU9]at jW eD;obtain⟨ST,hST⟩:∃ST:Nat->List SS,∀j,stJ vs b j=ST j:=⟨fun j=>stJ vs b j,fun _=>rfl⟩
 obtain⟨LJ,jJ⟩:∃LJ:Nat->List (List Int),∀j,lsJ vs b j=LJ j:=⟨fun j=>lsJ vs b j,fun _=>rfl⟩
 simp only[hST]at wC rE lq jW uC;simp only[jJ]at yZ bO lq rJ bF;clear hr hok hok2 hc60 hb hvd hV hnl hni qZ hU9 hST jJ dD;obtain⟨n,hn'⟩:=zX (vs.length);have HN:=zh hn';rw[hn']at hn lq jW wC bF ⊢;clear hn';have hI0:=bStZ;have hI1:=bSt1;have hI2:=bSts;go_enter func11,ntmps11;go_upto_region 2 with fail;have hb1:=zkb (zs w) (.cells #[.slice none 0 0,.slice none 0 0,.slice none 0 0] 32);have hk1:=heap_alloc_new w (.cells #[.slice none 0 0,.slice none 0 0,.slice none 0 0] 32);have HB1:=zh hb1;have iy:=zh (show zk8 (w.alloc (.cells #[.slice none 0 0,.slice none 0 0,.slice none 0 0] 32)) (some ⟨w.heap.size,0,none⟩) (ST 0) by
  rw[uC.out];intro k hk;obtain rfl:k=0:=by simpa using hk
  exact⟨w.heap.size,0,_,_,_,rfl,zc hk1 rfl,zc hk1 rfl,zc hk1 rfl,SV.nilR _ _⟩)
 have ig:=zh (show(ST 0).length=1 by rw[uC.out];rfl);clear hb1 hk1;go_wp2_with fail
 go_loopw [10,9,11,12,13,14,15] (fun iv sv _ _ _ _ _ wr=>∃(j:Nat) (A:Option Addr) (m c:Nat),j<=n+1/\iv=.int .i64 j/\sv=.slice A m c/\m<=c/\m<=60/\Hid ((ST j).length=m)/\Hid (Below w.heap.size w wr)/\Hid (zk8 wr A (ST j))) (fun iv _ _ _ _ _ _ _=>n+1-(intOf iv).toNat)
 case atStart=>exact⟨0,_,1,1,by omega,rfl,rfl,by omega,by omega,ig,HB1,iy⟩
 case round =>
  clear iy ig HB1;obtain⟨j,As,m,cs,hj,rfl,rfl,hmc,hm60,gq,HB,iR⟩:=hrel;by_cases hlt:j<=n
  ·have hj1:(j:Int)<=(n:Int):=by omega
   have hj0:(0:Int)<=(j:Int):=by omega
   have lS:=bO.out j;obtain⟨ll,hll⟩:=zX ((LJ j).length);have dF:=zh hll;rw[hll]at lS;clear hll
   go_upto_if 27 with(fail)
   go_cut [11]from 24 to 59 (fun lv wx=>∃(Al:Option Addr) (cl:Nat),lv=.slice Al ll cl/\ll<=cl/\Hid (Below wr.heap.size wr wx)/\Hid (zlj wx (fun q=>q<wx.heap.size) Al (LJ j)))
   case first =>
    have bz:=zh (show ∀(a m:Nat) u (wx:World),LJ j=betE V a m->Below wr.heap.size wr wx->zkr wx wr.heap.size (fun q=>wr.heap.size<=q) u (betE V a m)->(∃(Al:Option Addr) (cl:Nat),u=.slice Al ll cl/\ll<=cl/\Hid (Below wr.heap.size wr wx)/\Hid (zlj wx (fun q=>q<wx.heap.size) Al (LJ j)))from fun a m u wx h1 h2 h3=>by
     rw[<-h1]at h3;obtain⟨Al,cl,e1,e2,e3⟩:=h3.ii fun q h _=>h;rw[dF.out]at e1 e2;exact⟨Al,cl,e1,e2,zh h2,zh (e3.keep (fun q _ h=>h) fun _ _ _=>rfl)⟩)
    by_cases hjn:j=n
    ·subst hjn;have HL2:=zh bF.out;have uY:=zh (yc.out 0 ni wr (by omega) sU (by rw[<-bF.out];rw[dF.out];omega));go_wp2_with fail;refine(uY.out).mono ?_;rintro e wx ⟨hb2,u,rfl,hr2⟩;have HX:=zh (bz.out 0 ni u wx HL2.out hb2 hr2);clear hb2 hr2;go_wp2_with fail
     go_meet
     exact HX.out
    ·have bR:j<vs.length:=by rw[HN.out];omega
     have hjb:¬ (j:Int)=(n:Int):=by omega
     obtain⟨ab,v,rfl,-,hv,⟨x0,x1,x2⟩,-⟩:=(HR.out.later HB.out).nd bR;have hvb:=ztA (HV.out _ (List.getElem_mem bR));have jJ:=rJ.out j bR;have hjn2:(j:Int)<(n:Int):=by omega
     rw[hv.out]at hvb jJ;clear hv bR;obtain⟨v0,v1,v2⟩:=v;simp only at x0 x1 x2 hvb jJ;have hjnb:((j:Int)==(n:Int))=false:=by simp;omega
     rcases hvb with⟨rfl,rfl⟩|⟨rfl,hn1,hn2⟩|⟨rfl,rfl⟩
     ·rw[if_pos rfl]at jJ;have HL2:=zh jJ;have uY:=zh (fun w' (hb:Below wr.heap.size wr w')=>yc.out 1 1 w' (by omega) (by omega) (by rw[<-HL2.out];rw[dF.out];omega));clear jJ;go_wp2_with fail;refine(uY.out _ zr).mono ?_;rintro e wx ⟨hb2,u,rfl,hr2⟩;have HX:=zh (bz.out 1 1 u wx HL2.out hb2 hr2);clear hb2 hr2;go_wp2_with fail
      go_meet
      exact HX.out
     ·rw[if_neg (by decide),if_pos rfl]at jJ;obtain⟨nv,rfl⟩:∃nv:Nat,v2=(nv:Int):=⟨v2.toNat,by omega⟩
      rw[Int.toNat_natCast]at jJ;have HL2:=zh jJ;have uY:=zh (fun w' (hb:Below wr.heap.size wr w')=>yc.out nv nv w' (by omega) (by omega) (by rw[<-HL2.out];rw[dF.out];omega));clear jJ;have bC:=zh (show ∀w',Below wr.heap.size wr w'->w'.cell? ⟨(ab.add (j*3)).block,(ab.add (j*3)).off+2,none⟩=some (.int .i64 (nv:Int))from fun w' h=>by have h9:=zb h x2;exact h9);have hd:=(zs wr).drew;go_upto_region 11 with fail;have hSS:zW (fun w':World=>zv w' ((ab.add (j*3)).block) ((ab.add (j*3)).off+2) (.int .i64 (nv:Int))) zU wr.drew:=⟨bC.out _ hd,trivial⟩
      have had:Calls prog 44 [.int .i64 V,.int .i64 (nv:Int),.int .i64 (nv:Int)].toArray wr.drew fun e w'=>∃v,e=.returned v/\(zkr w' wr.drew.heap.size (fun q=>wr.drew.heap.size<=q) v (betE V nv nv)/\Below wr.drew.heap.size wr.drew w'):=(uY.out _ hd).mono fun e w' ⟨h1,u,h2,h3⟩=>⟨u,h2,h3,h1⟩
      refine wp_region_noPanic ?_;refine zG hSS 12 ?_;refine zT 0 hSS ?_;refine zT 1 hSS ?_;refine zT 2 hSS ?_;refine zT 3 hSS ?_;refine zT 4 hSS ?_;refine zT 5 hSS ?_;refine zT 6 hSS ?_;refine zT 7 hSS ?_;refine zT 8 hSS ?_;refine zT 9 hSS ?_;refine zT 10 hSS ?_;refine zo 11 fun K hK=>?_;refine zkd (by rfl) (.func 44) [.tmp 45,.tmp 50,.tmp 55] _ (by rfl) 44 _ zKT (by rfl) _ (by rfl) _ had ?_;rintro v5 w5 ⟨hr2,hb5⟩;have hb6:=hd.trans (hb5.mono hd.size);refine hK.out _ _ ⟨bC.out _ hb6,trivial⟩ ?_;clear hK K had hSS;(try simp only[zQ]);refine zp 12 fun K hK=>?_;(try simp only[zA,zB,zC]);go_simp;refine hK.out _ _ (bC.out _ hb6) ?_;clear hK K;(try simp only[zQ]);refine zd ?_;refine NoPanic.normal ?_;have HX:=zh (bz.out nv nv v5 w5 HL2.out hb6 hr2);clear hb5 hb6 hd;go_wp2_with fail
      go_meet
      exact HX.out
     ·rw[if_neg (by decide),if_neg (by decide)]at jJ;have HL2:=zh jJ;have uY:=zh (fun w' (hb:Below wr.heap.size wr w')=>yc.out 0 nl w' (by omega) (by omega) (by rw[<-HL2.out];rw[dF.out];omega));clear jJ;go_wp2_with fail;refine(uY.out _ zr).mono ?_;rintro e wx ⟨hb2,u,rfl,hr2⟩;have HX:=zh (bz.out 0 nl u wx HL2.out hb2 hr2);clear hb2 hr2;go_wp2_with fail
      go_meet
      exact HX.out
   case rest =>
    obtain⟨Al,cl,rfl,hlc,aX,Cf⟩:=hcut;have nL:=zh (lq.out j hlt);have HGS2:=zh (wC.out j (by omega));have HGL2:=zh (yZ.out j);have uD:=zh (rE.out (j+1));have HGN:=zh (wC.out (j+1) (by omega));have HRS2:=zh (iR.out.later aX.out);have HB2:=zh (zka HB.out aX.out);obtain⟨st,hst⟩:=zX (ST j);obtain⟨lj,hlj⟩:=zX (LJ j);obtain⟨s2,hs2⟩:=zX (ST (j+1));have HS2:=zh hs2;rw[hst]at nL HGS2 HRS2 gq;rw[hlj]at nL HGL2 dF Cf;rw[hs2]at nL uD HGN;clear hst hlj hs2 aX iR HB rJ bF yZ yc lq wC;have BC:=zh (show Below wc.heap.size wc wc from zr);obtain⟨B2,hB2⟩:=zX (wc.heap.size);rw[hB2]at BC Cf;go_wp2_with fail
    go_loopw [13,12,14,15] (fun pv nv _ _ wr=>∃(p:Nat) (An:Option Addr) (e cn:Nat) (acc:List SS),p<=m/\pv=.int .i64 p/\nv=.slice An e cn/\Hid (acc.length=e/\acc=(st.take p).flatMap fun s=>lj.map (nwS n j s))/\Hid (Below B2 wc wr)/\Hid (zk7 wr B2 Any (.slice An e cn) acc)) (fun pv _ _ _ _=>m-(intOf pv).toNat)
    case atStart=>exact⟨0,none,0,0,[],by omega,rfl,rfl,zh ⟨rfl,by simp⟩,BC,zh (zk7.nil _ _ _)⟩
    case round =>
     clear BC;obtain⟨p,An,e,cn,acc,hp,rfl,rfl,wG,kF,uH⟩:=hrel;obtain⟨W8,rfl⟩:∃x,x=wr:=⟨_,rfl⟩
     by_cases hpm:p<m
     ·have hp1:(p:Int)<(m:Int):=by omega
      have hp0:(0:Int)<=(p:Int):=by omega
      have hps:p<st.length:=by rw[gq.out];exact hpm
      obtain⟨s,hs⟩:=zX (st[p]);obtain⟨b1,o1,u1,v1,x1,rfl,h10,h11,h12,hs1⟩:=HRS2.out p hps;have HTP:=zh (show(st.take (p+1)).flatMap (fun s=>lj.map (nwS n j s))=(st.take p).flatMap (fun s=>lj.map (nwS n j s))++lj.map (nwS n j s) by
       rw[List.take_succ_eq_append_getElem hps,List.flatMap_append,hs];simp)
      have wD:=zh (HGS2.out st[p] (List.getElem_mem hps));have HPF:=zh (show ∀k,((st.take p).flatMap (fun s=>lj.map (nwS n j s))++(lj.take k).map (nwS n j s)).length<=60 from fun k=>by
       have h1:=uD.out;have h2:(st.take (p+1)).flatMap (fun s=>lj.map (nwS n j s))++(st.drop (p+1)).flatMap (fun s=>lj.map (nwS n j s))=s2:=by rw[<-List.flatMap_append,List.take_append_drop];exact nL.out.symm
       rw[<-h2,HTP.out]at h1;simp only[List.length_append,List.length_map,List.length_take]at h1 ⊢;omega)
      have HGM:=zh (show ∀x∈lj,GdS (j+1) (nwS n j s x)from fun x hx=>zxK (hs▸wD.out) (HGL2.out x hx));rw[hs]at hs1 wD;obtain⟨A5,c5,l5,e5,r5,bW⟩:∃A5 c5 l5,u1=.slice A5 l5 c5/\zlj wc (fun q=>q<B2) A5 s.cells/\s.cells.length=l5:=by
       obtain⟨A5,c5,B5,d5,D5,e5,e1,r1,-⟩:=hs1;injection e1 with e1;simp only[Array.mk.injEq,List.cons.injEq,and_true]at e1;exact⟨A5,c5,_,e1.1,hB2▸r1,rfl⟩
      subst e5;have HX:=zh (show ∀w',Below B2 wc w'->w'.cell? ⟨b1,o1+p*3,none⟩=some (.slice A5 l5 c5)from fun w' h=>zb (hB2▸h) h10);have kX:=zh r5;have lC:=zh bW;have hl5:l5<=32:=by have:=wD.out.1;omega
      clear hs hps h10 h11 h12 hs1 r5 bW;go_wp2_with fail
      go_loopw [14,12,15] (fun kv nv _ wr=>∃(k:Nat) (An:Option Addr) (e cn:Nat) (jK:List SS),k<=ll/\kv=.int .i64 k/\nv=.slice An e cn/\Hid (jK.length=e/\jK=acc++(lj.take k).map (nwS n j s))/\Hid (Below B2 wc wr)/\Hid (zk7 wr B2 Any (.slice An e cn) jK)) (fun kv _ _ _=>ll-(intOf kv).toNat)
      case atStart=>exact⟨0,An,e,cn,acc,by omega,rfl,rfl,zh ⟨wG.out.1,by simp⟩,kF,uH⟩
      case round =>
       clear kF uH;obtain⟨k,CJ,e2,Bv,jK,hk,rfl,rfl,ed,kF,uH⟩:=hrel;by_cases hkl:k<ll
       ·have hk1:(k:Int)<(ll:Int):=by omega
        have hk0:(0:Int)<=(k:Int):=by omega
        have hkx:k<lj.length:=by rw[dF.out];exact hkl
        obtain⟨x,hx⟩:=zX (lj[k]);obtain⟨ax,Ax,cx,rfl,-,hcx,hlx,hrx⟩:=Cf.out k hkx;have rD:=zh (show(lj.take (k+1)).map (nwS n j s)=(lj.take k).map (nwS n j s)++[nwS n j s x] by rw[List.take_succ_eq_append_getElem hkx,List.map_append,hx];rfl);have xV:=zh (HGM.out _ (List.getElem_mem hkx));rw[hx]at hcx hlx hrx xV;obtain⟨lx,sW⟩:=zX (x.length);have fE:=zh sW;rw[sW]at hcx hlx;have qL:=zh (show ∀w',Below B2 wc w'->w'.cell? (ax.add k)=some (.slice Ax lx cx)from fun w' h=>zb (hB2▸h) hcx);have kW:=zh hrx;have hsz:B2<=wr.heap.size:=by have:=kF.out.size;omega
        obtain⟨us,lK,hnn,hcl,h1c,hes⟩:=(kX.out.later (hB2▸kF.out)).vals;have qN:=zh (zkr.copy2 (wr:=wr) (B2:=B2) lK lC.out hsz hes);have hul1:us.length=l5*1:=by rw[lK,lC.out];omega
        have hnn1:A5=none->l5=0:=fun h=>by rw[<-lC.out];exact hnn h
        have bB:=zkb (zs wr) (.cells #[] 30);have hcl1:∀ad,A5=some ad->∀j u,us[j]?=some u->(wr.alloc (.cells #[] 30)).cell? (ad.add j)=some u:=fun ad h j u hj=>zb bB (hcl ad h j u hj);have hx7:=HX.out _ (kF.out.trans (bB.mono hsz));have hsz1:wr.heap.size<=(wr.alloc (.cells #[] 30)).heap.size:=bB.size;have hown1:=zoZ wr 30 1 wr.heap.size zl;have hI3:=bL0R;clear hkx hx sW hcx hrx lK hnn hcl hes bB;go_upto_region 21 with(at_builtin;refine zki rfl (.tmp 72) (.tmp 77) rfl underlying29 zm0 rfl (by decide) (by decide) wr.heap.size (.slice (some ⟨wr.heap.size,0,none⟩) 0 0) 0 [] rfl hown1 A5 l5 c5 us rfl hul1 hnn1 hcl1 h1c (by omega) hsz1 ?_;intro v9 w9 ho hg aj;obtain⟨A9,c9,rfl,aH,bL⟩:=qN.out _ _ ho hg aj;clear ho hg aj)
        have HK:=zh (heap_alloc_new w9 (.cells #[.slice A9 l5 c9,.slice none 0 0,.slice none 0 0] 32));have bB:=zkb (zs w9) (.cells #[.slice A9 l5 c9,.slice none 0 0,.slice none 0 0] 32);have hsa:w9.heap.size<(w9.alloc (.cells #[.slice A9 l5 c9,.slice none 0 0,.slice none 0 0] 32)).heap.size:=by simp
        obtain⟨aV,df⟩:=zX (w9.alloc (.cells #[.slice A9 l5 c9,.slice none 0 0,.slice none 0 0] 32));have hon:∀q,(Value.slice A9 l5 c9).ownBlock=some q->q<w9.heap.size:=fun q h=>by
         obtain⟨_,h1,-⟩:=bL.out;exact(h1.lt q h).2
        obtain⟨Nb,hNb⟩:=zX (w9.heap.size);rw[df]at HK bB hsa ⊢;rw[hNb]at HK hsa hon ⊢;have hne0:(Value.slice A9 l5 c9).ownBlock≠some Nb:=fun e=>by have:=hon _ e;omega
        have dO:=zh (aH.out.trans (bB.mono aH.out.size));have qy:=zh (bL.out.keep (W':=aV) (S':=fun q=>q<B2) (fun _ h _=>h) fun q _ h=>bB.block q h);have vZ:=zh hne0;have hNw:wr.heap.size<=Nb:=by rw[<-hNb];exact aH.out.size
        have jR:=zh (show ∀w',Below wr.heap.size wr w'->Below B2 wc w' from fun w' h=>kF.out.trans (h.mono hsz));clear bB df hNb hon hne0 hown1 hcl1 hx7 hsz1 hul1 hnn1 h1c;by_cases hjn:j=n
        ·have hjb:((j:Int)==(n:Int))=true:=by simp[hjn]
         have wo:=zh hjn;clear hjn;have hx8:=qL.out _ (jR.out _ dO.out);have j3:=zkz HK.out;have dM:=zh (heap_setCell_same aV Nb 1 _ _ (.slice Ax lx cx) HK.out);have jU:=zh ((Chg.refl (fun q=>q=Nb) aV).setCell (p:=⟨Nb,1,none⟩) (.inl rfl) (.slice Ax lx cx));have cf:∀o,aV.frozen? ⟨Nb,o,none⟩=false:=fun o=>zf HK.out;have bQ:=zh (dO.out.trans (jU.out.below (B:=wr.heap.size) dO.out.size fun q e=>by rw[e];exact hNw));have iQ:=zh (zzK (w':=aV.setCell ⟨Nb,1,none⟩ (.slice Ax lx cx)) wo.out (qy.out.keep (S':=fun q=>q<B2) (fun _ h _=>h) fun q h hq=>jU.out.block q hq fun e=>by
          rcases h with h|h
          ·omega
          ·exact vZ.out (e▸h)) lC.out (kW.out.keep (S':=fun q=>q<B2) (fun q h _=>h) fun q h hq=>(jR.out _ bQ.out).block q h) fE.out hlx (xV.out.lim (by omega)))
         go_upto_region 24 with fail;obtain⟨ny,mU⟩:=zX (aV.setCell ⟨Nb,1,none⟩ (.slice Ax lx cx));rw[mU]at dM jU bQ iQ ⊢;clear mU hx8 j3 cf;have HL11:=xV.out.lim (by omega);have mG:e2+1<=1000000:=by
          have h:=HPF.out k;rw[<-wG.out.2,<-ed.out.2,ed.out.1]at h;omega
         obtain⟨xs,hown,fH,hpush⟩:=uH.out.manyA (W0:=wc) (we:=ny.alloc (.cells #[(.slice A9 l5 c9),(.slice Ax lx cx),.slice none 0 0] 32)) (ys:=[nwS n j s x]) (us:=[((.slice A9 l5 c9),(.slice Ax lx cx),.slice none 0 0)]) ed.out.1 kF.out (by omega) rfl (bQ.out.trans ((zkb (zs ny) _).mono bQ.out.size)) (fun k hk hv=>by
          obtain rfl:k=0:=by simpa using hk
          exact(iQ.out).keep (fun q h _=>h) fun q _ h=>(zkb (zs ny) _).block q h) (m:=1) rfl
         obtain⟨k0,k1,k2⟩:=zkz dM.out;have ji:=zh hpush;clear hpush;go_wp2_with (at_builtin;refine zki rfl (.tmp 98) (.tmp 100) rfl underlying27 zmn rfl (by decide) (by decide) B2 (.slice CJ e2 Bv) e2 xs rfl hown (some ⟨ny.heap.size,0,none⟩) 1 1 [.slice A9 l5 c9,.slice Ax lx cx,.slice none 0 0] rfl rfl (fun e=>by cases e) (zmA ny _ _ _ _) (one3 ⟨rfl,rfl,rfl⟩) mG fH ?_;intro v8 w8 ho hg aj;obtain⟨A8,c8,rfl,hc8,dZ,iB⟩:=ji.out _ _ ho hg aj;clear ho hg aj)
         go_roundw
         case rel=>exact⟨k+1,A8,e2+1,c8,jK++[nwS n j s x],by omega,by go_num,rfl,zh ⟨by rw[List.length_append,ed.out.1];rfl,by rw[rD.out,ed.out.2,List.append_assoc]⟩,dZ,iB⟩
         case measure=>simp[intOf];omega
        ·have hjb:((j:Int)==(n:Int))=false:=by simp;omega
         have wo:=zh hjn;clear hjn;go_upto_region 23 with fail;have hd:=(zs aV).drew;obtain⟨W0,hW0⟩:=zX (aV.drew);rw[hW0]at hd;have hSS:(fun w':World=>w'.cell? (ax.add k)=some (.slice Ax lx cx)) W0/\(fun w':World=>zv w' Nb 0 (.slice A9 l5 c9)) W0:=⟨qL.out _ (jR.out _ (dO.out.trans (hd.mono dO.out.size))),zb hd (zkz HK.out).1⟩
         have hd2:=zka hd (zkb (zs W0) (.cells #[.slice Ax lx cx] 30));have ui:=zko HK.out;have hBW:=dO.out.trans (hd2.mono dO.out.size);obtain⟨vs9,eT,hpu9⟩:=(qy.out.keep (W':=W0.alloc (.cells #[.slice Ax lx cx] 30)) (S':=fun q=>q<B2) (fun _ h _=>h) fun q _ h=>hd2.block q h).more lC.out hsz (kW.out.keep (S':=fun q=>q<B2) (fun q h _=>h) fun q h hq=>(jR.out _ hBW).block q h) fE.out hlx (Nb:=Nb) (Nat.lt_of_lt_of_le ui hd2.size) vZ.out hBW.size;have kZ:=zh hpu9;have hkb:=(hd2.block Nb ui).trans HK.out;have hszW:=hBW.size;have vN:=bL1R;refine wp_region_noPanic ?_;refine zkk (fun w':World=>w'.cell? (ax.add k)=some (.slice Ax lx cx)) (fun w':World=>zv w' Nb 0 (.slice A9 l5 c9)) 9 (by kernel_rfl) ?_;rw[hW0];clear hW0 hpu9;refine zT 0 hSS ?_;refine zJ 1 hSS ?_;refine zT 2 hSS ?_;refine zT 3 hSS ?_;refine zT 4 hSS ?_;refine zT 5 hSS ?_;refine zo 6 fun K hK=>?_
         go_simp;refine hK.out _ _ ⟨qL.out _ (jR.out _ hBW),zb hd2 (zkz HK.out).1⟩ ?_;clear hK K hSS;(try simp only[zQ]);have hnw:=zl1 W0 (.slice Ax lx cx) 30;have sO:=hnw ⟨W0.heap.size,0,none⟩ rfl;obtain⟨W1,hW1⟩:=zX (W0.alloc (.cells #[.slice Ax lx cx] 30));rw[hW1]at eT kZ hkb hszW hBW sO ⊢;clear hnw hW1 hd2 hd ui;refine zo 7 fun K hK=>?_;refine zmX (by rfl) (.tmp 90) (.tmp 95) (by rfl) underlying29 zm0 (by rfl) (by decide) (by decide) wr.heap.size (.slice A9 l5 c9) l5 vs9 (by rfl) eT ⟨W0.heap.size,0,none⟩ 1 1 [.slice Ax lx cx] (by rfl) (by rfl) sO (zpF _ _ _) (by omega) hszW ?_;intro v13 lJ ho hg aj;obtain⟨ve,c13,rfl,HB13,uI,HN13,HNE13⟩:=kZ.out _ _ ho hg aj;clear ho hg aj;have nU:=zh (HN13.out.trans hkb);have iF:=zh (hBW.trans HB13.out);have hc1:=qL.out _ (jR.out _ iF.out);refine hK.out _ _ ⟨hc1,(zkz nU.out).1⟩ ?_
         clear hK K eT sO hkb hBW;(try simp only[zQ]);refine zo 8 fun K hK=>?_;go_simp;refine hK.out _ _ ⟨hc1,(zkz nU.out).1⟩ ?_;clear hK K;(try simp only[zQ]);have cf:∀o,lJ.frozen? ⟨Nb,o,none⟩=false:=fun o=>zf nU.out;have hk13:=zkz nU.out;have dM:=zh (heap_setCell_same lJ Nb 0 _ _ (.slice ve (l5+1) c13) nU.out);have jU:=zh ((Chg.refl (fun q=>q=Nb) lJ).setCell (p:=⟨Nb,0,none⟩) (.inl rfl) (.slice ve (l5+1) c13));have bQ:=zh (iF.out.trans (jU.out.below (B:=wr.heap.size) iF.out.size fun q e=>by rw[e];exact hNw));have iQ:=zh (zzJ (w':=lJ.setCell ⟨Nb,0,none⟩ (.slice ve (l5+1) c13)) wo.out (uI.out.keep (S':=fun q=>q<B2) (fun _ h _=>h) fun q h hq=>jU.out.block q hq fun e=>by
          rcases h with h|h
          ·omega
          ·exact HNE13.out (e▸h)) lC.out (xV.out.lim (by omega)))
         refine zp 9 fun K hK=>?_;(try simp only[zA,zB,zC]);go_simp;obtain⟨ny,mU⟩:=zX (lJ.setCell ⟨Nb,0,none⟩ (.slice ve (l5+1) c13));rw[mU]at dM jU bQ iQ ⊢;clear mU hk13 cf hc1;refine hK.out _ _ (qL.out _ (jR.out _ bQ.out)) ?_;clear hK K;(try simp only[zQ]);refine zd ?_;refine NoPanic.normal ?_;have HL11:=xV.out.lim (by omega);have mG:e2+1<=1000000:=by
          have h:=HPF.out k;rw[<-wG.out.2,<-ed.out.2,ed.out.1]at h;omega
         obtain⟨xs,hown,fH,hpush⟩:=uH.out.manyA (W0:=wc) (we:=ny.alloc (.cells #[(.slice ve (l5+1) c13),(.slice none 0 0),.slice none 0 0] 32)) (ys:=[nwS n j s x]) (us:=[((.slice ve (l5+1) c13),(.slice none 0 0),.slice none 0 0)]) ed.out.1 kF.out (by omega) rfl (bQ.out.trans ((zkb (zs ny) _).mono bQ.out.size)) (fun k hk hv=>by
          obtain rfl:k=0:=by simpa using hk
          exact(iQ.out).keep (fun q h _=>h) fun q _ h=>(zkb (zs ny) _).block q h) (m:=1) rfl
         obtain⟨k0,k1,k2⟩:=zkz dM.out;have ji:=zh hpush;clear hpush;go_wp2_with (at_builtin;refine zki rfl (.tmp 98) (.tmp 100) rfl underlying27 zmn rfl (by decide) (by decide) B2 (.slice CJ e2 Bv) e2 xs rfl hown (some ⟨ny.heap.size,0,none⟩) 1 1 [.slice ve (l5+1) c13,.slice none 0 0,.slice none 0 0] rfl rfl (fun e=>by cases e) (zmA ny _ _ _ _) (one3 ⟨rfl,rfl,rfl⟩) mG fH ?_;intro v8 w8 ho hg aj;obtain⟨A8,c8,rfl,hc8,dZ,iB⟩:=ji.out _ _ ho hg aj;clear ho hg aj)
         go_roundw
         case rel=>exact⟨k+1,A8,e2+1,c8,jK++[nwS n j s x],by omega,by go_num,rfl,zh ⟨by rw[List.length_append,ed.out.1];rfl,by rw[rD.out,ed.out.2,List.append_assoc]⟩,dZ,iB⟩
         case measure=>simp[intOf];omega
       ·obtain rfl:k=ll:=by omega
        have hk1:¬ (k:Int)<(k:Int):=by omega
        go_wp2_with fail
        go_roundw
        case rel=>exact⟨p+1,CJ,e2,Bv,jK,by omega,by go_num,rfl,zh ⟨ed.out.1,by rw[HTP.out,ed.out.2,wG.out.2,<-dF.out,List.take_length]⟩,kF,uH⟩
        case measure=>simp[intOf];omega
     ·obtain rfl:p=m:=by omega
      have hp1:¬ (p:Int)<(p:Int):=by omega
      have bz:=zh (show ∀w',Below B2 wc w'->Below w.heap.size w w' from fun w' h=>zka HB2.out (hB2▸h));have hac:acc=s2:=by rw[wG.out.2,<-gq.out,List.take_length];exact nL.out.symm
      have hae:=wG.out.1;obtain⟨A9,c9,e9,bI,lL⟩:=uH.out.sa;injection e9 with e91 e92 e93;rw[hac]at lL hae bI;subst e91 e93;have hs60:=uD.out;have bL:=zh lL;have HE9:=zh hae;rw[hae]at hs60 bI;clear lL hae hac e92;go_wp2_with fail
      go_roundw
      case rel=>exact⟨j+1,An,e,cn,by omega,by go_num,rfl,bI,hs60,by rw[HS2.out];exact HE9,zh (bz.out _ kF.out),by rw[HS2.out];exact bL⟩
      case measure=>simp[intOf];omega
  ·obtain rfl:j=n+1:=by omega
   have hj1:¬ ((n:Int)+1)<=(n:Int):=by omega
   have hjj:=jW.out;rw[hjj]at gq iR;have hR9l:R9.length=m:=by rw[eD.out];exact zod m U9 gq.out
   have hgd:=wC.out (n+1) (by omega);rw[hjj]at hgd;have HC:=zh (zsK m U9 As cs wr gq.out hmc (by omega) iR.out fun s h=>(hgd s h).sm (by omega));have iA:=zh hR9l;clear hjj hgd hR9l;go_wp2_with fail;refine HC.out.mono ?_;rintro e w9 ⟨v,rfl,⟨A9,c9,rfl,bI,lL⟩,aS⟩;have bL:=zh lL;have aH:=zh (zka HB.out aS);clear lL aS;go_wp2_with fail;go_ret;exact⟨_,rfl,⟨A9,c9,by rw[iA.out];rfl,by rw[iA.out];exact bI,by rw[eD.out];exact bL.out⟩,aH.out⟩
end
end Go.Proofs.YtembgnhbpmfhpaaGreat
