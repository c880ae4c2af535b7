/-
  Texts of the proof, put together without their remarks: Ib, Fw, Ig, Eqv, Wfp, Pfi, Rxp, Pvl, Gpl, Alt, Alf, Gex, Gcm, Sve, Gad, If, Lfp, Gra.
-/
import Derived.Test.YthjinpodhacleaaGreatR10
import Derived.Laws.StructEq
import Derived.Laws.OwnMore
set_option linter.unusedSimpArgs false
set_option linter.unusedVariables false
set_option maxHeartbeats 8000000
set_option maxRecDepth 100000
namespace Go.Proofs.YthjinpodhacleaaGreat
open Tryz
section
open Go Go.RowKit
def Fam(p:PG):Prop:=∃G:List PR->T->Prop,(∀g,IStC G g)/\(zkA p=true->chkN p=0->(∀u∈p.m.ks,G p.prs u)/\∀(F:Int) (g:Nat) (back:Bool) (r:RS),Nz (runO p.prs F g back p.m r))
theorem zyC(p:PG):Fam p:=⟨GP,zrO zzc,fun hv hc=>⟨zrB hv hc,fun _ _ _ _=>ztA zzc (zrB hv hc)⟩⟩
theorem zsu{G:List PR->T->Prop}(hS:∀g,IStC G g){C:RC}(hC:C.Ok){W:World}{r:RS}(h:RI C W r)(hG:∀u∈C.p.m.ks,G C.p.prs u)(g:Nat)(back:Bool)(hg:runO C.p.prs C.F g back C.p.m r ≠ .gas)(pb qb bb:Nat)
  (h0:W.cell? ⟨pb,0,none⟩=some (.pointer (some ⟨C.rb,0,none⟩)))(hq:W.heap[qb]?=some (.cells #[.slice C.A1 C.p.vs.length C.c1,.slice C.A2 C.p.prs.length C.c2,.int .u8 C.p.m.k,.int .i64 C.p.m.n,.string C.p.m.s,.slice C.A3 C.p.m.ks.length C.c3] 30 (0,0)))(hb:W.cell? ⟨bb,0,none⟩=some (.bool back)) :
  Calls prog 75 #[.pointer (some ⟨pb,0,none⟩),.pointer (some ⟨qb,0,none⟩),.pointer (some ⟨bb,0,none⟩)] W (RunP C W (runO C.p.prs C.F g back C.p.m r)):=by
 have av:=zh (zle (hS g) hC h C.p.m _ back hC.pg.main hG hg);have q2:W.cell? ⟨qb,2,none⟩=some (.int .u8 C.p.m.k):=zc hq rfl;have q3:W.cell? ⟨qb,3,none⟩=some (.int .i64 C.p.m.n):=zc hq rfl;have q4:W.cell? ⟨qb,4,none⟩=some (.string C.p.m.s):=zc hq rfl;have q5:W.cell? ⟨qb,5,none⟩=some (.slice C.A3 C.p.m.ks.length C.c3):=zc hq rfl;obtain⟨o,ho⟩:=zX (runO C.p.prs C.F g back C.p.m r);rw[ho]at av hg ⊢;clear hC h hG hq ho;go_enter func75,ntmps75;go_wp2_with fail;refine av.out.mono ?_;rintro e w1 ⟨hk1,hb1,ho1⟩
 cases o with
 | gas=>exact absurd rfl hg
 | err x =>
  subst ho1;exact⟨rfl,hk1,hb1,rfl⟩
 | ok r1 =>
  obtain⟨⟨u,rfl⟩,hr1⟩:=ho1;have HR:=zh hr1;have aD:=zh hk1;have HB1:=zh hb1;clear h0 q2 q3 q4 q5 hb hr1 hk1 hb1;go_wp2_with fail;go_end0;exact⟨aD.out,HB1.out,⟨_,rfl⟩,HR.out⟩
def outR(s:SS):Out->SS×Nat×Int×List Nat
 | .ok r=>(r.S.state,r.n,0,r.ent)
 | .err e=>(s,0,e,[])
 | .gas=>(s,0,0,[])
def resO(p:PG)(s:SS)(F:Int)(g:Nat)(back:Bool):SS×Nat×Int×List Nat :=
 if zkA p=false\/chkN p≠0 then(s,0,3,[])else if fitB p.vs s=false then(s,0,20,[])else outR s (runO p.prs F g back p.m ⟨newS p.vs s,0,List.replicate p.prs.length 0⟩)
def LimR(R:SS×Nat×Int×List Nat):Prop:=R.1.Lim/\(R.2.2.1=0->R.1.cells.length<=1000+R.2.1/\(∀l∈R.1.cells,l.length<=1000)/\R.1.tin.length<=4096/\R.1.tout.length<=4096)
theorem LimR.run{r:RS}(h:r.S.WF)(hf:FB r.n r.S)(e:List Nat):LimR (r.S.state,r.n,0,e):=by
 obtain⟨-,h1,h2⟩:=ztw h;obtain⟨kd,hb,-⟩:=h.ex;refine⟨h1,fun _=>⟨?_,h2,h.tin.1,h.tout.1⟩⟩;have:=hb.len;have:=hf.1;simp only[ST.state,List.length_map,List.length_take];omega
def ResP(W:World)(R:SS×Nat×Int×List Nat)(e:Ending)(W':World):Prop:=∃A c v1 v2 v3,e=.returned (.tuple #[.slice A R.2.2.2.length c,.agg #[v1,v2,v3,.int .i64 (R.2.1:Int),.int .i64 R.2.2.1]]) /\
 OwnS W' W.heap.size R.1 (.agg #[v1,v2,v3])/\RowI W' (fun b=>W.heap.size<=b) A (R.2.2.2.map Int.ofNat)/\R.2.2.2.length<=c/\Below W.heap.size W W'/\LimR R
theorem OwnS.slices{W:World}{n0:Nat}{s:SS}{v:Value}(h:OwnS W n0 s v):∃A c B d D e,v=.agg #[.slice A s.cells.length c,.slice B s.tin.length d,.slice D s.tout.length e]:=by
 obtain⟨vc,vi,vo,fc,rfl,hr,-⟩:=h;obtain⟨A,c,e1,-⟩:=zkg (hr.row .all);obtain⟨B,d,e2,-⟩:=zkg (hr.row .inp);obtain⟨D,e,e3,-⟩:=zkg (hr.row .out);change vc=.slice A s.cells.length c at e1;change vi=.slice B s.tin.length d at e2;change vo=.slice D s.tout.length e at e3;exact⟨A,c,B,d,D,e,by rw[e1,e2,e3]⟩
theorem OwnS.chg{W W':World}{n0:Nat}{s:SS}{v:Value}{Cc:Nat->Prop}(h:OwnS W n0 s v)(hc:Chg Cc W W')(hC:∀b,Cc b->b<n0):OwnS W' n0 s v:=by
 obtain⟨vc,vi,vo,fc,rfl,hr,hi⟩:=h;exact⟨vc,vi,vo,fc,rfl,hr.chg hc fun i b hb hcb=>by have:=(hr.lt i b hb).1;have:=hC b hcb;omega,hi⟩
theorem OwnS.lower{W:World}{n0 n1:Nat}{s:SS}{v:Value}(h:OwnS W n1 s v)(hn:n0<=n1):OwnS W n0 s v:=by
 obtain⟨vc,vi,vo,fc,rfl,hr,hi⟩:=h;exact⟨vc,vi,vo,fc,rfl,hr.mono hn,hi⟩
theorem set5{W:World}{b:Nat}{x0 x1 x2 x3 x4 u0 u1 u2 u3 u4:Value}{E:TypeId}(h:W.heap[b]?=some (.cells #[x0,x1,x2,x3,x4] E (0,0))) :
  (((((W.setCell ⟨b,0,none⟩ u0).setCell ⟨b,1,none⟩ u1).setCell ⟨b,2,none⟩ u2).setCell ⟨b,3,none⟩ u3).setCell ⟨b,4,none⟩ u4).heap[b]?=some (.cells #[u0,u1,u2,u3,u4] E (0,0)) /\
   Chg (fun q=>q=b) W (((((W.setCell ⟨b,0,none⟩ u0).setCell ⟨b,1,none⟩ u1).setCell ⟨b,2,none⟩ u2).setCell ⟨b,3,none⟩ u3).setCell ⟨b,4,none⟩ u4):=by
 refine⟨?_,(((((Chg.refl (fun q=>q=b) W).setCell (p:=⟨b,0,none⟩) (.inl rfl) _).setCell (p:=⟨b,1,none⟩) (.inl rfl) _).setCell (p:=⟨b,2,none⟩) (.inl rfl) _).setCell (p:=⟨b,3,none⟩) (.inl rfl) _).setCell (p:=⟨b,4,none⟩) (.inl rfl) _⟩;rw[heap_setCell_same _ b 4 _ _ u4 (heap_setCell_same _ b 3 _ _ u3 (heap_setCell_same _ b 2 _ _ u2 (heap_setCell_same _ b 1 _ _ u1 (heap_setCell_same W b 0 _ _ u0 h))))];simp
theorem bRes(A B D:Option Addr)(l c m d n e:Nat)(x:Int)(w:World):(Instr.build 58 #[(0,.agg #[.slice A l c,.slice B m d,.slice D n e]),(2,.int .i64 x)]).run prog w=.ok (.agg #[.slice A l c,.slice B m d,.slice D n e,.int .i64 0,.int .i64 x]) w:=by kernel_rfl
theorem zKD(A B D:Option Addr)(l c m d n e:Nat)(x:Int)(w:World):(Instr.build 58 #[(0,.agg #[.slice A l c,.slice B m d,.slice D n e]),(1,.int .i64 x)]).run prog w=.ok (.agg #[.slice A l c,.slice B m d,.slice D n e,.int .i64 x,.int .i64 0]) w:=by kernel_rfl
theorem zt2(n:Nat):madeCells (Value.int .i64 0).cells (n*1)=(zki (List.replicate n 0)).toArray:=by
 apply Array.ext';apply List.ext_getElem
 ·rw[Array.length_toList,size_madeCells];simp[zki]
 ·intro i h1 h2;have e:i % 1=0:=by omega
  simp[madeCells,zki,Value.cells,e]
theorem zKE(n:Nat)(hn:n<=4096)(w:World):(Instr.makeSlice 42 (.int .i64 (n:Int)) (.int .i64 (n:Int))).run prog w=.ok (.slice (some ⟨w.heap.size,0,none⟩) n n) (w.alloc (.cells (zki (List.replicate n 0)).toArray 3)):=by
 have h:=znA;obtain⟨i,hi,hz⟩:=Option.map_eq_some_iff.1 h;injection hz with h1 h2;injection h2 with h2 h3;have hsc:(4096:Nat)<=9223372036854775807:=by decide
 have:=zk6 (P:=prog) 42 3 i (.int .i64 0) underlying42 hi h1 .i64 .i64 n n zl (by rw[h3];omega) (Nat.le_trans hn hsc) w;rw[h2,zt2]at this;exact this
theorem bRun(A1 A2 A3 E:Option Addr)(l1 c1 l2 c2 l3 c3 m d:Nat)(k n F:Int)(s:ByteArray)(sb:Nat)(w:World):(Instr.build 127 #[(0,pv A1 l1 c1 A2 l2 c2 k n s A3 l3 c3),(1,.pointer (some ⟨sb,0,none⟩)),(3,.int .i64 F),(4,.slice E m d)]).run prog w =
  .ok (.agg #[.slice A1 l1 c1,.slice A2 l2 c2,.int .u8 k,.int .i64 n,.string s,.slice A3 l3 c3,.pointer (some ⟨sb,0,none⟩),.int .i64 0,.int .i64 F,.slice E m d]) w:=by kernel_rfl
theorem zu2{W:World}{a b:Nat}{x y:Array Value}{E F:TypeId}(ha:W.heap[a]?=some (.cells x E (0,0)))(hb:W.heap[b]?=some (.cells y F (0,0)))(hne:E≠F):a≠b:=by
 rintro rfl;rw[ha]at hb;injection hb with hb;injection hb with h1 h2;exact hne h2
theorem zqI{W w4 w8 w11:World}{n0:Nat}{kb:Nat->Prop}(h4:Below W.heap.size W w4)(h11:Below W.heap.size W w11)(h48:Below w4.heap.size w4 w8)(hk:Kpt n0 kb w8 w11)(hn:w4.heap.size<=n0):Below w4.heap.size w4 w11 :=
 ⟨h11.os.trans h4.os.symm,h11.tape.trans h4.tape.symm,h11.output.trans h4.output.symm,Nat.le_trans h48.size hk.size,fun b hb=>(hk.kept b (Nat.lt_of_lt_of_le hb h48.size) (.inl (Nat.lt_of_lt_of_le hb hn))).trans (h48.block b hb)⟩
theorem zwB:IsFn prog 75 f75:=⟨func75,by kernel_rfl,by kernel_rfl⟩
theorem zwA:IsFn prog 77 f77:=⟨func77,by kernel_rfl,by kernel_rfl⟩
def OkR(C:RC)(lo hi:Nat)(o:Out)(w9 w':World):Prop:=∃r,o=.ok r/\(C.plus lo hi).Ok/\RI (C.plus lo hi) w' r/\Kpt C.n0 C.kb w9 w'
def ErX(C:RC)(o:Out)(w9:World)(x:Int)(w':World):Prop:=o=.err x/\Kpt C.n0 C.kb w9 w'/\Below C.w.heap.size C.w w'
theorem zrt{G:List PR->T->Prop}(hS:∀g,IStC G g){C:RC}{w8 w9:World}{r:RS}{jb:Nat}(hC8:C.Ok)(h8:RI C w8 r)(dF:w8.alloc (.cells #[.slice none 0 0,.bool false] 132)=w9)(hjb:w8.heap.size=jb)(hG:∀u∈C.p.m.ks,G C.p.prs u)(g:Nat)(back:Bool)(o:Out)(ho:runO C.p.prs C.F g back C.p.m r=o)(hg:o ≠ .gas)(pb qb bb:Nat)
  (h0:w8.cell? ⟨pb,0,none⟩=some (.pointer (some ⟨C.rb,0,none⟩)))(hq:w8.heap[qb]?=some (.cells #[.slice C.A1 C.p.vs.length C.c1,.slice C.A2 C.p.prs.length C.c2,.int .u8 C.p.m.k,.int .i64 C.p.m.n,.string C.p.m.s,.slice C.A3 C.p.m.ks.length C.c3] 30 (0,0)))(hb:w8.cell? ⟨bb,0,none⟩=some (.bool back)) :
  Calls prog 74 #[.pointer (some ⟨jb,0,none⟩),.func (.func 75) #[] #[.pointer (some ⟨pb,0,none⟩),.pointer (some ⟨qb,0,none⟩),.pointer (some ⟨bb,0,none⟩)]] w9 (AttP w9 (OkR (C.plus jb w9.heap.size) w9.heap.size (w9.heap.size+3) o w9) (ErX (C.plus jb w9.heap.size) o w9)):=by
 have hbj:=zkb (zs w8) (.cells #[.slice none 0 0,.bool false] 132);have kj:=heap_alloc_new w8 (.cells #[.slice none 0 0,.bool false] 132);obtain⟨hC9,h9⟩:=h8.plus hC8 hbj;rw[dF,hjb]at kj hC9 h9;rw[dF]at hbj;have hjl:=zkf kj;refine zrE jb _ _ zwB _ w9 kj _ _ fun W1 hb1 hz1=>?_;obtain⟨bA,h1⟩:=h9.plus hC9 hb1;have hbt:=zka hbj hb1;have hrun:=zsu hS bA h1 hG g back (show runO C.p.prs C.F g back C.p.m r ≠ .gas by rw[ho];exact hg) pb qb bb (zb hbt h0) (zkc hq hbt) (zb hbt hb);refine hrun.mono ?_;rintro e w' ⟨hk,hbl,hout⟩;rw[show runO ((C.plus jb w9.heap.size).plus w9.heap.size W1.heap.size).p.prs ((C.plus jb w9.heap.size).plus w9.heap.size W1.heap.size).F g back ((C.plus jb w9.heap.size).plus w9.heap.size W1.heap.size).p.m r=o from ho]at hout;refine⟨fun b hb hlt=>hk.kept b hlt (.inr ?_),?_⟩
 ·rcases hb with hb|rfl
  ·exact .inr ⟨hb,hlt⟩
  ·exact .inl (.inr ⟨zl,hjl⟩)
 ·have hkk:Kpt C.n0 (C.plus jb w9.heap.size).kb w9 w':=(Kpt.of_below hb1).trans (Kpt.less (C:=C.plus jb w9.heap.size) hk)
  cases o with
  | gas=>exact absurd rfl hg
  | err x=>exact .inr ⟨x,hout,rfl,hkk,hbl⟩
  | ok r1 =>
   rw[hz1]at bA hout;exact .inl ⟨hout.1,r1,rfl,bA,hout.2,hkk⟩
theorem ztx(p:PG)(s:SS)(F:Int)(g:Nat)(back:Bool)(v sv:Value)(W:World)(hp:PV W Any p v)(hs:SV W Any s sv)(hcl:s.cells.length<=5864062014800)(hF:I64 F)(qI:F<=1000000)(hg:F.toNat*2000+2000<=g)(hfam:Fam p) :
  Calls prog 42 #[v,sv,.int .i64 F,.bool back] W (ResP W (resO p s F g back)):=by
 have HFAM:=zh hfam;clear hfam;have HP:=zh hp;have HS:=zh hs;obtain⟨A1,c1,A2,c2,A3,c3,rfl,jq⟩:=hp;obtain⟨A,c,B,d,D,e,rfl,hr1,hr2,hr3,hc1,hc2,hc3,hl1,hl2,hl3,hl4⟩:=hs;have xV:=zh jq;have oJ:=zh (show s.Lim from⟨hl1,hl2,hl3,hl4⟩);have HV:=zh (fun w' (hb:Below W.heap.size W w')=>zlz p Any _ w' (HP.out.later hb));have bN:=zh (fun w' (hb:Below W.heap.size W w')=>zlJ p Any _ w' (HP.out.later hb));have dR:=zh (fun w' (hb:Below W.heap.size W w')=>zp1 s _ w' (HS.out.later hb) hcl);have wH:=zh (fun w' (hb:Below W.heap.size W w')=>zzb p.vs s A1 c1 _ w' (jq.vars.later hb) jq.lv (HS.out.later hb));obtain⟨Re,hRe⟩:=zX (resO p s F g back);have gK:=zh hRe;rw[hRe]
 have hb4:=zkb (zkb (zkb (zkb (zs W) (.cells #[.slice A1 p.vs.length c1,.slice A2 p.prs.length c2,.int .u8 p.m.k,.int .i64 p.m.n,.string p.m.s,.slice A3 p.m.ks.length c3] 30)) (.cells #[.slice A s.cells.length c,.slice B s.tin.length d,.slice D s.tout.length e] 44)) (.cells #[.bool back] 4)) (.cells #[.slice none 0 0,.slice none 0 0,.slice none 0 0,.int .i64 0,.int .i64 0] 58);have k0:=zkd (zkd (zkd (heap_alloc_new W (.cells #[.slice A1 p.vs.length c1,.slice A2 p.prs.length c2,.int .u8 p.m.k,.int .i64 p.m.n,.string p.m.s,.slice A3 p.m.ks.length c3] 30)) (.cells #[.slice A s.cells.length c,.slice B s.tin.length d,.slice D s.tout.length e] 44)) (.cells #[.bool back] 4)) (.cells #[.slice none 0 0,.slice none 0 0,.slice none 0 0,.int .i64 0,.int .i64 0] 58)
 have k1:=zkd (zkd (heap_alloc_new (W.alloc (.cells #[.slice A1 p.vs.length c1,.slice A2 p.prs.length c2,.int .u8 p.m.k,.int .i64 p.m.n,.string p.m.s,.slice A3 p.m.ks.length c3] 30)) (.cells #[.slice A s.cells.length c,.slice B s.tin.length d,.slice D s.tout.length e] 44)) (.cells #[.bool back] 4)) (.cells #[.slice none 0 0,.slice none 0 0,.slice none 0 0,.int .i64 0,.int .i64 0] 58);have k2:=zkd (heap_alloc_new ((W.alloc (.cells #[.slice A1 p.vs.length c1,.slice A2 p.prs.length c2,.int .u8 p.m.k,.int .i64 p.m.n,.string p.m.s,.slice A3 p.m.ks.length c3] 30)).alloc (.cells #[.slice A s.cells.length c,.slice B s.tin.length d,.slice D s.tout.length e] 44)) (.cells #[.bool back] 4)) (.cells #[.slice none 0 0,.slice none 0 0,.slice none 0 0,.int .i64 0,.int .i64 0] 58)
 have k3:=heap_alloc_new (((W.alloc (.cells #[.slice A1 p.vs.length c1,.slice A2 p.prs.length c2,.int .u8 p.m.k,.int .i64 p.m.n,.string p.m.s,.slice A3 p.m.ks.length c3] 30)).alloc (.cells #[.slice A s.cells.length c,.slice B s.tin.length d,.slice D s.tout.length e] 44)).alloc (.cells #[.bool back] 4)) (.cells #[.slice none 0 0,.slice none 0 0,.slice none 0 0,.int .i64 0,.int .i64 0] 58);simp only[World.size_alloc]at k1 k2 k3;have mr:((((W.alloc (.cells #[.slice A1 p.vs.length c1,.slice A2 p.prs.length c2,.int .u8 p.m.k,.int .i64 p.m.n,.string p.m.s,.slice A3 p.m.ks.length c3] 30)).alloc (.cells #[.slice A s.cells.length c,.slice B s.tin.length d,.slice D s.tout.length e] 44)).alloc (.cells #[.bool back] 4)).alloc (.cells #[.slice none 0 0,.slice none 0 0,.slice none 0 0,.int .i64 0,.int .i64 0] 58)).heap.size=W.heap.size+4:=by simp
 obtain⟨w4,hw4⟩:=zX (((((W.alloc (.cells #[.slice A1 p.vs.length c1,.slice A2 p.prs.length c2,.int .u8 p.m.k,.int .i64 p.m.n,.string p.m.s,.slice A3 p.m.ks.length c3] 30)).alloc (.cells #[.slice A s.cells.length c,.slice B s.tin.length d,.slice D s.tout.length e] 44)).alloc (.cells #[.bool back] 4)).alloc (.cells #[.slice none 0 0,.slice none 0 0,.slice none 0 0,.int .i64 0,.int .i64 0] 58)));rw[hw4]at hb4 k0 k1 k2 k3 mr;have ax:=zh hb4;have aH:=zh k0;have aD:=zh k1;have aQ:=zh k2;have fH:=zh k3;have qM:=zh mr;have p0:w4.cell? ⟨W.heap.size,0,none⟩=some (.slice A1 p.vs.length c1):=zc k0 rfl;have p1:w4.cell? ⟨W.heap.size,1,none⟩=some (.slice A2 p.prs.length c2):=zc k0 rfl;have p2:w4.cell? ⟨W.heap.size,2,none⟩=some (.int .u8 p.m.k):=zc k0 rfl;have p3:w4.cell? ⟨W.heap.size,3,none⟩=some (.int .i64 p.m.n):=zc k0 rfl;have p4:w4.cell? ⟨W.heap.size,4,none⟩=some (.string p.m.s):=zc k0 rfl
 have p5:w4.cell? ⟨W.heap.size,5,none⟩=some (.slice A3 p.m.ks.length c3):=zc k0 rfl;obtain⟨vb,hvb⟩:=zX (zkA p);have aZ:=zh hvb;rw[hvb]at HV bN;clear jq hr1 hr2 hr3 hRe hvb hb4 k0 k1 k2 k3 mr hl1 hl2 hl3 hl4 hc1 hc2 hc3;go_enter func42,ntmps42;go_wp2_with fail;refine(HV.out w4 ax.out).mono ?_;rintro e5 w5 ⟨rfl,b5⟩;clear hw4
 cases vb
 ·have HX:=zh (show Re=(s,0,3,[]) by rw[<-gK.out,resO,if_pos (.inl aZ.out)]);clear p0 p1 p2 p3 p4 p5;have dS:=zkc aD.out b5;have jC:=zkc fH.out b5;have s0:w5.cell? ⟨W.heap.size+1,0,none⟩=some (.slice A s.cells.length c):=zc dS rfl;have s1:w5.cell? ⟨W.heap.size+1,1,none⟩=some (.slice B s.tin.length d):=zc dS rfl;have s2:w5.cell? ⟨W.heap.size+1,2,none⟩=some (.slice D s.tout.length e):=zc dS rfl;have aJ:=zh (dR.out w5 (zka ax.out b5));have dJ:=zh jC;have hbq:=b5;clear dS jC;go_wp2_with fail;refine aJ.out.mono ?_;rintro e9 w9 ⟨v9,rfl,dL,aT⟩;obtain⟨A9,c9,B9,d9,D9,e9,rfl⟩:=dL.slices;have eF:=zh dL;have bE:=zh (zka hbq aT);have aL:=zkc dJ.out aT;have x0:w9.cell? ⟨W.heap.size+3,0,none⟩=some (.slice none 0 0):=zc aL rfl;have x1:w9.cell? ⟨W.heap.size+3,1,none⟩=some (.slice none 0 0):=zc aL rfl
  have x2:w9.cell? ⟨W.heap.size+3,2,none⟩=some (.slice none 0 0):=zc aL rfl;have x3:w9.cell? ⟨W.heap.size+3,3,none⟩=some (.int .i64 0):=zc aL rfl;have x4:w9.cell? ⟨W.heap.size+3,4,none⟩=some (.int .i64 0):=zc aL rfl;have xf:∀o,w9.frozen? ⟨W.heap.size+3,o,none⟩=false:=fun _=>zf aL;have iN:=zh aL;have hbr:=bRes;have rU:W.heap.size+4<=w5.heap.size:=by have:=hbq.size;rw[qM.out]at this;exact this
  clear s0 s1 s2 aL dL aT hbq aJ;go_wp2_with fail;obtain⟨hh,hch⟩:=set5 (u0:=.slice A9 s.cells.length c9) (u1:=.slice B9 s.tin.length d9) (u2:=.slice D9 s.tout.length e9) (u3:=.int .i64 0) (u4:=.int .i64 3) iN.out;obtain⟨aM,bU⟩:=zX ((((((w9.setCell ⟨W.heap.size+3,0,none⟩ (.slice A9 s.cells.length c9)).setCell ⟨W.heap.size+3,1,none⟩ (.slice B9 s.tin.length d9)).setCell ⟨W.heap.size+3,2,none⟩ (.slice D9 s.tout.length e9)).setCell ⟨W.heap.size+3,3,none⟩ (.int .i64 0)).setCell ⟨W.heap.size+3,4,none⟩ (.int .i64 3)));rw[bU]at hh hch ⊢;have t0:aM.cell? ⟨W.heap.size+3,0,none⟩=some (.slice A9 s.cells.length c9):=zc hh rfl;have t1:aM.cell? ⟨W.heap.size+3,1,none⟩=some (.slice B9 s.tin.length d9):=zc hh rfl;have t2:aM.cell? ⟨W.heap.size+3,2,none⟩=some (.slice D9 s.tout.length e9):=zc hh rfl;have t3:aM.cell? ⟨W.heap.size+3,3,none⟩=some (.int .i64 0):=zc hh rfl
  have t4:aM.cell? ⟨W.heap.size+3,4,none⟩=some (.int .i64 3):=zc hh rfl;refine bodyPost_ret (v:=.tuple #[.slice none 0 0,.agg #[.slice A9 s.cells.length c9,.slice B9 s.tin.length d9,.slice D9 s.tout.length e9,.int .i64 0,.int .i64 3]]) (by simp[results,results42,go_sem,t0,t1,t2,t3,t4]) rfl ?_;rw[HX.out];exact⟨none,0,_,_,_,rfl,(eF.out.chg hch fun b hb=>by omega).lower (by omega),fun i hi=>absurd hi (by simp),zl,(zka ax.out bE.out).trans (hch.below (zka ax.out bE.out).size fun b hb=>by omega),oJ.out,fun h=>by first|(simp at h;done)|exact absurd h yV.out⟩
 ·have q0:=zb b5 p0;have q1:=zb b5 p1;have q2:=zb b5 p2;have q3:=zb b5 p3;have q4:=zb b5 p4;have q5:=zb b5 p5;have bX:=zh (show Calls prog 26 #[pv A1 p.vs.length c1 A2 p.prs.length c2 p.m.k p.m.n p.m.s A3 p.m.ks.length c3] w5 (fun e w'=>∃A c,e=Ending.returned (.slice A (chkN p) c)/\Below w5.heap.size w5 w')from(bN.out w5 (zka ax.out b5)).mono (fun e w' ⟨A,c,h1,h2⟩=>⟨A,c,by rw[h1,if_pos rfl],h2⟩));clear p0 p1 p2 p3 p4 p5 bN HV;go_wp2_with fail;refine bX.out.mono ?_;rintro e6 w6 ⟨AA,cc,rfl,b6⟩;have nu:=zka b5 b6;clear q0 q1 q2 q3 q4 q5;by_cases hn:chkN p=0
  ·obtain⟨n,hnn⟩:=zX (chkN p);rw[hnn];obtain rfl:n=0:=by omega
   have hng:¬ (0:Int)<((0:Nat):Int):=by omega
   have kg:=zkc aH.out nu;have dS:=zkc aD.out nu;have p0:w6.cell? ⟨W.heap.size,0,none⟩=some (.slice A1 p.vs.length c1):=zc kg rfl;have s0:w6.cell? ⟨W.heap.size+1,0,none⟩=some (.slice A s.cells.length c):=zc dS rfl;have s1:w6.cell? ⟨W.heap.size+1,1,none⟩=some (.slice B s.tin.length d):=zc dS rfl;have s2:w6.cell? ⟨W.heap.size+1,2,none⟩=some (.slice D s.tout.length e):=zc dS rfl;have fF:=zh hnn;clear kg dS hn hnn;go_wp2_with fail;refine(wH.out w6 (zka ax.out nu)).mono ?_;rintro e7 w7 ⟨b7,⟨hfit,rfl⟩|⟨hfit,P,rfl,AU⟩⟩
   ·have HX:=zh (show Re=(s,0,20,[]) by rw[<-gK.out,resO,if_neg (by rw[aZ.out,fF.out];simp),if_pos hfit]);have qL:=zka nu b7;clear p0 s0 s1 s2 hfit;have dS:=zkc aD.out qL;have jC:=zkc fH.out qL;have s0:w7.cell? ⟨W.heap.size+1,0,none⟩=some (.slice A s.cells.length c):=zc dS rfl;have s1:w7.cell? ⟨W.heap.size+1,1,none⟩=some (.slice B s.tin.length d):=zc dS rfl;have s2:w7.cell? ⟨W.heap.size+1,2,none⟩=some (.slice D s.tout.length e):=zc dS rfl;have aJ:=zh (dR.out w7 (zka ax.out qL));have dJ:=zh jC;have hbq:=qL;clear dS jC;go_wp2_with fail;refine aJ.out.mono ?_;rintro e9 w9 ⟨v9,rfl,dL,aT⟩;obtain⟨A9,c9,B9,d9,D9,e9,rfl⟩:=dL.slices;have eF:=zh dL;have bE:=zh (zka hbq aT);have aL:=zkc dJ.out aT;have x0:w9.cell? ⟨W.heap.size+3,0,none⟩=some (.slice none 0 0):=zc aL rfl;have x1:w9.cell? ⟨W.heap.size+3,1,none⟩=some (.slice none 0 0):=zc aL rfl
    have x2:w9.cell? ⟨W.heap.size+3,2,none⟩=some (.slice none 0 0):=zc aL rfl;have x3:w9.cell? ⟨W.heap.size+3,3,none⟩=some (.int .i64 0):=zc aL rfl;have x4:w9.cell? ⟨W.heap.size+3,4,none⟩=some (.int .i64 0):=zc aL rfl;have xf:∀o,w9.frozen? ⟨W.heap.size+3,o,none⟩=false:=fun _=>zf aL;have iN:=zh aL;have hbr:=bRes;have rU:W.heap.size+4<=w7.heap.size:=by have:=hbq.size;rw[qM.out]at this;exact this
    clear s0 s1 s2 aL dL aT hbq aJ;go_wp2_with fail;obtain⟨hh,hch⟩:=set5 (u0:=.slice A9 s.cells.length c9) (u1:=.slice B9 s.tin.length d9) (u2:=.slice D9 s.tout.length e9) (u3:=.int .i64 0) (u4:=.int .i64 20) iN.out;obtain⟨aM,bU⟩:=zX ((((((w9.setCell ⟨W.heap.size+3,0,none⟩ (.slice A9 s.cells.length c9)).setCell ⟨W.heap.size+3,1,none⟩ (.slice B9 s.tin.length d9)).setCell ⟨W.heap.size+3,2,none⟩ (.slice D9 s.tout.length e9)).setCell ⟨W.heap.size+3,3,none⟩ (.int .i64 0)).setCell ⟨W.heap.size+3,4,none⟩ (.int .i64 20)));rw[bU]at hh hch ⊢;have t0:aM.cell? ⟨W.heap.size+3,0,none⟩=some (.slice A9 s.cells.length c9):=zc hh rfl;have t1:aM.cell? ⟨W.heap.size+3,1,none⟩=some (.slice B9 s.tin.length d9):=zc hh rfl;have t2:aM.cell? ⟨W.heap.size+3,2,none⟩=some (.slice D9 s.tout.length e9):=zc hh rfl;have t3:aM.cell? ⟨W.heap.size+3,3,none⟩=some (.int .i64 0):=zc hh rfl
    have t4:aM.cell? ⟨W.heap.size+3,4,none⟩=some (.int .i64 20):=zc hh rfl;refine bodyPost_ret (v:=.tuple #[.slice none 0 0,.agg #[.slice A9 s.cells.length c9,.slice B9 s.tin.length d9,.slice D9 s.tout.length e9,.int .i64 0,.int .i64 20]]) (by simp[results,results42,go_sem,t0,t1,t2,t3,t4]) rfl ?_;rw[HX.out];exact⟨none,0,_,_,_,rfl,(eF.out.chg hch fun b hb=>by omega).lower (by omega),fun i hi=>absurd hi (by simp),zl,(zka ax.out bE.out).trans (hch.below (zka ax.out bE.out).size fun b hb=>by omega),oJ.out,fun h=>by first|(simp at h;done)|exact absurd h yV.out⟩
   ·have qL:=zka nu b7;have lZ:=zh hfit;have Cb:=zh AU;clear p0 s0 s1 s2 hfit AU;have kg:=zkc aH.out qL;have p0:w7.cell? ⟨W.heap.size,0,none⟩=some (.slice A1 p.vs.length c1):=zc kg rfl;have p1:w7.cell? ⟨W.heap.size,1,none⟩=some (.slice A2 p.prs.length c2):=zc kg rfl;have p2:w7.cell? ⟨W.heap.size,2,none⟩=some (.int .u8 p.m.k):=zc kg rfl;have p3:w7.cell? ⟨W.heap.size,3,none⟩=some (.int .i64 p.m.n):=zc kg rfl;have p4:w7.cell? ⟨W.heap.size,4,none⟩=some (.string p.m.s):=zc kg rfl;have p5:w7.cell? ⟨W.heap.size,5,none⟩=some (.slice A3 p.m.ks.length c3):=zc kg rfl;obtain⟨hvl,hpl,wZ,-,hpm⟩:=zlu aZ.out;have hmk:=zKE p.prs.length (by omega);obtain⟨np,kL⟩:=zX (p.prs.length);rw[kL]at p1 hmk;have qV:=zh kL
    obtain⟨HH,hHH⟩:∃H:World->Prop,H=fun w':World=>w'.cell? ⟨W.heap.size,0,none⟩=some (.slice A1 p.vs.length c1)/\w'.cell? ⟨W.heap.size,1,none⟩=some (.slice A2 np c2)/\w'.cell? ⟨W.heap.size,2,none⟩=some (.int .u8 p.m.k)/\w'.cell? ⟨W.heap.size,3,none⟩=some (.int .i64 p.m.n)/\w'.cell? ⟨W.heap.size,4,none⟩=some (.string p.m.s)/\w'.cell? ⟨W.heap.size,5,none⟩=some (.slice A3 p.m.ks.length c3):=⟨_,rfl⟩
    have aB:=zh (show ∀w',Below w7.heap.size w7 w'->HH w' by
     rw[hHH];exact fun w' hb=>⟨zb hb p0,zb hb p1,zb hb p2,zb hb p3,zb hb p4,zb hb p5⟩)
    rw[kL];go_upto_region 6 with fail;have hSS:zW HH zU w7.drew:=⟨aB.out _ zr.drew,trivial⟩
    refine wp_region_noPanic ?_;refine zG hSS 10 ?_;subst hHH;refine zT 0 hSS ?_;refine zT 1 hSS ?_;refine zT 2 hSS ?_;refine zT 3 hSS ?_;refine zT 4 hSS ?_;refine zT 5 hSS ?_;clear p0 p1 p2 p3 p4 p5 kg kL;refine zrF (fun A f l a wr=>∃(l6 l7 l8 l9:Bool) (v43 v44 v45 v12:Value) (eb rb pb:Nat),f=(!l6).toNat+(!l7).toNat+(!l8).toNat+(!l9).toNat+1/\l = #[true,true,true,true,true,true,l6,l7,l8,l9,false] /\
     a=(((A.put (some 43) v43).put (some 44) v44).put (some 45) v45).put (some 12) v12/\Hid (Below w7.heap.size w7 wr) /\
     Hid ((l7=true->l6=true)/\(l8=true->l7=true)/\(l6=true->v43=.slice (some ⟨eb,0,none⟩) np np/\wr.heap[eb]?=some (.cells (zki (List.replicate np 0)).toArray 3 (0,0))/\w7.heap.size<=eb) /\
      (l7=true->v44=.agg #[.slice A1 p.vs.length c1,.slice A2 np c2,.int .u8 p.m.k,.int .i64 p.m.n,.string p.m.s,.slice A3 p.m.ks.length c3,.pointer (some ⟨P.sb,0,none⟩),.int .i64 0,.int .i64 F,.slice (some ⟨eb,0,none⟩) np np]) /\
      (l8=true->v45=.pointer (some ⟨rb,0,none⟩)/\wr.heap[rb]?=some (.cells #[.slice A1 p.vs.length c1,.slice A2 np c2,.int .u8 p.m.k,.int .i64 p.m.n,.string p.m.s,.slice A3 p.m.ks.length c3,.pointer (some ⟨P.sb,0,none⟩),.int .i64 0,.int .i64 F,.slice (some ⟨eb,0,none⟩) np np] 127 (0,0))/\w7.heap.size<=rb) /\
      (l9=true->v12=.pointer (some ⟨pb,0,none⟩)/\wr.heap[pb]?=some (.cells #[.pointer none] 125 (0,0))/\w7.heap.size<=pb)) /\
     Hid ((l6=false->v43=undef)/\(l7=false->v44=undef)/\(l8=false->v45=undef)/\(l9=false->v12=undef))) (fun A f l a wr h=>?_) ?_ ⟨false,false,false,false,undef,undef,undef,undef,0,0,0,rfl,rfl,(by simp only[Act.put,zD,zE,zF]),zh zr.drew,zh ⟨fun h=>(by cases h),fun h=>(by cases h),fun h=>(by cases h),fun h=>(by cases h),fun h=>(by cases h),fun h=>(by cases h)⟩,zh ⟨fun _=>rfl,fun _=>rfl,fun _=>rfl,fun _=>rfl⟩⟩
    ·obtain⟨_,_,_,_,_,_,_,_,_,_,_,_,_,_,hb,_⟩:=h;exact⟨aB.out _ hb.out,trivial⟩
    rintro A' hA f l a wr ⟨l6,l7,l8,l9,v43,v44,v45,v12,eb,rb,pb,hf,rfl,ha,af,HC,HU⟩;by_cases hall:(l6&&l7&&l8&&l9)=true
    ·left
     simp only[Bool.and_eq_true]at hall;obtain⟨⟨⟨rfl,rfl⟩,rfl⟩,rfl⟩:=hall;obtain⟨-,-,h6,h7,h8,h9⟩:=HC.out;obtain⟨rfl,he,hel⟩:=h6 rfl;obtain rfl:=h7 rfl;obtain⟨rfl,hr,hrl⟩:=h8 rfl;obtain⟨rfl,hq,lJ⟩:=h9 rfl;subst hf ha hA;have hner:eb≠rb:=zu2 he hr (by decide);have hneq:eb≠pb:=zu2 he hq (by decide);have hnrq:rb≠pb:=zu2 hr hq (by decide);have c0:wr.cell? ⟨pb,0,none⟩=some (.pointer none):=zc hq rfl;have cf:∀j,wr.frozen? ⟨pb,j,none⟩=false:=fun j=>zf hq;refine zp 10 fun K hK=>?_;(try simp only[zQ]);go_simp;have hch:Chg (fun b=>b=pb) wr (wr.setCell ⟨pb,0,none⟩ (.pointer (some ⟨rb,0,none⟩))):=(Chg.refl (fun b=>b=pb) wr).setCell (p:=⟨pb,0,none⟩) (.inl rfl) _;have hh:(wr.setCell ⟨pb,0,none⟩ (.pointer (some ⟨rb,0,none⟩))).heap[pb]?=some (.cells #[.pointer (some ⟨rb,0,none⟩)] 125 (0,0)):=by
      rw[heap_setCell_same wr pb 0 _ _ (.pointer (some ⟨rb,0,none⟩)) hq];rfl
     have iT:=zh (show Below w7.heap.size w7 (wr.setCell ⟨pb,0,none⟩ (.pointer (some ⟨rb,0,none⟩)))from af.out.trans (hch.below af.out.size fun b e=>by omega));have Cz:=zh (hch.keep he hneq);have oD:=zh (hch.keep hr hnrq);have ze:=zh hh;obtain⟨w8,hw8⟩:=zX (wr.setCell ⟨pb,0,none⟩ (.pointer (some ⟨rb,0,none⟩)));rw[hw8]at iT Cz oD ze ⊢;refine hK.out _ _ (aB.out _ iT.out) ?_;clear hK K hSS hch hh hw8 c0 cf he hr hq h6 h7 h8 h9 HC HU af hmk aB;refine zd ?_;refine NoPanic.normal ?_;(try simp only[zQ]);have hlt_e:=zkf Cz.out;have hlt_r:=zkf oD.out;have hlt_q:=zkf ze.out;obtain⟨C,hC⟩:∃C:RC,C=⟨W,w6.heap.size,P.sb,rb,p,A1,c1,A2,c2,A3,c3,F,.slice (some ⟨eb,0,none⟩) np np,fun b=>b=pb⟩:=⟨_,rfl⟩
     have hs67:=b7.size;have hs46:=nu.size;have mr:=qM.out;have hbWw6:=zka ax.out nu;have yu:=zh (show C.Ok by
      rw[hC];exact⟨xV.out,hF,qI,⟨by simp only;omega,by simp only;exact hnrq⟩,⟨by simp[Value.ownBlock];exact hner,fun b hb hk=>by simp only[Value.ownBlock,Option.some.injEq]at hb;simp only at hk;omega⟩,fun q hq=>by have:=(wZ q hq).1;omega⟩)
     have bZ:=zh (show RI C w8 ⟨newS p.vs s,0,List.replicate np 0⟩ by
      rw[hC];have hks:=(KS.new hbWw6 b7 Cb.out).also iT.out (kb':=fun b=>b=pb\/b=rb\/(Value.slice (some ⟨eb,0,none⟩) np np).ownBlock=some b) (fun b hb=>.inr (by
       rcases hb with rfl|rfl|hb
       ·exact⟨lJ,hlt_q⟩
       ·exact⟨hrl,hlt_r⟩
       ·simp[Value.ownBlock]at hb;subst hb;exact⟨hel,hlt_e⟩))
      refine⟨hks,by rw[<-qV.out]at oD;simpa[RC.cells,qV.out]using oD.out,?_,by simp[qV.out],fun c hc=>by simp at hc;omega,by simp,?_⟩
      ·refine⟨by simp[zki],.inr ⟨eb,np,_,by simp,Nat.le_trans hs67 hel,Cz.out,by simp,by unfold maxLen;have:=qV.out;omega,by simp[zki],by simp[zki]⟩⟩
      ·exact⟨by simp only[newS];omega,fun f hf=>by simp[newS]at hf⟩)
     obtain⟨GX,hGX,hGM⟩:=HFAM.out;have nP:=zh (hGM aZ.out fF.out);clear hGM;obtain⟨o,ho⟩:=zX (runO p.prs F g back p.m ⟨newS p.vs s,0,List.replicate np 0⟩);have hog:o ≠ .gas:=ho▸(zrR aZ.out hg back (newS p.vs s) (List.replicate np 0)).1;have hon:Nz o:=ho▸nP.out.2 _ _ _ _;have HRR:=zh (show Re=outR s o by rw[<-gK.out,resO,if_neg (by rw[aZ.out,fF.out];simp),if_neg (by rw[lZ.out];simp),<-ho,<-qV.out]);have ko:=zka qL iT.out;obtain⟨jb,hjb⟩:=zX (w8.heap.size);obtain⟨w9,dF⟩:=zX (w8.alloc (.cells #[.slice none 0 0,.bool false] 132));have HAT:=zh (zrt hGX yu.out bZ.out dF hjb (by rw[hC];exact nP.out.1) g back o (by rw[hC];exact ho) hog pb W.heap.size (W.heap.size+1+1) (by rw[hC];exact zc ze.out rfl) (by rw[hC];simp only;rw[qV.out];have:=zkc aH.out ko;rw[qV.out]at this;exact this) (zc (zkc aQ.out ko) rfl))
     have oh:w9.heap.size=jb+1:=by rw[<-dF];simp[hjb]
     have HK89:=zh (show Kpt C.n0 C.kb w8 w9 from Kpt.of_below (dF▸zkb (zs w8) _));have yI:∀(fn:Fn) (first cap:Array Value) (w:World),(Instr.makeFunc fn first cap).run prog w=.ok (.func fn first cap) w:=fun _ _ _ _=>rfl;have HN0C:=zh (show C.n0=w6.heap.size/\C.w=W/\C.rb=rb/\C.ev=.slice (some ⟨eb,0,none⟩) np np/\(C.kb=fun b=>b=pb)/\C.sb=P.sb/\C.p=p by rw[hC];exact⟨rfl,rfl,rfl,rfl,rfl,rfl,rfl⟩);have HHB48:=zh ko;have j3:=ax.out;have hb4s:W.heap.size<=w6.heap.size:=hbWw6.size;clear hC ko ho hlt_e hlt_r;go_wp2_with fail;refine HAT.out.mono ?_;rintro e10 w11 hat;clear HAT dF yI;rcases hat with⟨rfl,aM,⟨r,rfl,hok,aX,hkp⟩,hch⟩|⟨x,rfl,aM,⟨rfl,hkp,hbl⟩,hch⟩
     ·obtain⟨hn0,hcw,pO,mP,kR,pM,hcp⟩:=HN0C.out;have hri1:=RI.chgK (C:=C.plus jb w9.heap.size) hok aX hch (by show C.w.heap.size<=_;rw[hcw];have:=iT.out.size;omega);have jo:RI C w11 r:=hri1.less.less;have hkk:Kpt C.n0 C.kb w8 w11:=HK89.out.trans ((Kpt.less (C:=C) hkp).trans (Kpt.chg hch fun b hb=>⟨by rw[hn0];omega,by rw[kR];intro e;subst e;omega⟩));have dI:=zqI j3 (by have:=jo.below;rw[hcw]at this;exact this) HHB48.out hkk (by rw[hn0];exact hs46);have gJ:=zh jo;have HX:=zh (show Re=(r.S.state,r.n,0,r.ent)from HRR.out);obtain⟨-,x7,-,x9,-⟩:=jo.cells;rw[pO]at x7 x9;rw[mP]at x9;have xp:w11.cell? ⟨pb,0,none⟩=some (.pointer (some ⟨rb,0,none⟩)):=zc (hkk.blk (.inr (by rw[kR])) ze.out) rfl;have HKR:=zh (zkc fH.out dI);have nW:=zh dI;have hls:=jo.ks;have HST:=zh (fun w' (hb:Below w11.heap.size w11 w')=>(hls.later hb).state);rw[pM]at HST
      have xZ:=zh (show r.ent.length=np by rw[jo.el,hcp,qV.out]);have nQ:=zh jo.ent;rw[hn0,mP]at nQ;have hne0:(0:Int)=0:=rfl;have aB:=zh (show ∀w',Below w11.heap.size w11 w'->(fun w':World=>zv w' pb 0 (.pointer (some ⟨rb,0,none⟩))/\zv w' rb 7 (.int .i64 r.n)/\zv w' rb 9 (.slice (some ⟨eb,0,none⟩) np np)) w' from fun w' hb=>⟨zb hb xp,zb hb x7,zb hb x9⟩);clear aX hri1 jo hkk hkp hls hn0 hcw pO mP kR pM hch x7 x9 xp dI hok;go_upto_region 10 with fail;have hSS:zW (fun w':World=>zv w' pb 0 (.pointer (some ⟨rb,0,none⟩))/\zv w' rb 7 (.int .i64 r.n)/\zv w' rb 9 (.slice (some ⟨eb,0,none⟩) np np)) zU w11.drew:=⟨aB.out _ zr.drew,trivial⟩
      refine wp_region_noPanic ?_;refine zG hSS 12 ?_;refine zT 0 hSS ?_;refine zT 1 hSS ?_;refine zT 2 hSS ?_;refine zT 3 hSS ?_;refine zT 4 hSS ?_;refine zT 6 hSS ?_;refine zT 7 hSS ?_;refine zT 8 hSS ?_;refine zT 9 hSS ?_;have had:Calls prog 77 [.pointer (some ⟨P.sb,0,none⟩)].toArray w11.drew fun e W'=>∃v,e=.returned v/\(OwnS W' w11.heap.size r.S.state v/\Below w11.heap.size w11 W') :=
       (HST.out _ zr.drew).mono fun e w' ⟨v,h1,h2,h3⟩=>⟨v,h1,h2,zka (zs w11).drew h3⟩
      refine zo 5 fun K hK=>?_;refine zke (by rfl) (.func 77) [.tmp 59] _ (by rfl) 77 _ zwA (by rfl) _ (by rfl) _ had ?_;rintro v12 w12 ⟨rZ,pY⟩;obtain⟨A9,c9,B9,d9,D9,e9,rfl⟩:=rZ.slices;have HO12:=zh rZ;have gW:=zh pY;refine hK.out _ _ ⟨aB.out _ pY,trivial⟩ ?_;have aC:=zV hSS (aB.out _ pY) trivial;clear hK K hSS had rZ pY;(try simp only[zQ]);have hbr:=zKD;refine zT 10 aC ?_;refine zo 11 fun K hK=>?_;(try simp only[zA,zB,zC]);go_simp;refine hK.out _ _ ⟨aB.out _ gW.out,trivial⟩ ?_;clear hK K;(try simp only[zQ]);have aL:=zkc HKR.out gW.out;have x0:w12.cell? ⟨W.heap.size+3,0,none⟩=some (.slice none 0 0):=zc aL rfl;have x1:w12.cell? ⟨W.heap.size+3,1,none⟩=some (.slice none 0 0):=zc aL rfl;have x2:w12.cell? ⟨W.heap.size+3,2,none⟩=some (.slice none 0 0):=zc aL rfl;have x3:w12.cell? ⟨W.heap.size+3,3,none⟩=some (.int .i64 0):=zc aL rfl
      have x4:w12.cell? ⟨W.heap.size+3,4,none⟩=some (.int .i64 0):=zc aL rfl;have xf:∀o,w12.frozen? ⟨W.heap.size+3,o,none⟩=false:=fun _=>zf aL;refine zp 12 fun K hK=>?_;(try simp only[zQ]);go_simp;obtain⟨hh,hch⟩:=set5 (u0:=.slice A9 r.S.state.cells.length c9) (u1:=.slice B9 r.S.state.tin.length d9) (u2:=.slice D9 r.S.state.tout.length e9) (u3:=.int .i64 r.n) (u4:=.int .i64 0) aL;obtain⟨w13,hw13⟩:=zX ((((((w12.setCell ⟨W.heap.size+3,0,none⟩ (.slice A9 r.S.state.cells.length c9)).setCell ⟨W.heap.size+3,1,none⟩ (.slice B9 r.S.state.tin.length d9)).setCell ⟨W.heap.size+3,2,none⟩ (.slice D9 r.S.state.tout.length e9)).setCell ⟨W.heap.size+3,3,none⟩ (.int .i64 r.n)).setCell ⟨W.heap.size+3,4,none⟩ (.int .i64 0)));rw[hw13]at hh hch ⊢;have fQ:=zh hch;have t0:w13.cell? ⟨W.heap.size+3,0,none⟩=some (.slice A9 r.S.state.cells.length c9):=zc hh rfl
      have t1:w13.cell? ⟨W.heap.size+3,1,none⟩=some (.slice B9 r.S.state.tin.length d9):=zc hh rfl;have t2:w13.cell? ⟨W.heap.size+3,2,none⟩=some (.slice D9 r.S.state.tout.length e9):=zc hh rfl;have t3:w13.cell? ⟨W.heap.size+3,3,none⟩=some (.int .i64 r.n):=zc hh rfl;have t4:w13.cell? ⟨W.heap.size+3,4,none⟩=some (.int .i64 0):=zc hh rfl;have hszs:W.heap.size+4<=w11.heap.size:=by have:=nW.out.size;omega
      have hplt:W.heap.size+3<w7.heap.size:=by have:=qL.size;omega
      refine hK.out _ _ ?_ ?_
      ·obtain⟨q1,q2,q3⟩:=aB.out _ gW.out;exact⟨zkX hch q1 (by simp only;omega),zkX hch q2 (by simp only;omega),zkX hch q3 (by simp only;omega)⟩
      clear hK K hch hh hw13 x0 x1 x2 x3 x4 xf aL aC aB;(try simp only[zQ]);refine zd ?_;refine NoPanic.normal ?_;go_wp2_with fail;have hrow:=zkJ nQ.out gW.out;have hrow2:=znx hrow (fun b hb=>fQ.out.block b (hrow.lt b hb).2 (by have:=(hrow.lt b hb).1;omega));have hI:∀z∈r.ent.map Int.ofNat,I64 z:=fun z hz=>by
       obtain⟨q,hq,rfl⟩:=List.mem_map.1 hz;have h1:=gJ.out.en q hq;have h2:=gJ.out.n;exact⟨by simp only[Int.ofNat_eq_natCast];omega,by simp only[Int.ofNat_eq_natCast];omega⟩
      obtain⟨Ae,ce,he1,he2,he3⟩:=zrU (l:=r.ent.map Int.ofNat) (by simpa using hrow2) hI;injection he1 with he1 _ he4;subst he1 he4;refine bodyPost_ret (v:=.tuple #[.slice (some ⟨eb,0,none⟩) np np,.agg #[.slice A9 r.S.state.cells.length c9,.slice B9 r.S.state.tin.length d9,.slice D9 r.S.state.tout.length e9,.int .i64 r.n,.int .i64 0]]) (by simp[results,results42,go_sem,t0,t1,t2,t3,t4]) rfl ?_;rw[HX.out];refine⟨_,_,_,_,_,by rw[xZ.out],(HO12.out.chg fQ.out fun b hb=>by omega).lower (by omega),he3.keep (fun b hb _=>by have:=hb4s;omega) (fun _ _ _=>rfl),by simpa using he2,?_⟩;exact⟨(zka j3 (zka nW.out gW.out)).trans (fQ.out.below (zka j3 (zka nW.out gW.out)).size fun b hb=>by omega),LimR.run gJ.out.ks.wf gJ.out.fb _⟩
     ·have hx:x≠0:=fun e=>hon (by rw[e]);obtain⟨hn0,hcw,pO,mP,kR,pM,-⟩:=HN0C.out;have hkk:Kpt C.n0 C.kb w8 w11:=HK89.out.trans ((Kpt.less (C:=C) hkp).trans (Kpt.chg hch fun b hb=>⟨by rw[hn0];omega,by rw[kR];intro e;subst e;omega⟩));have pU:Below C.w.heap.size C.w aM:=hbl;rw[hcw]at pU;have AV:=iT.out.size;have pV:Below W.heap.size W w11:=pU.trans (hch.below pU.size fun b hb=>by omega);have dI:=zqI j3 pV HHB48.out hkk (by rw[hn0];exact hs46);have HX:=zh (show Re=(s,0,x,[])from HRR.out);have e1:(x != 0)=true:=by simpa using hx
      have yV:=zh hx;clear hn0 hcw pO mP kR pM hkk pV hkp hbl pU hch hon;have dS:=zkc aD.out dI;have jC:=zkc fH.out dI;have s0:w11.cell? ⟨W.heap.size+1,0,none⟩=some (.slice A s.cells.length c):=zc dS rfl;have s1:w11.cell? ⟨W.heap.size+1,1,none⟩=some (.slice B s.tin.length d):=zc dS rfl;have s2:w11.cell? ⟨W.heap.size+1,2,none⟩=some (.slice D s.tout.length e):=zc dS rfl;have aJ:=zh (dR.out w11 (zka ax.out dI));have dJ:=zh jC;have hbq:=dI;clear dS jC;go_wp2_with fail;refine aJ.out.mono ?_;rintro e9 w9 ⟨v9,rfl,dL,aT⟩;obtain⟨A9,c9,B9,d9,D9,e9,rfl⟩:=dL.slices;have eF:=zh dL;have bE:=zh (zka hbq aT);have aL:=zkc dJ.out aT;have x0:w9.cell? ⟨W.heap.size+3,0,none⟩=some (.slice none 0 0):=zc aL rfl;have x1:w9.cell? ⟨W.heap.size+3,1,none⟩=some (.slice none 0 0):=zc aL rfl
      have x2:w9.cell? ⟨W.heap.size+3,2,none⟩=some (.slice none 0 0):=zc aL rfl;have x3:w9.cell? ⟨W.heap.size+3,3,none⟩=some (.int .i64 0):=zc aL rfl;have x4:w9.cell? ⟨W.heap.size+3,4,none⟩=some (.int .i64 0):=zc aL rfl;have xf:∀o,w9.frozen? ⟨W.heap.size+3,o,none⟩=false:=fun _=>zf aL;have iN:=zh aL;have hbr:=bRes;have rU:W.heap.size+4<=w11.heap.size:=by have:=hbq.size;rw[qM.out]at this;exact this
      clear s0 s1 s2 aL dL aT hbq aJ;go_wp2_with fail;obtain⟨hh,hch⟩:=set5 (u0:=.slice A9 s.cells.length c9) (u1:=.slice B9 s.tin.length d9) (u2:=.slice D9 s.tout.length e9) (u3:=.int .i64 0) (u4:=.int .i64 x) iN.out;obtain⟨aM,bU⟩:=zX ((((((w9.setCell ⟨W.heap.size+3,0,none⟩ (.slice A9 s.cells.length c9)).setCell ⟨W.heap.size+3,1,none⟩ (.slice B9 s.tin.length d9)).setCell ⟨W.heap.size+3,2,none⟩ (.slice D9 s.tout.length e9)).setCell ⟨W.heap.size+3,3,none⟩ (.int .i64 0)).setCell ⟨W.heap.size+3,4,none⟩ (.int .i64 x)));rw[bU]at hh hch ⊢;have t0:aM.cell? ⟨W.heap.size+3,0,none⟩=some (.slice A9 s.cells.length c9):=zc hh rfl;have t1:aM.cell? ⟨W.heap.size+3,1,none⟩=some (.slice B9 s.tin.length d9):=zc hh rfl;have t2:aM.cell? ⟨W.heap.size+3,2,none⟩=some (.slice D9 s.tout.length e9):=zc hh rfl;have t3:aM.cell? ⟨W.heap.size+3,3,none⟩=some (.int .i64 0):=zc hh rfl
      have t4:aM.cell? ⟨W.heap.size+3,4,none⟩=some (.int .i64 x):=zc hh rfl;refine bodyPost_ret (v:=.tuple #[.slice none 0 0,.agg #[.slice A9 s.cells.length c9,.slice B9 s.tin.length d9,.slice D9 s.tout.length e9,.int .i64 0,.int .i64 x]]) (by simp[results,results42,go_sem,t0,t1,t2,t3,t4]) rfl ?_;rw[HX.out];exact⟨none,0,_,_,_,rfl,(eF.out.chg hch fun b hb=>by omega).lower (by omega),fun i hi=>absurd hi (by simp),zl,(zka ax.out bE.out).trans (hch.below (zka ax.out bE.out).size fun b hb=>by omega),oJ.out,fun h=>by first|(simp at h;done)|exact absurd h yV.out⟩
    ·right
     have bD:=HC.out;have iY:=HU.out;have hcc:(l7=true->l6=true)/\(l8=true->l7=true):=⟨bD.1,bD.2.1⟩
     refine⟨f-1,?_,?_,?_⟩
     ·clear HC bD HU iY ha af hcc;subst hf;revert hall;revert l6 l7 l8 l9
      decide
     ·clear HC bD HU iY ha af hf;revert hall hcc;revert l6 l7 l8 l9
      decide +kernel
     intro i hi;have hcase:(i=6/\l6=false/\l7=false/\l8=false)\/(i=7/\l7=false/\l6=true/\l8=false)\/(i=8/\l8=false/\l6=true/\l7=true)\/(i=9/\l9=false):=by
      refine of_decide_eq_true ((List.all_eq_true (p:=fun i=>decide ((i=6/\l6=false/\l7=false/\l8=false)\/(i=7/\l7=false/\l6=true/\l8=false)\/(i=8/\l8=false/\l6=true/\l7=true)\/(i=9/\l9=false)))).1 ?_ i hi);clear HC bD HU iY ha af hf hi;revert hall hcc;revert l6 l7 l8 l9
      decide +kernel
     clear hi hall;subst ha hA;rcases hcase with⟨rfl,rfl,rfl,rfl⟩|⟨rfl,rfl,rfl,rfl⟩|⟨rfl,rfl,rfl,rfl⟩|⟨rfl,rfl⟩
     ·refine wpOp_step rfl (fun K' aP=>?_);have hK:=zh aP;clear aP;have hU1:=iY.1 rfl;have Bv:=iY.2.1 rfl;have xx:=iY.2.2.1 rfl;subst hU1 Bv xx;(try simp only[zQ]);go_simp;have hsz:=af.out.size;exact hK.out _ _ ⟨true,false,false,l9,_,undef,undef,v12,wr.heap.size,0,pb,(by subst hf;simp<;>omega),rfl,(by simp only[zQ]),zh (zkb af.out _),zh ⟨fun h=>(by cases h),fun h=>(by cases h),fun _=>⟨rfl,heap_alloc_new wr _,hsz⟩,fun h=>(by cases h),fun h=>(by cases h),fun h=>⟨(bD.2.2.2.2.2 h).1,zkd (bD.2.2.2.2.2 h).2.1 _,(bD.2.2.2.2.2 h).2.2⟩⟩,zh ⟨fun h=>(by cases h),fun _=>rfl,fun _=>rfl,iY.2.2.2⟩⟩
     ·refine wpOp_step rfl (fun K' aP=>?_);have hK:=zh aP;clear aP;have Bv:=iY.2.1 rfl;have xx:=iY.2.2.1 rfl;obtain⟨hv6,he,hel⟩:=bD.2.2.1 rfl;subst Bv xx hv6;have hbn:=bRun;(try simp only[zQ]);go_simp;exact hK.out _ _ ⟨true,true,false,l9,_,_,undef,v12,eb,0,pb,(by subst hf;simp<;>omega),rfl,(by simp only[zQ]),af,zh ⟨fun _=>rfl,fun h=>(by cases h),fun _=>⟨rfl,he,hel⟩,fun _=>rfl,fun h=>(by cases h),bD.2.2.2.2.2⟩,zh ⟨fun h=>(by cases h),fun h=>(by cases h),fun _=>rfl,iY.2.2.2⟩⟩
     ·refine wpOp_step rfl (fun K' aP=>?_);have hK:=zh aP;clear aP;have xx:=iY.2.2.1 rfl;obtain⟨hv6,he,hel⟩:=bD.2.2.1 rfl;have hv7:=bD.2.2.2.1 rfl;subst xx hv6 hv7;(try simp only[zQ]);go_simp;have hsz:=af.out.size;exact hK.out _ _ ⟨true,true,true,l9,_,_,_,v12,eb,wr.heap.size,pb,(by subst hf;simp<;>omega),rfl,(by simp only[zQ]),zh (zkb af.out _),zh ⟨fun _=>rfl,fun _=>rfl,fun _=>⟨rfl,zkd he _,hel⟩,fun _=>rfl,fun _=>⟨rfl,heap_alloc_new wr _,hsz⟩,fun h=>⟨(bD.2.2.2.2.2 h).1,zkd (bD.2.2.2.2.2 h).2.1 _,(bD.2.2.2.2.2 h).2.2⟩⟩,zh ⟨fun h=>(by cases h),fun h=>(by cases h),fun h=>(by cases h),iY.2.2.2⟩⟩
     ·refine wpOp_step rfl (fun K' aP=>?_);have hK:=zh aP;clear aP;have tN:=iY.2.2.2 rfl;subst tN;(try simp only[zQ]);go_simp;have hsz:=af.out.size;exact hK.out _ _ ⟨l6,l7,l8,true,v43,v44,v45,_,eb,rb,wr.heap.size,(by subst hf;simp<;>omega),rfl,(by simp only[zQ]),zh (zkb af.out _),zh ⟨bD.1,bD.2.1,fun h=>⟨(bD.2.2.1 h).1,zkd (bD.2.2.1 h).2.1 _,(bD.2.2.1 h).2.2⟩,bD.2.2.2.1,fun h=>⟨(bD.2.2.2.2.1 h).1,zkd (bD.2.2.2.2.1 h).2.1 _,(bD.2.2.2.2.1 h).2.2⟩,fun _=>⟨rfl,heap_alloc_new wr _,hsz⟩⟩,zh ⟨iY.1,iY.2.1,iY.2.2.1,fun h=>(by cases h)⟩⟩
  ·have HX:=zh (show Re=(s,0,3,[]) by rw[<-gK.out,resO,if_pos (.inr hn)]);obtain⟨n,hnn⟩:=zX (chkN p);rw[hnn];have hng:(0:Int)<(n:Int):=by omega
   clear hn hnn;have dS:=zkc aD.out nu;have jC:=zkc fH.out nu;have s0:w6.cell? ⟨W.heap.size+1,0,none⟩=some (.slice A s.cells.length c):=zc dS rfl;have s1:w6.cell? ⟨W.heap.size+1,1,none⟩=some (.slice B s.tin.length d):=zc dS rfl;have s2:w6.cell? ⟨W.heap.size+1,2,none⟩=some (.slice D s.tout.length e):=zc dS rfl;have aJ:=zh (dR.out w6 (zka ax.out nu));have dJ:=zh jC;have hbq:=nu;clear dS jC;go_wp2_with fail;refine aJ.out.mono ?_;rintro e9 w9 ⟨v9,rfl,dL,aT⟩;obtain⟨A9,c9,B9,d9,D9,e9,rfl⟩:=dL.slices;have eF:=zh dL;have bE:=zh (zka hbq aT);have aL:=zkc dJ.out aT;have x0:w9.cell? ⟨W.heap.size+3,0,none⟩=some (.slice none 0 0):=zc aL rfl;have x1:w9.cell? ⟨W.heap.size+3,1,none⟩=some (.slice none 0 0):=zc aL rfl;have x2:w9.cell? ⟨W.heap.size+3,2,none⟩=some (.slice none 0 0):=zc aL rfl;have x3:w9.cell? ⟨W.heap.size+3,3,none⟩=some (.int .i64 0):=zc aL rfl
   have x4:w9.cell? ⟨W.heap.size+3,4,none⟩=some (.int .i64 0):=zc aL rfl;have xf:∀o,w9.frozen? ⟨W.heap.size+3,o,none⟩=false:=fun _=>zf aL;have iN:=zh aL;have hbr:=bRes;have rU:W.heap.size+4<=w6.heap.size:=by have:=hbq.size;rw[qM.out]at this;exact this
   clear s0 s1 s2 aL dL aT hbq aJ;go_wp2_with fail;obtain⟨hh,hch⟩:=set5 (u0:=.slice A9 s.cells.length c9) (u1:=.slice B9 s.tin.length d9) (u2:=.slice D9 s.tout.length e9) (u3:=.int .i64 0) (u4:=.int .i64 3) iN.out;obtain⟨aM,bU⟩:=zX ((((((w9.setCell ⟨W.heap.size+3,0,none⟩ (.slice A9 s.cells.length c9)).setCell ⟨W.heap.size+3,1,none⟩ (.slice B9 s.tin.length d9)).setCell ⟨W.heap.size+3,2,none⟩ (.slice D9 s.tout.length e9)).setCell ⟨W.heap.size+3,3,none⟩ (.int .i64 0)).setCell ⟨W.heap.size+3,4,none⟩ (.int .i64 3)));rw[bU]at hh hch ⊢;have t0:aM.cell? ⟨W.heap.size+3,0,none⟩=some (.slice A9 s.cells.length c9):=zc hh rfl;have t1:aM.cell? ⟨W.heap.size+3,1,none⟩=some (.slice B9 s.tin.length d9):=zc hh rfl;have t2:aM.cell? ⟨W.heap.size+3,2,none⟩=some (.slice D9 s.tout.length e9):=zc hh rfl;have t3:aM.cell? ⟨W.heap.size+3,3,none⟩=some (.int .i64 0):=zc hh rfl
   have t4:aM.cell? ⟨W.heap.size+3,4,none⟩=some (.int .i64 3):=zc hh rfl;refine bodyPost_ret (v:=.tuple #[.slice none 0 0,.agg #[.slice A9 s.cells.length c9,.slice B9 s.tin.length d9,.slice D9 s.tout.length e9,.int .i64 0,.int .i64 3]]) (by simp[results,results42,go_sem,t0,t1,t2,t3,t4]) rfl ?_;rw[HX.out];exact⟨none,0,_,_,_,rfl,(eF.out.chg hch fun b hb=>by omega).lower (by omega),fun i hi=>absurd hi (by simp),zl,(zka ax.out bE.out).trans (hch.below (zka ax.out bE.out).size fun b hb=>by omega),oJ.out,fun h=>by first|(simp at h;done)|exact absurd h yV.out⟩
def FwP(W:World)(R:SS×Nat×Int×List Nat)(e:Ending)(W':World):Prop:=∃v1 v2 v3,e=.returned (.agg #[v1,v2,v3,.int .i64 (R.2.1:Int),.int .i64 R.2.2.1]) /\
 OwnS W' W.heap.size R.1 (.agg #[v1,v2,v3])/\Below W.heap.size W W'/\LimR R
theorem zrC(p:PG)(s:SS)(F:Int)(g:Nat)(v sv:Value)(W:World)(hp:PV W Any p v)(hs:SV W Any s sv)(hcl:s.cells.length<=5864062014800)(hF:I64 F)(qI:F<=1000000)(hg:F.toNat*2000+2000<=g)(hfam:Fam p) :
  Calls prog 18 #[v,sv,.int .i64 F] W (FwP W (resO p s F g false)):=by
 have HPX:=zh hp;have HSX:=zh hs;obtain⟨A1,c1,A2,c2,A3,c3,rfl,jq⟩:=hp;obtain⟨A,c,B,d,D,e,rfl,hr1,hr2,hr3,hc1,hc2,hc3,hl1,hl2,hl3,hl4⟩:=hs;have HST:=zh (fun w' (hb:Below W.heap.size W w')=>ztx p s F g false _ _ w' (HPX.out.later hb) (HSX.out.later hb) hcl hF qI hg hfam);have hb3:=zkb (zkb (zkb (zs W) (.cells #[.slice A1 p.vs.length c1,.slice A2 p.prs.length c2,.int .u8 p.m.k,.int .i64 p.m.n,.string p.m.s,.slice A3 p.m.ks.length c3] 30)) (.cells #[.slice A s.cells.length c,.slice B s.tin.length d,.slice D s.tout.length e] 44)) (.cells #[.slice none 0 0,.slice none 0 0,.slice none 0 0,.int .i64 0,.int .i64 0] 58)
 have k2:=heap_alloc_new ((W.alloc (.cells #[.slice A1 p.vs.length c1,.slice A2 p.prs.length c2,.int .u8 p.m.k,.int .i64 p.m.n,.string p.m.s,.slice A3 p.m.ks.length c3] 30)).alloc (.cells #[.slice A s.cells.length c,.slice B s.tin.length d,.slice D s.tout.length e] 44)) (.cells #[.slice none 0 0,.slice none 0 0,.slice none 0 0,.int .i64 0,.int .i64 0] 58);simp only[World.size_alloc]at k2;obtain⟨Re,hRe⟩:=zX (resO p s F g false);rw[hRe]at HST;have HR:=zh hRe;have HB3:=zh hb3;have aQ:=zh k2;have hz3:W.heap.size+3<=(((W.alloc (.cells #[.slice A1 p.vs.length c1,.slice A2 p.prs.length c2,.int .u8 p.m.k,.int .i64 p.m.n,.string p.m.s,.slice A3 p.m.ks.length c3] 30)).alloc (.cells #[.slice A s.cells.length c,.slice B s.tin.length d,.slice D s.tout.length e] 44)).alloc (.cells #[.slice none 0 0,.slice none 0 0,.slice none 0 0,.int .i64 0,.int .i64 0] 58)).heap.size:=by simp
 rw[hRe];clear jq hr1 hr2 hr3 hRe hb3 k2 hl1 hl2 hl3 hl4 hc1 hc2 hc3;clear hfam;go_enter func18,ntmps18;go_wp2_with fail;refine(HST.out _ HB3.out).mono ?_;rintro e9 w9 ⟨A9,c9,v1,v2,v3,rfl,dL,-,-,aT,hlm9⟩;have oJ:=zh hlm9;clear hlm9;obtain⟨A4,c4,B5,d5,D6,e6,h6⟩:=dL.slices;injection h6 with h6;injection h6 with h6;injection h6 with h6 h7;injection h7 with h7 h8;injection h8 with h8 _;subst h6 h7 h8;have eF:=zh dL;have bE:=zh aT;have aL:=zkc aQ.out aT;have x0:w9.cell? ⟨W.heap.size+1+1,0,none⟩=some (.slice none 0 0):=zc aL rfl;have x1:w9.cell? ⟨W.heap.size+1+1,1,none⟩=some (.slice none 0 0):=zc aL rfl;have x2:w9.cell? ⟨W.heap.size+1+1,2,none⟩=some (.slice none 0 0):=zc aL rfl;have x3:w9.cell? ⟨W.heap.size+1+1,3,none⟩=some (.int .i64 0):=zc aL rfl;have x4:w9.cell? ⟨W.heap.size+1+1,4,none⟩=some (.int .i64 0):=zc aL rfl
 have xf:∀o,w9.frozen? ⟨W.heap.size+1+1,o,none⟩=false:=fun _=>zf aL;have y0:=fun o=>zkj x0 o;have y1:=fun o=>zkj x1 o;have y2:=fun o=>zkj x2 o;have y3:=fun o=>zkj x3 o;have y4:=fun o=>zkj x4 o;have hlt9:W.heap.size+1+1<w9.heap.size:=zkf aL;have iN:=zh aL;clear dL aT aL;go_wp2_with fail;obtain⟨hh,hch⟩:=set5 (u0:=.slice A4 Re.1.cells.length c4) (u1:=.slice B5 Re.1.tin.length d5) (u2:=.slice D6 Re.1.tout.length e6) (u3:=.int .i64 (Re.2.1:Int)) (u4:=.int .i64 Re.2.2.1) iN.out;obtain⟨aM,bU⟩:=zX ((((((w9.setCell ⟨W.heap.size+1+1,0,none⟩ (.slice A4 Re.1.cells.length c4)).setCell ⟨W.heap.size+1+1,1,none⟩ (.slice B5 Re.1.tin.length d5)).setCell ⟨W.heap.size+1+1,2,none⟩ (.slice D6 Re.1.tout.length e6)).setCell ⟨W.heap.size+1+1,3,none⟩ (.int .i64 (Re.2.1:Int))).setCell ⟨W.heap.size+1+1,4,none⟩ (.int .i64 Re.2.2.1)));rw[bU]at hh hch ⊢
 obtain⟨w11,iq⟩:=zX (aM.alloc (.cells #[.slice A4 Re.1.cells.length c4,.slice B5 Re.1.tin.length d5,.slice D6 Re.1.tout.length e6,.int .i64 (Re.2.1:Int),.int .i64 Re.2.2.1] 58));rw[iq];have t0:w11.cell? ⟨W.heap.size+1+1,0,none⟩=some (.slice A4 Re.1.cells.length c4):=iq▸zkj (zc hh rfl) _;have t1:w11.cell? ⟨W.heap.size+1+1,1,none⟩=some (.slice B5 Re.1.tin.length d5):=iq▸zkj (zc hh rfl) _;have t2:w11.cell? ⟨W.heap.size+1+1,2,none⟩=some (.slice D6 Re.1.tout.length e6):=iq▸zkj (zc hh rfl) _;have t3:w11.cell? ⟨W.heap.size+1+1,3,none⟩=some (.int .i64 (Re.2.1:Int)):=iq▸zkj (zc hh rfl) _;have t4:w11.cell? ⟨W.heap.size+1+1,4,none⟩=some (.int .i64 Re.2.2.1):=iq▸zkj (zc hh rfl) _
 refine bodyPost_ret (v:=.agg #[.slice A4 Re.1.cells.length c4,.slice B5 Re.1.tin.length d5,.slice D6 Re.1.tout.length e6,.int .i64 (Re.2.1:Int),.int .i64 Re.2.2.1]) (by simp[results,results18,go_sem,t0,t1,t2,t3,t4]) rfl ?_;have hz33:=hz3;have hb39:Below W.heap.size W w9:=zka HB3.out bE.out;have iE:Chg (fun b=>b=W.heap.size+1+1) w9 w11:=iq▸hch.alloc _;have o9:=eF.out.chg iE fun b hb=>by omega
 have p8:=hb39.trans (iE.below hb39.size fun b hb=>by omega);exact⟨_,_,_,rfl,o9.lower (by omega),p8,oJ.out⟩
theorem zmX(p:PG)(s:SS)(F:Int)(g:Nat)(v sv:Value)(W:World)(hp:PV W Any p v)(hs:SV W Any s sv)(hcl:s.cells.length<=5864062014800)(hF:I64 F)(qI:F<=1000000)(hg:F.toNat*2000+2000<=g) :
  Calls prog 18 #[v,sv,.int .i64 F] W (FwP W (resO p s F g false)):=zrC p s F g v sv W hp hs hcl hF qI hg (zyC p)
section
variable {E:Prop} {Rl:Nat->ST->ST->Prop} {F F' k:Int} {o o':Out}
end
section
variable {S:ST} {l:List Int}
end
section
variable {ρ ρ':Nat->Nat->Prop} {f g:FR} {S S' S'':ST} {a b:Nat}
end
section
variable {S:ST}
end
section
variable {o:Out} {f:RS->Out} {r r':RS} {F:Int} {t:T}
end
section
variable {r r1 r':RS} {F:Int}
end
section
variable {vs:List VD} {s:SS} {r':RS} {e:List Nat}
end
structure EX where
 nm:ByteArray
 pt:Int
 fu:Int
 bx:BX
 gv:PG
abbrev exA(e:EX)(A1:Option Addr)(c1:Nat)(A2:Option Addr)(c2:Nat)(A3:Option Addr)(c3:Nat):Array Value := #[.string e.nm,.int .i64 e.pt,.int .i64 e.fu,.int .i64 e.bx.v,.int .i64 e.bx.l,.int .i64 e.bx.i,.slice A1 e.gv.vs.length c1,.slice A2 e.gv.prs.length c2,.int .u8 e.gv.m.k,.int .i64 e.gv.m.n,.string e.gv.m.s,.slice A3 e.gv.m.ks.length c3]
def EV(w:World)(S:Nat->Prop)(e:EX)(v:Value):Prop:=∃A1 c1 A2 c2 A3 c3,v=.agg (exA e A1 c1 A2 c2 A3 c3)/\PgR w S e.gv A1 c1 A2 c2 A3 c3/\I64 e.fu
theorem PgR.pv{w:World}{S:Nat->Prop}{p:PG}{A1:Option Addr}{c1:Nat}{A2:Option Addr}{c2:Nat}{A3:Option Addr}{c3:Nat}(h:PgR w S p A1 c1 A2 c2 A3 c3):PV w S p (pv A1 p.vs.length c1 A2 p.prs.length c2 p.m.k p.m.n p.m.s A3 p.m.ks.length c3):=⟨A1,c1,A2,c2,A3,c3,rfl,h⟩
theorem EV.later{w w':World}{S:Nat->Prop}{e:EX}{v:Value}(h:EV w S e v)(hb:Below w.heap.size w w'):EV w' S e v:=by
 obtain⟨A1,c1,A2,c2,A3,c3,h1,h2,h3⟩:=h;exact⟨A1,c1,A2,c2,A3,c3,h1,h2.later hb,h3⟩
def zkV(e:EX):Bool:=zl5 e.nm&&decide (1<=e.pt/\e.pt<=1000)&&decide (0<=e.fu/\e.fu<=1000000)&&okB e.gv&&okB (zkK e.gv)&&decide ((cntR e.gv.vs e.bx).2=0/\(cntR e.gv.vs e.bx).1<=65536)
def gerE(p:PG)(F:Int)(s:SS):Int:=(resO p s F (F.toNat*2000+2000) false).2.2.1
def gstE(p:PG)(F:Int)(s:SS):SS:=(resO p s F (F.toNat*2000+2000) false).1
def relG(p:PG)(F:Int)(s:SS):Bool:=gerE p F s==0
def rigG(p q:PG)(F:Int)(s:SS):Bool:=gerE q F (gstE p F s)==0&&eqS (gstE q F (gstE p F s)) s
def erG(p q:PG)(F:Int)(s:SS):Int:=gerE q F (gstE p F s)
def grdE(e:EX)(q:PG):Bool×Nat×SS×Int:=grE (relG e.gv e.fu) (rigG e.gv q e.fu) (erG e.gv q e.fu) 0 (allS e.bx (lenE e.gv.vs e.bx))
section
variable {P:Program} {md:Region.Mode} {ops:Array Oper} {Q:Exit->Act->World->Prop} {S1 S2:World->Prop} {k:Nat}
theorem zpu{i j:Nat}{oi oj:Oper}(si sj:Option Nat)(n:Nat)(L:Bool->Bool->Array Bool)(a0:Act)(Inv:World->Prop)(Al Fact:Value->World->Prop)
  (hoi:ops[i]?=some oi)(hoj:ops[j]?=some oj)(hdi:oi.dst=si)(hdj:oj.dst=sj)(hr0:Region.ready md ops (L false false)=[i,j])(hr1:Region.ready md ops (L false true)=[i])
  (hLi:∀l4,(L false l4).setIfInBounds i true=L true l4)(hLj:(L false false).setIfInBounds j true=L false true)
  (hS:∀w,Inv w->S1 w/\S2 w)(hInv:∀w w',Inv w->Below w.heap.size w w'->Inv w')(hAl:∀u w w',Al u w->Below w.heap.size w w'->Al u w')
  (hi:∀(v4:Value) (K:Act->World->Prop) (w:World),Inv w->Shut (∀v w',Below w.heap.size w w'->Fact v w'->K ((a0.put sj v4).put si v) w')->if Region.wanted oi (yielded ops (a0.put sj v4).tmps)=true then Oper.wp P oi (a0.put sj v4) w K Q else K ((a0.put sj v4).put si undef) w)
  (hj:∀(v4:Value) (K:Act->World->Prop) (w:World),Inv w->Shut (∀v w',Below w.heap.size w w'->Al v w'->K ((a0.put sj v4).put sj v) w')->if Region.wanted oj (yielded ops (a0.put sj v4).tmps)=true then Oper.wp P oj (a0.put sj v4) w K Q else K ((a0.put sj v4).put sj undef) w)
  (wZ:∀u v,(a0.put sj u).put sj v=a0.put sj v)
  (hc:∀(l4:Bool) (v4 v:Value) (w:World),Inv w->Fact v w->(l4=true->Al v4 w)->(l4=false->v4=undef)->wpG P md ops Q S1 S2 k (n+(!l4).toNat) (L true l4) ((a0.put sj v4).put si v) w) :
  ∀(l4:Bool) (v4:Value) (w:World),Inv w->(l4=true->Al v4 w)->(l4=false->v4=undef)->a0.put sj v4=a0->wpG P md ops Q S1 S2 k (n+1+(!l4).toNat) (L false l4) a0 w:=by
 subst hdi hdj;have h1:∀(v4:Value) (w:World),Inv w->Al v4 w->wpG P md ops Q S1 S2 k (n+1) (L false true) (a0.put oj.dst v4) w:=by
  intro v4 w hI hA;refine⟨(fun h0=>by rw[hr1]at h0;cases h0),fun q hq=>?_⟩;rw[hr1]at hq;simp only[List.mem_singleton]at hq;subst hq;refine wpOp_step hoi fun K' hK=>hi v4 K' w hI ?_;intro v w' hb hF;have hI':=hInv _ _ hI hb;refine hK _ _ ⟨⟨(hS _ hI').1,fun _=>(hS _ hI').2⟩,?_⟩;rw[hLi];exact hc true v4 v w' hI' hF (fun _=>hAl _ _ _ hA hb) (fun h=>by cases h)
 intro l4 v4 w hI hA hU ha
 cases l4
 ·have hv:=hU rfl;refine⟨(fun h0=>by rw[hr0]at h0;cases h0),fun q hq=>?_⟩;rw[hr0]at hq;simp only[List.mem_cons,List.not_mem_nil,or_false]at hq;rcases hq with rfl|rfl
  ·refine wpOp_step hoi fun K' hK=>?_;rw[<-ha];refine hi v4 K' w hI ?_;intro v w' hb hF;have hI':=hInv _ _ hI hb;refine hK _ _ ⟨⟨(hS _ hI').1,fun _=>(hS _ hI').2⟩,?_⟩;rw[hLi];exact hc false v4 v w' hI' hF (fun h=>by cases h) (fun _=>hv)
  ·refine wpOp_step hoj fun K' hK=>?_;rw[<-ha];refine hj v4 K' w hI ?_;intro v w' hb hF;have hI':=hInv _ _ hI hb;refine hK _ _ ⟨⟨(hS _ hI').1,fun _=>(hS _ hI').2⟩,?_⟩;rw[hLj,wZ];exact h1 v w' hI' hF
 ·rw[<-ha];exact h1 v4 w hI (hA rfl)
theorem zrG{j:Nat}{oj:Oper}(sj:Option Nat)(n:Nat)(L:Bool->Array Bool)(a0:Act)(Inv:World->Prop)(Al:Value->World->Prop)
  (hoj:ops[j]?=some oj)(hdj:oj.dst=sj)(hr0:Region.ready md ops (L false)=[j])(hLj:(L false).setIfInBounds j true=L true)
  (hS:∀w,Inv w->S1 w/\S2 w)(hInv:∀w w',Inv w->Below w.heap.size w w'->Inv w')
  (hj:∀(v4:Value) (K:Act->World->Prop) (w:World),Inv w->Shut (∀v w',Below w.heap.size w w'->Al v w'->K ((a0.put sj v4).put sj v) w')->if Region.wanted oj (yielded ops (a0.put sj v4).tmps)=true then Oper.wp P oj (a0.put sj v4) w K Q else K ((a0.put sj v4).put sj undef) w)
  (wZ:∀u v,(a0.put sj u).put sj v=a0.put sj v)
  (hc:∀(v4:Value) (w:World),Inv w->Al v4 w->wpG P md ops Q S1 S2 k n (L true) (a0.put sj v4) w) :
  ∀(l4:Bool) (v4:Value) (w:World),Inv w->(l4=true->Al v4 w)->a0.put sj v4=a0->wpG P md ops Q S1 S2 k (n+(!l4).toNat) (L l4) a0 w:=by
 subst hdj;intro l4 v4 w hI hA ha
 cases l4
 ·refine⟨(fun h0=>by rw[hr0]at h0;cases h0),fun q hq=>?_⟩;rw[hr0]at hq;simp only[List.mem_singleton]at hq;subst hq;refine wpOp_step hoj fun K' hK=>?_;rw[<-ha];refine hj v4 K' w hI ?_;intro v w' hb hF;have hI':=hInv _ _ hI hb;refine hK _ _ ⟨⟨(hS _ hI').1,fun _=>(hS _ hI').2⟩,?_⟩;rw[hLj,wZ];exact hc v w' hI' hF
 ·rw[<-ha];exact hc v4 w hI (hA rfl)
end
section
variable {P:Program} {md:Region.Mode} {ops:Array Oper} {Q:Exit->Act->World->Prop} {S1 S2:World->Prop} {k:Nat}
end
attribute [local go_sem] Oper.semAt_some
theorem zzm{W:World}{b:Nat}{x0 x1 x2 x3 x4 x5 u0 u1 u2 u3 u4 u5:Value}{E:TypeId}(h:W.heap[b]?=some (.cells #[x0,x1,x2,x3,x4,x5] E (0,0))) :
  ∃W',((((((W.setCell ⟨b,0,none⟩ u0).setCell ⟨b,1,none⟩ u1).setCell ⟨b,2,none⟩ u2).setCell ⟨b,3,none⟩ u3).setCell ⟨b,4,none⟩ u4).setCell ⟨b,5,none⟩ u5)=W'/\W'.heap[b]?=some (.cells #[u0,u1,u2,u3,u4,u5] E (0,0))/\Chg (fun q=>q=b) W W':=by
 refine⟨_,rfl,?_,((((((Chg.refl (fun q=>q=b) W).setCell (p:=⟨b,0,none⟩) (.inl rfl) _).setCell (p:=⟨b,1,none⟩) (.inl rfl) _).setCell (p:=⟨b,2,none⟩) (.inl rfl) _).setCell (p:=⟨b,3,none⟩) (.inl rfl) _).setCell (p:=⟨b,4,none⟩) (.inl rfl) _).setCell (p:=⟨b,5,none⟩) (.inl rfl) _⟩;simp only[World.setCell,Array.getElem?_modify,if_true,h,Option.map_some];rfl
theorem zqu(p:PG)(v:Value)(w:World)(hv:PV w Any p v)(hval:zkA p=true) :
  Calls prog 36 #[v] w fun e w'=>∃v',e=.returned (.tuple #[v',.int .i64 0])/\PV w' (From w.heap.size) (zkK p) v'/\Below w.heap.size w w':=by
 have Cg:=zh (fun w' (h:Below w.heap.size w w')=>hv.later h);have fB:=zh (And.intro hval (And.intro (zp5 hval).1 (zlu hval).2.1));obtain⟨A1,c1,A2,c2,A3,c3,rfl,-⟩:=hv;have hb2:=zkb (zkb (zs w) (.cells #[.slice A1 p.vs.length c1,.slice A2 p.prs.length c2,.int .u8 p.m.k,.int .i64 p.m.n,.string p.m.s,.slice A3 p.m.ks.length c3] 30)) (.cells ZP 30);have k0:=zkd (heap_alloc_new w (.cells #[.slice A1 p.vs.length c1,.slice A2 p.prs.length c2,.int .u8 p.m.k,.int .i64 p.m.n,.string p.m.s,.slice A3 p.m.ks.length c3] 30)) (.cells ZP 30);have k1:=heap_alloc_new (w.alloc (.cells #[.slice A1 p.vs.length c1,.slice A2 p.prs.length c2,.int .u8 p.m.k,.int .i64 p.m.n,.string p.m.s,.slice A3 p.m.ks.length c3] 30)) (.cells ZP 30);rw[World.size_alloc]at k1
 obtain⟨w2,hw2⟩:=zX ((w.alloc (.cells #[.slice A1 p.vs.length c1,.slice A2 p.prs.length c2,.int .u8 p.m.k,.int .i64 p.m.n,.string p.m.s,.slice A3 p.m.ks.length c3] 30)).alloc (.cells ZP 30));obtain⟨N,hN⟩:=zX (w.heap.size);rw[hw2]at hb2 k0 k1;have HZ2:=zh (show w2.heap.size=N+2 by rw[<-hw2,<-hN];simp);have HN:=zh hN;rw[hN]at k0 k1;have HC:=zh (zqt p Any _ w2 (Cg.out _ hb2) fB.out.1 (.inr fB.out.2.1) fB.out.2.2);have HB2:=zh hb2;have aD:=zh k1;obtain⟨p0,p1,p2,p3,p4,p5⟩:=box6 k0;clear hb2 k0 k1 hval;go_enter func36,ntmps36;go_upto_region 1 with fail
 try rw[hw2]
 try rw[hN]
 clear hw2 hN;go_wp2_with fail;refine HC.out.mono ?_;rintro e w3 ⟨v3,rfl,hv3,hb3⟩;have HV3:=zh hv3;have HB3:=zh hb3;obtain⟨B1,d1,B2,d2,B3,d3,rfl,-⟩:=hv3;have hk3:=zkc aD.out hb3;obtain⟨q0,q1,q2,q3,q4,q5⟩:=box6 hk3;have cf:∀o,w3.frozen? ⟨N+1,o,none⟩=false:=fun o=>zf hk3;obtain⟨w4,hw4,hk4,hc4⟩:=zzm (u0:=.slice B1 (zkK p).vs.length d1) (u1:=.slice B2 (zkK p).prs.length d2) (u2:=.int .u8 (zkK p).m.k) (u3:=.int .i64 (zkK p).m.n) (u4:=.string (zkK p).m.s) (u5:=.slice B3 (zkK p).m.ks.length d3) hk3;have ax:=zh (show Below w.heap.size w w4 from(zka HB2.out hb3).trans (hc4.below (zka HB2.out hb3).size fun b h=>by have h:b=N+1:=h;have:=HN.out;omega))
 have HV4:=zh (show PV w4 (From w.heap.size) (zkK p) (pv B1 (zkK p).vs.length d1 B2 (zkK p).prs.length d2 (zkK p).m.k (zkK p).m.n (zkK p).m.s B3 (zkK p).m.ks.length d3)from HV3.out.keep (fun q h _=>by have h:w2.heap.size<=q:=h;have:=HZ2.out;have:=HN.out;show w.heap.size<=q;omega) fun q h hlt=>hc4.block q hlt fun e=>by have h:w2.heap.size<=q:=h;have e:q=N+1:=e;have:=HZ2.out;omega);have r:=box6 hk4;clear hb3 hk3 hc4 hk4 p0 p1 p2 p3 p4 p5;obtain⟨r0,r1,r2,r3,r4,r5⟩:=r;go_wp2_with fail;exact bodyPost_ret (v:=.tuple #[pv B1 (zkK p).vs.length d1 B2 (zkK p).prs.length d2 (zkK p).m.k (zkK p).m.n (zkK p).m.s B3 (zkK p).m.ks.length d3,.int .i64 0]) (by simp[results,results36,go_sem,r0,r1,r2,r3,r4,r5]) rfl ⟨_,rfl,HV4.out,ax.out⟩
abbrev exS(w:World)(b:Nat)(e:EX)(A1:Option Addr)(c1:Nat)(A2:Option Addr)(c2:Nat)(A3:Option Addr)(c3:Nat):Prop:=w.cell? ⟨b,0,none⟩=some (.string e.nm)/\w.cell? ⟨b,1,none⟩=some (.int .i64 e.pt)/\w.cell? ⟨b,2,none⟩=some (.int .i64 e.fu)/\w.cell? ⟨b,3,none⟩=some (.int .i64 e.bx.v)/\w.cell? ⟨b,4,none⟩=some (.int .i64 e.bx.l)/\w.cell? ⟨b,5,none⟩=some (.int .i64 e.bx.i) /\
 w.cell? ⟨b,6,none⟩=some (.slice A1 e.gv.vs.length c1)/\w.cell? ⟨b,7,none⟩=some (.slice A2 e.gv.prs.length c2)/\w.cell? ⟨b,8,none⟩=some (.int .u8 e.gv.m.k)/\w.cell? ⟨b,9,none⟩=some (.int .i64 e.gv.m.n)/\w.cell? ⟨b,10,none⟩=some (.string e.gv.m.s)/\w.cell? ⟨b,11,none⟩=some (.slice A3 e.gv.m.ks.length c3)
theorem znb{w:World}{b:Nat}{e:EX}{A1:Option Addr}{c1:Nat}{A2:Option Addr}{c2:Nat}{A3:Option Addr}{c3:Nat}(h:w.heap[b]?=some (.cells (exA e A1 c1 A2 c2 A3 c3) 32 (0,0))):exS w b e A1 c1 A2 c2 A3 c3 :=
 ⟨zc h rfl,zc h rfl,zc h rfl,zc h rfl,zc h rfl,zc h rfl,zc h rfl,zc h rfl,zc h rfl,zc h rfl,zc h rfl,zc h rfl⟩
theorem zqo{p:PG}(h:okB p=true):zkA p=true/\chkN p=0/\rjT p=0:=by
 simp only[okB,Bool.and_eq_true,decide_eq_true_eq]at h;exact⟨h.1.1,h.1.2,h.2⟩
theorem zow(e:EX)(v:Value)(w:World)(hv:EV w Any e v):Calls prog 15 #[v] w fun en w'=>en=.returned (.bool (zkV e))/\Below w.heap.size w w':=by
 obtain⟨A1,c1,A2,c2,A3,c3,rfl,hg,-⟩:=hv;have hb2:=zkb (zs w) (.cells (exA e A1 c1 A2 c2 A3 c3) 32);have k0:=heap_alloc_new w (.cells (exA e A1 c1 A2 c2 A3 c3) 32);obtain⟨w2,hw2⟩:=zX (w.alloc (.cells (exA e A1 c1 A2 c2 A3 c3) 32));obtain⟨N,hN⟩:=zX (w.heap.size);rw[hw2]at hb2 k0;rw[hN]at k0;have HB:=zh hb2;have HK:=zh (fun w' (h:Below w2.heap.size w2 w')=>znb (zkc k0 h));have HG:=zh (fun w' (h:Below w2.heap.size w2 w')=>(hg.later hb2).later h);have bH:=zh (zs w2);have xY:=zh (zn2 e.nm w2);obtain⟨NB,tX⟩:=zX (zl5 e.nm);have qw:=zh tX;rw[tX]at xY;obtain⟨OB,BC⟩:=zX (okB e.gv);have qo:=zh BC;have fB:=zh (fun w' (h:Below w2.heap.size w2 w')=>zxN e.gv _ w' (HG.out _ h).pv);simp only[BC]at fB;obtain⟨IB,hIB⟩:=zX (okB (zkK e.gv));have Cr:=zh hIB;obtain⟨VX,mR⟩:=zX (zkV e);have fJ:=zh mR;rw[mR];clear hb2 k0 hg tX BC hIB mR
 obtain⟨x0,x1,x2,x3,x4,x5,x6,x7,x8,x9,az,ay⟩:=HK.out _ bH.out;go_enter func15,ntmps15;go_upto_region 1 with fail
 try rw[hw2]
 try rw[hN]
 clear hw2 hN;go_wp2_with fail;refine xY.out.mono ?_;rintro en w3 ⟨rfl,hb3⟩;have aR:=zh (zka bH.out hb3);clear x0 x1 x2 x3 x4 x5 x6 x7 x8 x9 az ay hb3 xY;obtain⟨x0,x1,x2,x3,x4,x5,x6,x7,x8,x9,az,ay⟩:=HK.out _ aR.out
 cases NB
 ·have HF:=zh (show zkV e=false by unfold zkV;rw[qw.out];rfl);go_wp2_with fail;go_ret;exact⟨by rw[<-fJ.out,HF.out];rfl,zka HB.out aR.out⟩
 by_cases h1:e.pt<1
 ·have HF:=zh (show zkV e=false by unfold zkV;rw[decide_eq_false (show ¬ (1<=e.pt/\e.pt<=1000) by omega)];simp);go_wp2_with fail;go_ret;exact⟨by rw[<-fJ.out,HF.out];rfl,zka HB.out aR.out⟩
 by_cases h2:(1000:Int)<e.pt
 ·have HF:=zh (show zkV e=false by unfold zkV;rw[decide_eq_false (show ¬ (1<=e.pt/\e.pt<=1000) by omega)];simp);go_wp2_with fail;go_ret;exact⟨by rw[<-fJ.out,HF.out];rfl,zka HB.out aR.out⟩
 by_cases h3:e.fu<0
 ·have HF:=zh (show zkV e=false by unfold zkV;rw[decide_eq_false (show ¬ (0<=e.fu/\e.fu<=1000000) by omega)];simp);go_wp2_with fail;go_ret;exact⟨by rw[<-fJ.out,HF.out];rfl,zka HB.out aR.out⟩
 by_cases h4:(1000000:Int)<e.fu
 ·have HF:=zh (show zkV e=false by unfold zkV;rw[decide_eq_false (show ¬ (0<=e.fu/\e.fu<=1000000) by omega)];simp);go_wp2_with fail;go_ret;exact⟨by rw[<-fJ.out,HF.out];rfl,zka HB.out aR.out⟩
 have HPF:=zh (show(1<=e.pt/\e.pt<=1000)/\(0<=e.fu/\e.fu<=1000000) by omega);go_wp2_with fail;refine(fB.out _ aR.out).mono ?_;rintro en w4 ⟨rfl,hb4⟩;have bq:=zh (zka aR.out hb4);clear x0 x1 x2 x3 x4 x5 x6 x7 x8 x9 az ay hb4 h1 h2 h3 h4;obtain⟨x0,x1,x2,x3,x4,x5,x6,x7,x8,x9,az,ay⟩:=HK.out _ bq.out
 cases OB
 ·have HF:=zh (show zkV e=false by unfold zkV;rw[qo.out];simp);go_wp2_with fail;go_ret;exact⟨by rw[<-fJ.out,HF.out];rfl,zka HB.out bq.out⟩
 have HIP:=zh (zqu e.gv _ w4 (HG.out _ bq.out).pv (zqo qo.out).1);go_wp2_with fail;refine HIP.out.mono ?_;rintro en w5 ⟨v5,rfl,hv5,hb5⟩;have HV5:=zh hv5;obtain⟨B1,d1,B2,d2,B3,d3,rfl,-⟩:=hv5;have hb6:=zkb hb5 (.cells #[.slice B1 (zkK e.gv).vs.length d1,.slice B2 (zkK e.gv).prs.length d2,.int .u8 (zkK e.gv).m.k,.int .i64 (zkK e.gv).m.n,.string (zkK e.gv).m.s,.slice B3 (zkK e.gv).m.ks.length d3] 30);have k6:=heap_alloc_new w5 (.cells #[.slice B1 (zkK e.gv).vs.length d1,.slice B2 (zkK e.gv).prs.length d2,.int .u8 (zkK e.gv).m.k,.int .i64 (zkK e.gv).m.n,.string (zkK e.gv).m.s,.slice B3 (zkK e.gv).m.ks.length d3] 30)
 have hv6:=HV5.out.later (zkb (zs w5) (.cells #[.slice B1 (zkK e.gv).vs.length d1,.slice B2 (zkK e.gv).prs.length d2,.int .u8 (zkK e.gv).m.k,.int .i64 (zkK e.gv).m.n,.string (zkK e.gv).m.s,.slice B3 (zkK e.gv).m.ks.length d3] 30));go_upto_region 6 with fail;obtain⟨w6,jV⟩:=zX (w5.alloc (.cells #[.slice B1 (zkK e.gv).vs.length d1,.slice B2 (zkK e.gv).prs.length d2,.int .u8 (zkK e.gv).m.k,.int .i64 (zkK e.gv).m.n,.string (zkK e.gv).m.s,.slice B3 (zkK e.gv).m.ks.length d3] 30));obtain⟨N6,BD⟩:=zX (w5.heap.size);rw[jV]at hb6 k6 hv6
 try rw[jV]
 rw[BD]at k6
 try rw[BD]
 have dn:=zh (zka bq.out hb6);have Ch:=zh (zxN (zkK e.gv) _ w6 (hv6.keep (S':=Any) (fun _ _ _=>trivial) fun _ _ _=>rfl));rw[Cr.out]at Ch;obtain⟨p0,p1,p2,p3,p4,p5⟩:=box6 k6;clear x0 x1 x2 x3 x4 x5 x6 x7 x8 x9 az ay hb5 hb6 k6 hv6 jV BD HIP HV5;go_wp2_with fail;refine Ch.out.mono ?_;rintro en w7 ⟨rfl,dN⟩;have gU:=zh (zka dn.out dN);clear p0 p1 p2 p3 p4 p5 dN Ch;obtain⟨x0,x1,x2,x3,x4,x5,x6,x7,x8,x9,az,ay⟩:=HK.out _ gU.out
 cases IB
 ·have HF:=zh (show zkV e=false by unfold zkV;rw[Cr.out];simp);go_wp2_with fail;go_ret;exact⟨by rw[<-fJ.out,HF.out];rfl,zka HB.out gU.out⟩
 have lF:=zh (zvA e.gv.vs e.bx A1 c1 w7 (HG.out _ gU.out).vars (HG.out _ gU.out).lv);obtain⟨R,hR⟩:=zX (cntR e.gv.vs e.bx);have HR:=zh hR;rw[hR]at lF;clear hR;have xR:=zh (show zkV e=decide (R.2=0/\R.1<=65536) by
  unfold zkV;rw[qw.out,qo.out,Cr.out,decide_eq_true HPF.out.1,decide_eq_true HPF.out.2,HR.out];simp)
 go_wp2_with fail;refine lF.out.mono ?_;rintro en w8 ⟨rfl,eZ⟩;have nS:=zh (zka gU.out eZ);clear x0 x1 x2 x3 x4 x5 x6 x7 x8 x9 az ay eZ lF;by_cases hr:R.2=0
 ·have hr1:(R.2==0)=true:=by simp[hr]
  go_wp2_with fail;go_ret;have e1:decide (R.1<=65536)=VX:=by rw[<-fJ.out,xR.out];exact decide_eq_decide.2 ⟨fun h=>⟨hr,h⟩,fun h=>h.2⟩
  exact⟨congrArg (fun b=>Ending.returned (.bool b)) e1,zka HB.out nS.out⟩
 ·have hr1:(R.2==0)=false:=by simp[hr]
  go_wp2_with fail;go_ret;have e1:VX=false:=by rw[<-fJ.out,xR.out];exact decide_eq_false fun h=>hr h.1
  exact⟨congrArg (fun b=>Ending.returned (.bool b)) e1.symm,zka HB.out nS.out⟩
end
section
open Go Go.RowKit
attribute [local go_sem] Oper.semAt_some
theorem zzG:IsFn prog 14 f14:=⟨func14,by kernel_rfl,by kernel_rfl⟩
theorem al4G(W:World)(o0 o1 o2 o3:Obj):Below W.heap.size W ((((W.alloc o0).alloc o1).alloc o2).alloc o3)/\((((W.alloc o0).alloc o1).alloc o2).alloc o3).heap.size=W.heap.size+4/\((((W.alloc o0).alloc o1).alloc o2).alloc o3).heap[W.heap.size]?=some o0/\((((W.alloc o0).alloc o1).alloc o2).alloc o3).heap[W.heap.size+1]?=some o1/\((((W.alloc o0).alloc o1).alloc o2).alloc o3).heap[W.heap.size+2]?=some o2/\((((W.alloc o0).alloc o1).alloc o2).alloc o3).heap[W.heap.size+3]?=some o3 :=
 ⟨zkb (zkb (zkb (zkb zr _) _) _) _,by simp,zkd (zkd (zkd (zoF _ rfl _) _) _) _,zkd (zkd (zoF _ (by simp) _) _) _,zkd (zoF _ (by simp) _) _,zoF _ (by simp) _⟩
abbrev pgA(p:PG)(A1:Option Addr)(c1:Nat)(A2:Option Addr)(c2:Nat)(A3:Option Addr)(c3:Nat):Array Value := #[.slice A1 p.vs.length c1,.slice A2 p.prs.length c2,.int .u8 p.m.k,.int .i64 p.m.n,.string p.m.s,.slice A3 p.m.ks.length c3]
abbrev stC(w':World)(b:Nat)(A:Option Addr)(l c:Nat)(B:Option Addr)(m d:Nat)(D:Option Addr)(n e:Nat):Prop:=w'.cell? ⟨b,0,none⟩=some (.slice A l c)/\w'.cell? ⟨b,1,none⟩=some (.slice B m d)/\w'.cell? ⟨b,2,none⟩=some (.slice D n e)
abbrev reS(w:World)(b:Nat)(A:Option Addr)(l c:Nat)(B:Option Addr)(l2 c2:Nat)(D:Option Addr)(l3 c3:Nat)(n e:Int):Prop:=w.cell? ⟨b,0,none⟩=some (.slice A l c)/\w.cell? ⟨b,1,none⟩=some (.slice B l2 c2)/\w.cell? ⟨b,2,none⟩=some (.slice D l3 c3)/\w.cell? ⟨b,3,none⟩=some (.int .i64 n)/\w.cell? ⟨b,4,none⟩=some (.int .i64 e)
theorem zzs{w:World}{b l c l2 c2 l3 c3:Nat}{A B D:Option Addr}{n e:Int}(h:w.heap[b]?=some (.cells #[.slice A l c,.slice B l2 c2,.slice D l3 c3,.int .i64 n,.int .i64 e] 58 (0,0))):reS w b A l c B l2 c2 D l3 c3 n e :=
 ⟨zc h rfl,zc h rfl,zc h rfl,zc h rfl,zc h rfl⟩
theorem znH{W:World}{e:EX}{q:PG}{s1 s:SS}{ev qv v1 v:Value}(he:EV W Any e ev)(hq:PV W Any q qv)(h1:SV W Any s1 v1)(h:SV W Any s v)(hc:s1.cells.length<=2000000)(hF:e.fu<=1000000) :
  Calls prog 30 #[ev,qv,v1,v] W fun en w'=>en=.returned (.tuple #[.bool (gerE q e.fu s1==0&&eqS (gstE q e.fu s1) s),.int .i64 (gerE q e.fu s1)])/\Below W.heap.size W w':=by
 have HQ:=zh (fun w' (hb:Below W.heap.size W w')=>hq.later hb);have bT:=zh (fun w' (hb:Below W.heap.size W w')=>h1.later hb);have HS:=zh (fun w' (hb:Below W.heap.size W w')=>h.later hb);obtain⟨A1,c1,A2,c2,A3,c3,rfl,-,hI⟩:=he;obtain⟨D1,e1,D2,e2,D3,e3,rfl,-⟩:=hq;obtain⟨Aa,ca,Ba,da,Da,ea,rfl⟩:∃A c B d D e,v1=.agg #[.slice A s1.cells.length c,.slice B s1.tin.length d,.slice D s1.tout.length e]:=by
  obtain⟨A,c,B,d,D,e,h,-⟩:=h1;exact⟨_,_,_,_,_,_,h⟩
 obtain⟨Ab,cb,Bb,db,Db,eb,rfl⟩:∃A c B d D e,v=.agg #[.slice A s.cells.length c,.slice B s.tin.length d,.slice D s.tout.length e]:=by
  obtain⟨A,c,B,d,D,e,h,-⟩:=h;exact⟨_,_,_,_,_,_,h⟩
 obtain⟨hb2,hz2,k0,k1,k2,k3⟩:=al4G W (.cells (exA e A1 c1 A2 c2 A3 c3) 32) (.cells (pgA q D1 e1 D2 e2 D3 e3) 30) (.cells #[.slice Aa s1.cells.length ca,.slice Ba s1.tin.length da,.slice Da s1.tout.length ea] 44) (.cells #[.slice Ab s.cells.length cb,.slice Bb s.tin.length db,.slice Db s.tout.length eb] 44);obtain⟨w2,hw2⟩:=zX ((((W.alloc (.cells (exA e A1 c1 A2 c2 A3 c3) 32)).alloc (.cells (pgA q D1 e1 D2 e2 D3 e3) 30)).alloc (.cells #[.slice Aa s1.cells.length ca,.slice Ba s1.tin.length da,.slice Da s1.tout.length ea] 44)).alloc (.cells #[.slice Ab s.cells.length cb,.slice Bb s.tin.length db,.slice Db s.tout.length eb] 44));obtain⟨N,hN⟩:=zX (W.heap.size);rw[hw2]at hb2 hz2 k0 k1 k2 k3;rw[hN]at hz2 k0 k1 k2 k3;have HB2:=zh hb2;have fH:=zh k3;have Cu:=zh (zmX q s1 e.fu (e.fu.toNat*2000+2000) _ _ w2 (HQ.out _ hb2) (bT.out _ hb2) (by omega) hI hF zl)
 have zq:=zh (show gerE q e.fu s1=(resO q s1 e.fu (e.fu.toNat*2000+2000) false).2.2.1/\gstE q e.fu s1=(resO q s1 e.fu (e.fu.toNat*2000+2000) false).1 from⟨rfl,rfl⟩);obtain⟨GE,hGE⟩:=zX (gerE q e.fu s1);obtain⟨GS,hGS⟩:=zX (gstE q e.fu s1);rw[hGE,hGS]at zq ⊢;generalize resO q s1 e.fu (e.fu.toNat*2000+2000) false=R at Cu zq;have x2:w2.cell? ⟨N,2,none⟩=some (.int .i64 e.fu):=zc k0 rfl;obtain⟨q0,q1,q2,q3,q4,q5⟩:=box6 k1;obtain⟨y0,y1,y2⟩:=zlG k2;clear hb2 hz2 k0 k1 k2 k3 h1 h hI hc hF hGE hGS;go_enter func30,ntmps30;go_upto_region 1 with fail
 try rw[hw2]
 try rw[hN]
 try simp only[Nat.add_assoc,Nat.reduceAdd]
 clear hw2 hN;go_wp2_with fail;refine Cu.out.mono ?_;rintro en w3 ⟨u1,u2,u3,rfl,ho,hb3,hl⟩;obtain⟨Ac,cc,Bc,dc,Dc,ec,hu⟩:=ho.slices;injection hu with hu;simp only[Array.mk.injEq,List.cons.injEq,and_true]at hu;obtain⟨rfl,rfl,rfl⟩:=hu;have hsv:=ho.sv hl.1;have HB3:=zh (zka HB2.out hb3);have hb4:=zkb hb3 (.cells #[.slice Ac R.1.cells.length cc,.slice Bc R.1.tin.length dc,.slice Dc R.1.tout.length ec,.int .i64 (R.2.1:Int),.int .i64 R.2.2.1] 58);have k4:=heap_alloc_new w3 (.cells #[.slice Ac R.1.cells.length cc,.slice Bc R.1.tin.length dc,.slice Dc R.1.tout.length ec,.int .i64 (R.2.1:Int),.int .i64 R.2.2.1] 58);have hs4:=hsv.later (zkb (zs w3) (.cells #[.slice Ac R.1.cells.length cc,.slice Bc R.1.tin.length dc,.slice Dc R.1.tout.length ec,.int .i64 (R.2.1:Int),.int .i64 R.2.2.1] 58));clear x2 q0 q1 q2 q3 q4 q5 y0 y1 y2 hsv hl ho hb3 Cu;go_upto_region 2 with fail
 obtain⟨w4,hw4⟩:=zX (w3.alloc (.cells #[.slice Ac R.1.cells.length cc,.slice Bc R.1.tin.length dc,.slice Dc R.1.tout.length ec,.int .i64 (R.2.1:Int),.int .i64 R.2.2.1] 58));obtain⟨N4,BF⟩:=zX (w3.heap.size);rw[hw4]at hb4 k4 hs4
 try rw[hw4]
 rw[BF]at k4
 try rw[BF]
 have ax:=zh (zka HB2.out hb4);have jK:=zh (fun w' (h:Below w4.heap.size w4 w')=>hs4.later h);have HST:=zh (fun w' (h:Below w4.heap.size w4 w')=>(⟨zzs (zkc k4 h),zlG (zkc (zkc fH.out hb4) h)⟩:reS w' N4 Ac R.1.cells.length cc Bc R.1.tin.length dc Dc R.1.tout.length ec (R.2.1:Int) R.2.2.1/\stC w' (N+3) Ab s.cells.length cb Bb s.tin.length db Db s.tout.length eb));have hSS:zW (fun w':World=>reS w' N4 Ac R.1.cells.length cc Bc R.1.tin.length dc Dc R.1.tout.length ec (R.2.1:Int) R.2.2.1/\stC w' (N+3) Ab s.cells.length cb Bb s.tin.length db Db s.tout.length eb) zU w4.drew:=⟨HST.out _ zr.drew,trivial⟩
 clear hb4 k4 hs4 hw4 BF;obtain⟨BK,h0b⟩:=zq.out;obtain⟨n0,hn0⟩:=zX (R.2.1);obtain⟨r0,hr0⟩:=zX (R.2.2.1);rw[hr0]at BK;rw[hn0,hr0]at HST hSS ⊢;have bu:=zh BK;have ve:=zh h0b;clear BK h0b hn0 hr0 zq;refine wp_region_noPanic ?_;refine zkk (fun w':World=>reS w' N4 Ac R.1.cells.length cc Bc R.1.tin.length dc Dc R.1.tout.length ec (n0:Int) r0/\stC w' (N+3) Ab s.cells.length cb Bb s.tin.length db Db s.tout.length eb) zU 20 (by kernel_rfl) ?_;by_cases hr:r0=0
 ·subst hr;have hr1:((0:Int)==0)=true:=by decide
  refine zT 0 hSS ?_;refine zT 1 hSS ?_;refine zT 2 hSS ?_;refine zT 3 hSS ?_;refine zT 4 hSS ?_;refine zT 5 hSS ?_;refine zT 6 hSS ?_;refine zT 9 hSS ?_;refine zT 10 hSS ?_;have hcon:=zvd R.1 s _ _ w4.drew (jK.out _ zr.drew |>.keep (S':=Any) (fun _ _ _=>trivial) fun _ _ _=>rfl) (HS.out _ (ax.out.trans (zr.drew.mono ax.out.size)));have had:Calls prog 14 [.agg #[.slice Ac R.1.cells.length cc,.slice Bc R.1.tin.length dc,.slice Dc R.1.tout.length ec],.agg #[.slice Ab s.cells.length cb,.slice Bb s.tin.length db,.slice Db s.tout.length eb]].toArray w4.drew fun e' W'=>∃z,e'=.returned z/\(z=.bool (eqS R.1 s)/\Below w4.heap.size w4 W'):=hcon.mono fun e' W' ⟨h1,h2⟩=>⟨_,h1,rfl,(zs w4).drew.trans (h2.mono (zs w4).drew.size)⟩
  refine zo 7 fun K hK=>?_;refine zlc (by rfl) (.func 14) [.tmp 21,.tmp 22] _ (by rfl) 14 _ zzG (by rfl) [.agg #[.slice Ac R.1.cells.length cc,.slice Bc R.1.tin.length dc,.slice Dc R.1.tout.length ec],.agg #[.slice Ab s.cells.length cb,.slice Bb s.tin.length db,.slice Db s.tout.length eb]] (by rfl) _ had ?_;rintro z w5 ⟨rfl,hb5⟩;have hS2:zW (fun w':World=>reS w' N4 Ac R.1.cells.length cc Bc R.1.tin.length dc Dc R.1.tout.length ec (n0:Int) 0/\stC w' (N+3) Ab s.cells.length cb Bb s.tin.length db Db s.tout.length eb) zU w5:=⟨HST.out _ hb5,trivial⟩
  refine hK.out _ _ hS2 ?_;clear hK K had hcon hSS;(try simp only[zQ]);refine zT 8 hS2 ?_;refine zT 11 hS2 ?_;refine zT 12 hS2 ?_;refine zd ?_;refine NoPanic.normal ?_;have dK:=zh (zka ax.out hb5);clear hS2 hb5;go_wp2_with fail;exact bodyPost_ret (v:=.tuple #[.bool (eqS R.1 s),.int .i64 0]) (by simp[results,results30,go_sem]) rfl ⟨by rw[bu.out,ve.out,hr1];rfl,dK.out⟩
 ·have hr1:(r0==0)=false:=by simp[hr]
  refine zT 0 hSS ?_;refine zT 1 hSS ?_;refine zT 2 hSS ?_;refine zT 3 hSS ?_;refine zkp (i:=4) (v:=undef) rfl (by kernel_rfl) (by kernel_rfl) (by kernel_rfl) (by decide) (fun _ _ _ h=>h) (Or.inr ⟨by rfl,rfl⟩) hSS ?_;(try simp only[zQ]);refine zkp (i:=5) (v:=undef) rfl (by kernel_rfl) (by kernel_rfl) (by kernel_rfl) (by decide) (fun _ _ _ h=>h) (Or.inr ⟨by rfl,rfl⟩) hSS ?_;(try simp only[zQ]);refine zkp (i:=6) (v:=undef) rfl (by kernel_rfl) (by kernel_rfl) (by kernel_rfl) (by decide) (fun _ _ _ h=>h) (Or.inr ⟨by rfl,rfl⟩) hSS ?_;(try simp only[zQ]);refine zkp (i:=7) (v:=undef) rfl (by kernel_rfl) (by kernel_rfl) (by kernel_rfl) (by decide) (fun _ _ _ h=>h) (Or.inr ⟨by rfl,rfl⟩) hSS ?_;(try simp only[zQ]);refine zT 8 hSS ?_;refine zT 9 hSS ?_;refine zT 10 hSS ?_;refine zT 11 hSS ?_;refine zT 12 hSS ?_;refine zd ?_;refine NoPanic.normal ?_;go_wp2_with fail
  exact bodyPost_ret (v:=.tuple #[.bool false,.int .i64 r0]) (by simp[results,results30,go_sem]) rfl ⟨by rw[bu.out,hr1];rfl,ax.out.trans (zr.drew.mono ax.out.size)⟩
end
section
open Go Go.RowKit
theorem zKf(s1 s2:ByteArray)(k1 k2 n1 n2:Int)(w:World):(Op.equalIn 10000 38 (.agg #[.string s1,.int .u8 k1,.int .i64 n1]) (.agg #[.string s2,.int .u8 k2,.int .i64 n2])).run prog w=.ok (s1.toList==s2.toList&&k1==k2&&n1==n2) w:=by
 have hS:prog.underlying 38=some (.struct (prog.fieldsOf 38)):=by kernel_rfl
 have hp:prog.stoodInHeld 38=false:=by kernel_rfl
 rw[show(10000:Nat)=9999+1 from rfl,run_equalIn_agg w 9999 38 _ _ hS hp];simp only[Program.fieldsOf,underlying38];go_simp;by_cases h1:s1.toList=s2.toList<;>by_cases h2:k1=k2<;>by_cases h3:n1=n2<;>simp[h1,h2,h3]
def eqV(u v:VD):Bool:=decide (u.s=v.s)&&decide (u.k=v.k)&&decide (u.n=v.n)
def eqVs:List VD->List VD->Bool
 | [],[]=>true
 | u::us,v::vs=>eqV u v&&eqVs us vs
 | _,_=>false
theorem zpQ{u v:VD}:eqV u v=true↔u=v:=by
 obtain⟨a,b,c⟩:=u;obtain⟨d,e,f⟩:=v;simp[eqV,and_assoc]
theorem zmi:∀ {us vs:List VD},eqVs us vs=true↔us=vs
 | [],[]=>by simp[eqVs]
 | u::us,v::vs=>by simp[eqVs,zpQ,zmi (us:=us) (vs:=vs)]
 | [],_::_=>by simp[eqVs]
 | _::_,[]=>by simp[eqVs]
theorem zss(s1 s2:ByteArray):(s1.toList==s2.toList)=decide (s1=s2):=by
 rw[ByteArray.toList_eq,ByteArray.toList_eq];obtain⟨⟨x⟩⟩:=s1;obtain⟨⟨y⟩⟩:=s2;by_cases h:x=y
 ·subst h;simp
 ·simp[h]
theorem zzj(s1 s2:ByteArray)(k1 k2 n1 n2:Int)(w:World):(binOp BinOp.neq 38 (.agg #[.string s1,.int .u8 k1,.int .i64 n1]) (.agg #[.string s2,.int .u8 k2,.int .i64 n2])).run prog w=.ok (.bool (!eqV ⟨s1,k1,n1⟩ ⟨s2,k2,n2⟩)) w:=by
 rw[run_neq_struct,zKf];simp only[Result.andThen_ok,zss,eqV];congr 3
theorem ztl(x y:Operand)(xs ys:Array Value)(w:World):(eqGuard BinOp.neq 38 x y (.agg xs) (.agg ys)).run prog w=.ok () w:=run_eqGuard_agg w _ _ x y xs ys (by kernel_rfl)
theorem zzh{vs us:List VD}{j:Nat}(h1:j<vs.length)(h2:j<us.length)(h:eqV vs[j] us[j]=false):eqVs vs us=false:=by
 cases e:eqVs vs us with
 | false=>rfl
 | true =>
  have e:=zmi.1 e;subst e;rw[zpQ.2 rfl]at h
  cases h
theorem zxw{vs us:List VD}(h:vs.length≠us.length):eqVs vs us=false:=by
 cases e:eqVs vs us with
 | false=>rfl
 | true=>exact absurd (by rw[zmi.1 e]) h
theorem zzi{vs us:List VD}(hl:vs.length=us.length)(h:∀k (h1:k<vs.length) (h2:k<us.length),vs[k]=us[k]):eqVs vs us=true:=zmi.2 (List.ext_getElem hl fun i h1 h2=>h i h1 h2)
theorem zy7{W:World}{vs us:List VD}{A B:Option Addr}{c d:Nat}(h1:RowV W Any A vs)(h2:RowV W Any B us)(hl:vs.length<=LV)(hk:us.length<=LV) :
  Calls prog 62 #[.slice A vs.length c,.slice B us.length d] W fun e W'=>e=.returned (.bool (eqVs vs us))/\Below W.heap.size W W':=by
 have H1:=zh h1;have H2:=zh h2;have hl1:=zkW hl;have hl2:=zkW hk;clear h1 h2 hl hk;have hneq:=zzj;have hgd:=ztl;obtain⟨n,hn⟩:=zX (vs.length);obtain⟨m,hm⟩:=zX (us.length);have HN:=zh (And.intro hn hm);rw[hn]at hl1 ⊢;rw[hm]at hl2 ⊢;clear hn hm;obtain⟨R,hR⟩:=zX (eqVs vs us);have HR:=zh hR;rw[hR];clear hR;go_enter func62,ntmps62;by_cases hnm:n=m;rotate_left 1
 ·have e0:((n:Int) != (m:Int))=true:=by simp;omega
  go_wp2_with fail;go_ret;exact⟨by rw[<-HR.out,zxw (by have:=HN.out;omega)];rfl,zr⟩
 subst hnm;go_wp2_with fail
 go_loopw [13] (fun i wr=>∃j:Nat,j<=n/\i=.int .i64 j/\Hid (Below W.heap.size W wr)/\Hid (∀k (h1:k<vs.length) (h2:k<us.length),k<j->vs[k]=us[k])) (fun i _=>n-(intOf i).toNat)
 case atStart=>exact⟨0,by omega,rfl,zh zr,zh fun k _ _ h=>by omega⟩
 case round =>
  obtain⟨j,hj,rfl,HB,HE⟩:=hrel;by_cases hlt:j<n
  ·have hj1:(j:Int)<(n:Int):=by omega
   have hj0:(0:Int)<=(j:Int):=by omega
   have dG:j<vs.length:=by rw[HN.out.1];exact hlt
   have xh:j<us.length:=by rw[HN.out.2];exact hlt
   obtain⟨a,v,rfl,-,hv,⟨x0,x1,x2⟩,-⟩:=(H1.out.later HB.out).nd dG;obtain⟨b,u,rfl,-,hu,⟨y0,y1,y2⟩,-⟩:=(H2.out.later HB.out).nd xh;obtain⟨v0,v1,v2⟩:=v;obtain⟨u0,u1,u2⟩:=u;simp only at x0 x1 x2 y0 y1 y2;have hvv:=hv.out;have jk:=hu.out;obtain⟨t,ht⟩:=zX (eqV ⟨v0,v1,v2⟩ ⟨u0,u1,u2⟩);have hnn:=fun w=>(hneq v0 u0 v1 u1 v2 u2 w).trans (by rw[ht]);have HT:=zh (show eqV vs[j] us[j]=t by rw[hvv,jk];exact ht);have HJ:=zh (And.intro dG xh);clear ht hneq hv hu hvv jk
   cases t
   ·go_upto_region 6 with fail
    go_quiet (fail)
    have cB:=zh (zkL HB.out nq);go_wp2_with fail;go_ret;exact⟨by rw[<-HR.out,zzh HJ.out.1 HJ.out.2 HT.out];rfl,cB.out⟩
   ·go_upto_region 6 with fail
    go_quiet (fail)
    have cB:=zh (zkL HB.out nq);go_wp2_with fail
    go_roundw
    case rel =>
     refine⟨j+1,by omega,by go_num,cB,zh fun k h1 h2 hk=>?_⟩;by_cases e:k<j
     ·exact HE.out k h1 h2 e
     ·obtain rfl:k=j:=by omega
      exact zpQ.1 HT.out
    case measure=>simp[intOf];omega
  ·obtain rfl:j=n:=by omega
   have hj1:¬ (j:Int)<(j:Int):=by omega
   go_wp2_with fail;go_ret;exact⟨by rw[<-HR.out,zzi (by have:=HN.out;omega) fun k h1 h2=>HE.out k h1 h2 (by have:=HN.out;omega)];rfl,HB.out⟩
theorem zxd{W:World}{vs us:List VD}{A B:Option Addr}{c d:Nat}(h1:RowV W Any A vs)(h2:RowV W Any B us)(hl:vs.length<=LV)(hk:us.length<=LV) :
  Calls prog 28 #[.slice A vs.length c,.slice B us.length d] W fun e W'=>e=.returned (.bool (eqVs vs us))/\Below W.heap.size W W':=by
 have H1:=zh h1;have H2:=zh h2;have hl1:=zkW hl;have hl2:=zkW hk;clear h1 h2 hl hk;have hneq:=zzj;have hgd:=ztl;obtain⟨n,hn⟩:=zX (vs.length);obtain⟨m,hm⟩:=zX (us.length);have HN:=zh (And.intro hn hm);rw[hn]at hl1 ⊢;rw[hm]at hl2 ⊢;clear hn hm;obtain⟨R,hR⟩:=zX (eqVs vs us);have HR:=zh hR;rw[hR];clear hR;go_enter func28,ntmps28;by_cases hnm:n=m;rotate_left 1
 ·have e0:((n:Int) != (m:Int))=true:=by simp;omega
  go_wp2_with fail;go_ret;exact⟨by rw[<-HR.out,zxw (by have:=HN.out;omega)];rfl,zr⟩
 subst hnm;go_wp2_with fail
 go_loopw [5] (fun i wr=>∃j:Nat,j<=n/\i=.int .i64 j/\Hid (Below W.heap.size W wr)/\Hid (∀k (h1:k<vs.length) (h2:k<us.length),k<j->vs[k]=us[k])) (fun i _=>n-(intOf i).toNat)
 case atStart=>exact⟨0,by omega,rfl,zh zr,zh fun k _ _ h=>by omega⟩
 case round =>
  obtain⟨j,hj,rfl,HB,HE⟩:=hrel;by_cases hlt:j<n
  ·have hj1:(j:Int)<(n:Int):=by omega
   have hj0:(0:Int)<=(j:Int):=by omega
   have dG:j<vs.length:=by rw[HN.out.1];exact hlt
   have xh:j<us.length:=by rw[HN.out.2];exact hlt
   obtain⟨a,v,rfl,-,hv,⟨x0,x1,x2⟩,-⟩:=(H1.out.later HB.out).nd dG;obtain⟨b,u,rfl,-,hu,⟨y0,y1,y2⟩,-⟩:=(H2.out.later HB.out).nd xh;obtain⟨v0,v1,v2⟩:=v;obtain⟨u0,u1,u2⟩:=u;simp only at x0 x1 x2 y0 y1 y2;have hvv:=hv.out;have jk:=hu.out;obtain⟨t,ht⟩:=zX (eqV ⟨v0,v1,v2⟩ ⟨u0,u1,u2⟩);have hnn:=fun w=>(hneq v0 u0 v1 u1 v2 u2 w).trans (by rw[ht]);have HT:=zh (show eqV vs[j] us[j]=t by rw[hvv,jk];exact ht);have HJ:=zh (And.intro dG xh);clear ht hneq hv hu hvv jk
   cases t
   ·go_upto_region 6 with fail
    go_quiet (fail)
    have cB:=zh (zkL HB.out nq);go_wp2_with fail;go_ret;exact⟨by rw[<-HR.out,zzh HJ.out.1 HJ.out.2 HT.out];rfl,cB.out⟩
   ·go_upto_region 6 with fail
    go_quiet (fail)
    have cB:=zh (zkL HB.out nq);go_wp2_with fail
    go_roundw
    case rel =>
     refine⟨j+1,by omega,by go_num,cB,zh fun k h1 h2 hk=>?_⟩;by_cases e:k<j
     ·exact HE.out k h1 h2 e
     ·obtain rfl:k=j:=by omega
      exact zpQ.1 HT.out
    case measure=>simp[intOf];omega
  ·obtain rfl:j=n:=by omega
   have hj1:¬ (j:Int)<(j:Int):=by omega
   go_wp2_with fail;go_ret;exact⟨by rw[<-HR.out,zzi (by have:=HN.out;omega) fun k h1 h2=>HE.out k h1 h2 (by have:=HN.out;omega)];rfl,HB.out⟩
attribute [local go_sem] Oper.semAt_some
theorem zuE{W:World}{base n c:Nat}{A:Option Addr}{xs:List Value}{es:List Int}(h:W.ownsRow base 73 4 (.slice A n c) n xs)(hr:RjO es xs)(hn:n≠0) :
  ∃g,A=some ⟨g,0,none⟩/\W.cell? ⟨g,2,none⟩=some (.int .i64 (es.headD 0)):=by
 have h0:=h;obtain⟨hl,h1|⟨g,cap,cur,he,-⟩⟩:=h
 ·exact absurd h1.2 hn
 injection he with he1 _ he2;subst he1 he2;refine⟨g,rfl,?_⟩;rw[h0.cellAt 2 (by omega)]
 match xs,hl with
 | a::b::c::d::r,hl =>
  have h2:=hr.2
  match es,h2 with
  | [],h2=>simp[er4]at h2
  | x::es,h2 =>
   simp only[er4,List.map_cons,List.cons.injEq]at h2;rw[h2.1];rfl
 | [],hl=>simp at hl;omega
 | [_],hl=>simp at hl;omega
 | [_,_],hl=>simp at hl;omega
 | [_,_,_],hl=>simp at hl;omega
theorem zx6(p:PG):(rjA p).length=rjT p:=by
 unfold rjA rjT rjQ rjP;rw[List.length_append,zrW,List.length_flatten,List.map_map];congr 2;exact List.map_congr_left fun r _=>zrW _
def admP(vs:List VD)(q:PG):Int:=if zkA q=true then(if chkN q=0 then(if rjT q=0 then(if eqVs q.vs vs=true then 0 else 7)else(rjA q).headD 0)else 3)else 3
def admE(e:EX)(q:PG):Int:=if zkV e=true then admP e.gv.vs q else 1
def ChkO(W:World)(q:PG)(en:Ending)(w':World):Prop:=∃A n c,en=.returned (.slice A n c)/\((zkA q=true/\chkN q=0)->n=rjT q/\(n≠0->∃g,A=some ⟨g,0,none⟩/\w'.cell? ⟨g,2,none⟩=some (.int .i64 ((rjA q).headD 0))))/\Below W.heap.size W w'
theorem zqR{W:World}{q:PG}{v:Value}(hq:PV W Any q v):Calls prog 27 #[v] W (ChkO W q):=by
 by_cases hval:zkA q=true
 ·by_cases hch:chkN q=0
  ·refine(zqQ q v W hq hval hch).mono ?_;rintro en w' ⟨A,c,rfl,⟨xs,h1,h2⟩,h3⟩;exact⟨A,_,c,rfl,fun _=>⟨rfl,zuE h1 h2⟩,h3⟩
  ·have ja:=zh (show ∀A n c w',Below W.heap.size W w'->ChkO W q (.returned (.slice A n c)) w' from fun A n c w' h=>⟨A,n,c,rfl,fun h=>absurd h.2 hch,h⟩);have HQ:=zh (fun w' (hb:Below W.heap.size W w')=>hq.later hb);obtain⟨A1,c1,A2,c2,A3,c3,rfl,-⟩:=hq;have lg:=zh (fun w' (hb:Below W.heap.size W w')=>zqM hval (HQ.out w' hb));have gZ:=zh (fun w' (hb:Below W.heap.size W w')=>by
    have:=zlJ q Any _ w' (HQ.out w' hb);rwa[if_pos hval]at this)
   obtain⟨CN,iH⟩:=zX (chkN q);rw[iH]at hch gZ;have hc1:((CN:Int)==0)=false:=by simpa using hch
   have hc2:decide ((CN:Int)>0)=true:=by simp;omega
   have hc3:decide ((0:Int)<CN)=true:=by simp;omega
   clear iH hval;have bL:=zh (zs W);go_enter func27,ntmps27;go_wp2_with fail;have hb1:=zkb bL.out (.cells (pgA q A1 c1 A2 c2 A3 c3) 30);refine(lg.out _ hb1).mono ?_;rintro e w1 ⟨rfl,aa⟩;have hb2:=zka hb1 aa;obtain⟨a0,a1,a2,a3,a4,a5⟩:=box6 (zkc (heap_alloc_new W (.cells (pgA q A1 c1 A2 c2 A3 c3) 30)) aa);go_wp2_with fail;refine(gZ.out _ hb2).mono ?_;rintro e w2 ⟨B0,d0,rfl,ah⟩;have hb3:=zka hb2 ah;clear a0 a1 a2 a3 a4 a5;go_wp2_with fail;go_ret;exact ja.out _ _ _ _ hb3
 ·have ja:=zh (show ∀A n c w',Below W.heap.size W w'->ChkO W q (.returned (.slice A n c)) w' from fun A n c w' h=>⟨A,n,c,rfl,fun h=>absurd h.1 hval,h⟩);have HQ:=zh (fun w' (hb:Below W.heap.size W w')=>hq.later hb);obtain⟨A1,c1,A2,c2,A3,c3,rfl,-⟩:=hq;have hv0:zkA q=false:=by simpa using hval
  have lg:=zh (fun w' (hb:Below W.heap.size W w')=>by
   have:=zlz q Any _ w' (HQ.out w' hb);rwa[hv0]at this)
  clear hval hv0;have bL:=zh (zs W);go_enter func27,ntmps27;go_wp2_with fail;have hb1:=zkb bL.out (.cells (pgA q A1 c1 A2 c2 A3 c3) 30);refine(lg.out _ hb1).mono ?_;rintro e w1 ⟨rfl,aa⟩;have hb2:=zka hb1 aa;go_wp2_with fail;go_ret;exact ja.out _ _ _ _ hb2
theorem zqJ{W:World}{e:EX}{q:PG}{ev qv:Value}(he:EV W Any e ev)(hq:PV W Any q qv) :
  Calls prog 29 #[ev,qv] W fun en w'=>en=.returned (.int .i64 (admE e q))/\Below W.heap.size W w':=by
 have iR:=zh (fun w' (hb:Below W.heap.size W w')=>he.later hb);have HQ:=zh (fun w' (hb:Below W.heap.size W w')=>hq.later hb);obtain⟨A1,c1,A2,c2,A3,c3,rfl,hg,hI⟩:=he;obtain⟨D1,e1,D2,e2,D3,e3,rfl,iA⟩:=hq;have hb2:=zkb (zkb (zs W) (.cells (exA e A1 c1 A2 c2 A3 c3) 32)) (.cells (pgA q D1 e1 D2 e2 D3 e3) 30);have k0:=zkd (heap_alloc_new W (.cells (exA e A1 c1 A2 c2 A3 c3) 32)) (.cells (pgA q D1 e1 D2 e2 D3 e3) 30);have k1:=heap_alloc_new (W.alloc (.cells (exA e A1 c1 A2 c2 A3 c3) 32)) (.cells (pgA q D1 e1 D2 e2 D3 e3) 30);rw[World.size_alloc]at k1;obtain⟨w2,hw2⟩:=zX ((W.alloc (.cells (exA e A1 c1 A2 c2 A3 c3) 32)).alloc (.cells (pgA q D1 e1 D2 e2 D3 e3) 30));obtain⟨N,hN⟩:=zX (W.heap.size);rw[hw2]at hb2 k0 k1;rw[hN]at k0 k1;have HB:=zh hb2;have bF:=zh (fun w' (h:Below w2.heap.size w2 w')=>znb (zkc k0 h));have bB:=zh (fun w' (h:Below w2.heap.size w2 w')=>box6 (zkc k1 h))
 have bH:=zh (zs w2);have uq:=zh (zow e _ w2 (iR.out _ hb2));have bN:=zh (fun w' (h:Below w2.heap.size w2 w')=>zqR (HQ.out _ (zka hb2 h)));have dO:=zh (fun w' (h:Below w2.heap.size w2 w')=>zlz q Any _ w' (HQ.out _ (zka hb2 h)));have gZ:=zh (fun w' (h:Below w2.heap.size w2 w')=>zlJ q Any _ w' (HQ.out _ (zka hb2 h)));have dX:=zh (fun w' (h:Below w2.heap.size w2 w')=>zy7 (W:=w') (c:=e1) (d:=c1) ((iA.vars.later hb2).later h) ((hg.vars.later hb2).later h) iA.lv hg.lv);obtain⟨VX,mR⟩:=zX (zkV e);obtain⟨AD,fq⟩:=zX (admE e q);have HAD:=zh fq;have fJ:=zh mR;rw[fq];rw[mR]at uq;clear hb2 k0 k1 hg iA mR fq hI;obtain⟨x0,x1,x2,x3,x4,x5,x6,x7,x8,x9,az,ay⟩:=bF.out _ bH.out;obtain⟨q0,q1,q2,q3,q4,q5⟩:=bB.out _ bH.out;go_enter func29,ntmps29;go_upto_region 1 with fail
 try rw[hw2]
 try rw[hN]
 clear hw2 hN;go_wp2_with fail;refine uq.out.mono ?_;rintro en w3 ⟨rfl,hb3⟩;have aR:=zh (zka bH.out hb3);clear x0 x1 x2 x3 x4 x5 x6 x7 x8 x9 az ay q0 q1 q2 q3 q4 q5 hb3 uq;obtain⟨x0,x1,x2,x3,x4,x5,x6,x7,x8,x9,az,ay⟩:=bF.out _ aR.out;obtain⟨q0,q1,q2,q3,q4,q5⟩:=bB.out _ aR.out
 cases VX
 ·have HF:=zh (show admE e q=1 by unfold admE;rw[fJ.out];rfl);go_wp2_with fail;go_ret;exact⟨by rw[<-HAD.out,HF.out];rfl,zka HB.out aR.out⟩
 have nY:=zh (show admE e q=admP e.gv.vs q by unfold admE;rw[fJ.out];rfl);go_wp2_with fail;refine(bN.out _ aR.out).mono ?_;rintro en w4 ⟨R,n,c,rfl,hR,hb4⟩;have HR:=zh hR;have bq:=zh (zka aR.out hb4);have ax:=zh hb4;clear x0 x1 x2 x3 x4 x5 x6 x7 x8 x9 az ay q0 q1 q2 q3 q4 q5 hb4 hR;obtain⟨x0,x1,x2,x3,x4,x5,x6,x7,x8,x9,az,ay⟩:=bF.out _ bq.out;obtain⟨q0,q1,q2,q3,q4,q5⟩:=bB.out _ bq.out;go_wp2_with fail;refine(dO.out _ bq.out).mono ?_;rintro en w5 ⟨rfl,hb5⟩;have bX:=zh (zka bq.out hb5);have aO:=zh hb5;clear x0 x1 x2 x3 x4 x5 x6 x7 x8 x9 az ay q0 q1 q2 q3 q4 q5 hb5 dO;obtain⟨x0,x1,x2,x3,x4,x5,x6,x7,x8,x9,az,ay⟩:=bF.out _ bX.out;obtain⟨q0,q1,q2,q3,q4,q5⟩:=bB.out _ bX.out;obtain⟨VB,tL⟩:=zX (zkA q);have aZ:=zh tL;rw[tL];clear tL
 cases VB
 ·have HF:=zh (show admE e q=3 by rw[nY.out];unfold admP;rw[aZ.out];rfl);go_wp2_with fail;go_ret;exact⟨by rw[<-HAD.out,HF.out];rfl,zka HB.out bX.out⟩
 have tT:=gZ.out _ bX.out;rw[if_pos aZ.out]at tT;have nH:=zh tT;clear tT gZ;go_wp2_with fail;refine nH.out.mono ?_;rintro en w6 ⟨B0,d0,rfl,hb6⟩;have dn:=zh (zka bX.out hb6);have bC:=zh (zka aO.out hb6);clear x0 x1 x2 x3 x4 x5 x6 x7 x8 x9 az ay q0 q1 q2 q3 q4 q5 hb6 nH;obtain⟨x0,x1,x2,x3,x4,x5,x6,x7,x8,x9,az,ay⟩:=bF.out _ dn.out;obtain⟨q0,q1,q2,q3,q4,q5⟩:=bB.out _ dn.out;obtain⟨CN,iH⟩:=zX (chkN q);have lF:=zh iH;rw[iH];clear iH;by_cases hc:CN=0
 ·have hz1:decide ((CN:Int)>0)=false:=by simp;omega
  have hz2:decide (0<CN)=false:=by simp;omega
  obtain⟨hn,hcell⟩:=HR.out ⟨aZ.out,lF.out.trans hc⟩;have rC:=zh (lF.out.trans hc);clear hc;have xW:=zh hn;clear hn;by_cases hz:n=0
  ·have xy:=zh (xW.out.symm.trans hz);have hz3:decide ((n:Int)>0)=false:=by simp;omega
   have mr:decide (0<n)=false:=by simp;omega
   clear hz hcell;go_wp2_with fail;refine(dX.out _ dn.out).mono ?_;rintro en w7 ⟨rfl,dN⟩;have gU:=zh (zka dn.out dN);obtain⟨EQ,uf⟩:=zX (eqVs q.vs e.gv.vs);have HE:=zh uf;rw[uf];clear uf
   cases EQ
   ·have HF:=zh (show admE e q=7 by rw[nY.out];unfold admP;rw[aZ.out,rC.out,xy.out,HE.out];rfl);go_wp2_with fail;go_ret;exact⟨by rw[<-HAD.out,HF.out];rfl,zka HB.out gU.out⟩
   ·have HF:=zh (show admE e q=0 by rw[nY.out];unfold admP;rw[aZ.out,rC.out,xy.out,HE.out];rfl);go_wp2_with fail;go_ret;exact⟨by rw[<-HAD.out,HF.out];rfl,zka HB.out gU.out⟩
  ·obtain⟨g,rfl,hcl⟩:=hcell hz;have sU:=zb bC.out hcl;have hz3:decide ((n:Int)>0)=true:=by simp;omega
   have mr:decide (0<n)=true:=by simp;omega
   have HF:=zh (show admE e q=(rjA q).headD 0 by rw[nY.out];unfold admP;rw[aZ.out,rC.out,if_pos rfl,if_pos rfl,if_neg (fun h=>hz (xW.out.trans h))]);obtain⟨HD,xE⟩:=zX ((rjA q).headD 0);rw[xE]at HF sU;clear hcl xE;go_wp2_with fail;go_ret;exact⟨by rw[<-HAD.out,HF.out];rfl,zka HB.out dn.out⟩
 ·have hz1:decide ((CN:Int)>0)=true:=by simp;omega
  have hz2:decide (0<CN)=true:=by simp;omega
  have HF:=zh (show admE e q=3 by rw[nY.out];unfold admP;rw[aZ.out,lF.out,if_pos rfl,if_neg hc]);go_wp2_with fail;go_ret;exact⟨by rw[<-HAD.out,HF.out];rfl,zka HB.out dn.out⟩
end
section
open Go Go.RowKit
def Fl(F':Int)(n:Nat)(o o':Out):Prop:=∀r',o=.ok r'->n<=r'.n/\((r'.n:Int)<=F'\/r'.n=n->o'=.ok r')/\(F'<(r'.n:Int)->n<r'.n->o'=.err 18)
theorem Fl.bind{F':Int}{n:Nat}{o o':Out}{f f':RS->Out}(h:Fl F' n o o')(hf:∀r,n<=r.n->Fl F' r.n (f r) (f' r)):Fl F' n (o.bind f) (o'.bind f'):=by
 intro r2 e
 cases o with
 | gas=>cases e
 | err x=>cases e
 | ok r1 =>
  obtain⟨h1,h2,h3⟩:=h r1 rfl;obtain⟨g1,g2,g3⟩:=hf r1 h1 r2 e;refine⟨by omega,fun hc=>?_,fun a b=>?_⟩
  ·rw[h2 (by omega)];exact g2 (by omega)
  ·by_cases hc:(r1.n:Int)<=F'\/r1.n=n
   ·rw[h2 hc];exact g3 a (by omega)
   ·rw[h3 (by omega) (by omega)];rfl
theorem Fl.err{F':Int}{n:Nat}{x:Int}{o':Out}:Fl F' n (.err x) o':=fun _ e=>by cases e
theorem Fl.gas{F':Int}{n:Nat}{o':Out}:Fl F' n .gas o':=fun _ e=>by cases e
theorem Fl.same{F':Int}{r:RS}:Fl F' r.n (.ok r) (.ok r):=fun r' e=>by
 injection e with e;subst e;exact⟨zl,fun _=>rfl,fun _ h=>absurd h (Nat.lt_irrefl _)⟩
theorem Fl.step(F F':Int)(r:RS):Fl F' r.n (zkz F r) (zkz F' r):=fun r' e=>by
 obtain⟨rfl,-⟩:=zlh e;refine⟨by simp only;omega,fun h=>?_,fun h _=>?_⟩
 ·unfold zkz;rw[if_neg (by simp only at h;omega)]
 ·unfold zkz;rw[if_pos (by simp only at h;omega)]
theorem Fl.store{F':Int}{r:RS}(R:Int×ST):Fl F' r.n (zkm r R) (zkm r R):=by
 unfold zkm
 split
 ·exact Fl.err
 ·intro r' e;injection e with e;subst e;exact⟨zl,fun _=>rfl,fun _ h=>absurd h (Nat.lt_irrefl _)⟩
theorem Fl.val{F':Int}{n:Nat}{t:T}{r:RS}{f f':Int->RS->Out}(h:∀x,Fl F' n (f x r) (f' x r)):Fl F' n (valO t r f) (valO t r f'):=by
 unfold valO
 split
 ·exact Fl.err
 ·exact h _
theorem Fl.holds{F F':Int}{t:T}{r:RS}{f f':Bool->RS->Out}(h:∀b r1,r.n<=r1.n->Fl F' r1.n (f b r1) (f' b r1)):Fl F' r.n (zk8 F t r f) (zk8 F' t r f'):=by
 unfold zk8;exact(Fl.step F F' r).bind fun r1 h1=>Fl.val fun x=>h _ _ h1
theorem Fl.assert{F F':Int}{t:T}{b:Bool}{r:RS}:Fl F' r.n (zkq F t b r) (zkq F' t b r):=by
 unfold zkq;refine Fl.holds fun b1 r1 _=>?_
 split
 ·exact Fl.same
 ·exact Fl.err
theorem Fl.body{F':Int}{f f':T->RS->Out}:∀(l:List T) (r:RS),(∀t∈l,∀r',Fl F' r'.n (f t r') (f' t r'))->Fl F' r.n (zk1 f l r) (zk1 f' l r)
 | [],r,_=>Fl.same
 | t::ts,r,h=>by
  rw[zk1,zk1];exact(h t (List.mem_cons_self ..) r).bind fun r1 _=>Fl.body ts r1 fun u hu r'=>h u (List.mem_cons_of_mem _ hu) r'
theorem Fl.loop{F F':Int}{f f':T->RS->Out}{entry test:T}{l1 l2:List T}(h1:∀t∈l1,∀r',Fl F' r'.n (f t r') (f' t r'))(h2:∀t∈l2,∀r',Fl F' r'.n (f t r') (f' t r')):∀(m:Nat) (r:RS),Fl F' r.n (zlT F f entry test l1 l2 m r) (zlT F' f' entry test l1 l2 m r)
 | 0,r=>Fl.gas
 | m+1,r=>by
  rw[zlT,zlT];refine(Fl.body l1 r h1).bind fun r1 _=>Fl.holds fun b r2 _=>?_
  split
  ·exact Fl.same
  ·exact(Fl.body l2 r2 h2).bind fun r3 _=>Fl.assert.bind fun r4 _=>Fl.loop h1 h2 m r4
theorem zmK{prs:List PR}{F F':Int}:∀(g:Nat) (back:Bool) (t:T) (r:RS),Fl F' r.n (zku prs F g back t r) (zku prs F' g back t r)
 | 0,_,_,_=>Fl.gas
 | g+1,back,t,r=>by
  have hb:∀back (l:List T) r1,Fl F' r1.n (zk1 (zku prs F g back) l r1) (zk1 (zku prs F' g back) l r1):=fun back l r1=>Fl.body l r1 fun u _ r'=>zmK g back u r';rw[zku,zku]
  split
  ·exact Fl.holds fun yes r1 _=>(hb _ _ r1).bind fun r2 _=>Fl.assert
  ·split
   ·exact Fl.assert.bind fun r1 _=>Fl.loop (fun u _ r'=>zmK g back u r') (fun u _ r'=>zmK g back u r') g r1
   ·split
    ·refine(Fl.step F F' r).bind fun r1 _=>Fl.val fun x=>(Fl.store _).bind fun r2 _=>(hb _ _ r2).bind fun r3 _=>(Fl.step F F' r3).bind fun r4 _=>Fl.val fun x=>Fl.store _
    ·split
     ·exact(Fl.step F F' r).bind fun r1 _=>(Fl.store _).bind fun r2 _=>(hb _ _ r2).bind fun r3 _=>(Fl.step F F' r3).bind fun r4 _=>Fl.store _
     ·split
      ·split
       ·exact Fl.err
       ·exact(Fl.step F F' r).bind fun r1 _=>(Fl.store _).bind fun r2 _=>Fl.bind (hb _ _ { r2 with ent:=_ }) fun r3 _=>(Fl.step F F' r3).bind fun r4 _=>Fl.store _
      ·exact(Fl.step F F' r).bind fun r1 _=>Fl.store _
theorem ztB{prs:List PR}{F F':Int}(g:Nat)(back:Bool)(b:T)(r:RS):Fl F' r.n (runO prs F g back b r) (runO prs F' g back b r):=Fl.body _ _ fun u _ r'=>zmK g back u r'
theorem zx7{p:PG}{s:SS}{F:Int}{g:Nat}{back:Bool}(hg:F.toNat*2000+2000<=g)(h:(resO p s F g back).2.2.1=0) :
  zkA p=true/\chkN p=0/\fitB p.vs s=true/\∃r,runO p.prs F g back p.m ⟨newS p.vs s,0,List.replicate p.prs.length 0⟩=.ok r/\resO p s F g back=(r.S.state,r.n,0,r.ent):=by
 unfold resO at h ⊢
 split at h
 ·simp at h
 ·rename_i h1;rw[if_neg h1];simp only[not_or,Bool.not_eq_false,Decidable.not_not]at h1
  split at h
  ·simp at h
  ·rename_i h2;rw[if_neg h2];simp only[Bool.not_eq_false]at h2;refine⟨h1.1,by simpa using h1.2,h2,?_⟩;have hz:Nz (runO p.prs F g back p.m ⟨newS p.vs s,0,List.replicate p.prs.length 0⟩):=ztA zzc (zrB h1.1 (by simpa using h1.2));have hg0:=(zrR (F:=F) (g:=g) h1.1 hg back (newS p.vs s) (List.replicate p.prs.length 0)).1
   cases ho:runO p.prs F g back p.m ⟨newS p.vs s,0,List.replicate p.prs.length 0⟩with
   | gas=>exact absurd ho hg0
   | err e =>
    rw[ho]at h hz;simp only[outR]at h;rw[h]at hz;exact absurd rfl hz
   | ok r=>exact⟨r,rfl,rfl⟩
theorem zrV{p:PG}{s:SS}{F:Int}{g:Nat}{back:Bool}(h1:zkA p=true)(h2:chkN p=0)(h3:fitB p.vs s=true) :
  resO p s F g back=outR s (runO p.prs F g back p.m ⟨newS p.vs s,0,List.replicate p.prs.length 0⟩):=by
 unfold resO;rw[if_neg (by rw[h1,h2];simp),if_neg (by rw[h3];simp)]
theorem zr9{p:PG}{s:SS}{F:Int}{g:Nat}{back:Bool}(hg:F.toNat*2000+2000<=g)(h:(resO p s F g back).2.2.1=0) :
  ((resO p s F g back).2.1:Int)<=max F 0/\(∀F':Int,((resO p s F g back).2.1:Int)<=F'->resO p s F' g back=resO p s F g back) /\
   ∀F':Int,F'<((resO p s F g back).2.1:Int)->0<(resO p s F g back).2.1->(resO p s F' g back).2.2.1=18:=by
 obtain⟨h1,h2,h3,r,hr,he⟩:=zx7 hg h;rw[he];simp only;have key:=fun F'=>ztB (prs:=p.prs) (F:=F) (F':=F') g back p.m ⟨newS p.vs s,0,List.replicate p.prs.length 0⟩ r hr;refine⟨?_,fun F' hF=>?_,fun F' hF h0=>?_⟩
 ·rcases Int.lt_or_le (max F 0) (r.n:Int)with hlt|hle
  ·have:=(key F).2.2 (by omega) (by simp only;omega);rw[hr]at this
   cases this
  ·exact hle
 ·rw[zrV h1 h2 h3,(key F').2.1 (.inl hF)];rfl
 ·rw[zrV h1 h2 h3,(key F').2.2 hF h0];rfl
attribute [local go_sem] Oper.semAt_some
theorem SV.nilG(w:World)(S:Nat->Prop):SV w S nilS (.agg #[.slice none 0 0,.slice none 0 0,.slice none 0 0]) :=
 ⟨none,0,none,0,none,0,rfl,fun i hi=>by simp[nilS]at hi,fun i hi=>by simp[nilS]at hi,fun i hi=>by simp[nilS]at hi,by simp[nilS],by simp[nilS],by simp[nilS],by simp[nilS,LI],by intro l hl;simp[nilS]at hl,by simp[nilS,LI],by simp[nilS,LI]⟩
theorem zzL:IsFn prog 39 Tryz.f39:=⟨func39,by kernel_rfl,by kernel_rfl⟩
theorem zsO:IsFn prog 31 f31:=⟨func31,by kernel_rfl,by kernel_rfl⟩
abbrev vdA(ok:Bool)(n:Int)(A:Option Addr)(l c:Nat)(B:Option Addr)(m d:Nat)(D:Option Addr)(k e:Nat)(er:Int):Array Value := #[.bool ok,.int .i64 n,.slice A l c,.slice B m d,.slice D k e,.int .i64 er]
theorem zsw{W:World}{b:Nat}{x0 x1 x2 x3 x4 x5:Value}{E:TypeId}(u0 u1 u2 u3 u4 u5:Value)(h:W.heap[b]?=some (.cells #[x0,x1,x2,x3,x4,x5] E (0,0))) :
  ∃W',((((((W.setCell ⟨b,0,none⟩ u0).setCell ⟨b,1,none⟩ u1).setCell ⟨b,2,none⟩ u2).setCell ⟨b,3,none⟩ u3).setCell ⟨b,4,none⟩ u4).setCell ⟨b,5,none⟩ u5)=W'/\W'.heap[b]?=some (.cells #[u0,u1,u2,u3,u4,u5] E (0,0))/\Chg (fun q=>q=b) W W':=zzm h
def GraP(r:Bool×Nat×SS×Int)(a:Int)(W:World)(en:Ending)(W':World):Prop :=
 ∃A c B d D e,en=.returned (.tuple #[.agg (vdA r.1 (r.2.1:Int) A r.2.2.1.cells.length c B r.2.2.1.tin.length d D r.2.2.1.tout.length e r.2.2.2),.int .i64 a]) /\
  SV W' Any r.2.2.1 (.agg #[.slice A r.2.2.1.cells.length c,.slice B r.2.2.1.tin.length d,.slice D r.2.2.1.tout.length e])/\Below W.heap.size W W'
def GdI(W0:World)(T:Nat)(w5:World)(rel right:SS->Bool)(pre:List SS)(C:Nat->Prop)(W:World):Prop :=
 (∀b,C b↔b<T+1)/\(∀b,b<T->W.heap[b]?=w5.heap[b]?)/\W.heap[T]?=some (.cells #[.int .i64 ((pre.filter rel).length:Int)] 3 (0,0))/\(∀x∈pre,rel x=true->right x=true)/\Below W0.heap.size W0 W
def GdX(W0:World)(N T:Nat)(w5:World)(rel right:SS->Bool)(err:SS->Int)(xs pre:List SS)(C:Nat->Prop)(W:World):Prop:=∃fT s g X A c B1 d D e,pre=fT++[s]/\pre <+: xs/\(∀x∈fT,rel x=true->right x=true)/\rel s=true/\right s=false/\(∀b,C b↔b<T+1\/(g<=b/\b<X))/\w5.heap.size<g/\X<=W.heap.size/\T+1<=W.heap.size /\
 Below W0.heap.size W0 W/\W.heap[N+2]?=some (.cells (vdA false ((((fT.filter rel).length+1:Nat):Int)) A s.cells.length c B1 s.tin.length d D s.tout.length e (err s)) 46 (0,0))/\W.heap[N+3]?=some (.cells #[.int .i64 0] 35 (0,0)) /\
 SV W (fun q=>g<=q/\q<X) s (.agg #[.slice A s.cells.length c,.slice B1 s.tin.length d,.slice D s.tout.length e])
theorem GdI.chg{W0:World}{T:Nat}{w5 W W':World}{rel right:SS->Bool}{pre:List SS}{C D:Nat->Prop}(h:GdI W0 T w5 rel right pre C W)(hT:W0.heap.size<=T)(hc:Chg D W W')(hD:∀b,C b->¬ D b):GdI W0 T w5 rel right pre C W':=by
 obtain⟨h1,h2,h3,h4,h5⟩:=h;have hlt:T<W.heap.size:=zkf h3;have hk:∀b,b<T+1->W'.heap[b]?=W.heap[b]?:=fun b hb=>hc.block b (by omega) (hD b ((h1 b).2 hb));exact⟨h1,fun b hb=>(hk b (by omega)).trans (h2 b hb),(hk T (by omega)).trans h3,h4,h5.trans ⟨hc.os,hc.tape,hc.output,hc.size,fun b hb=>hk b (by omega)⟩⟩
theorem GdX.chg{W0:World}{N T:Nat}{w5 W W':World}{rel right:SS->Bool}{err:SS->Int}{xs pre:List SS}{C D:Nat->Prop}(h:GdX W0 N T w5 rel right err xs pre C W)(hT:W0.heap.size<=T)(hN:N+3<T)(hc:Chg D W W')(hD:∀b,C b->¬ D b):GdX W0 N T w5 rel right err xs pre C W':=by
 obtain⟨fT,s,g,X,A,c,B1,d,E,e,h1,h2,h3,h4,BJ,h5,h6,h7,h8,h9,h10,h11,mY⟩:=h;have hk:∀b,b<T+1->W'.heap[b]?=W.heap[b]?:=fun b hb=>hc.block b (by omega) (hD b ((h5 b).2 (.inl hb)));exact⟨fT,s,g,X,A,c,B1,d,E,e,h1,h2,h3,h4,BJ,h5,h6,Nat.le_trans h7 hc.size,Nat.le_trans h8 hc.size,h9.trans ⟨hc.os,hc.tape,hc.output,hc.size,fun b hb=>hk b (by omega)⟩,(hk _ (by omega)).trans h10,(hk _ (by omega)).trans h11,mY.keep (fun _ h _=>h) fun b hb _=>hc.block b (by omega) (hD b ((h5 b).2 (.inr hb)))⟩
theorem zon{rel right:SS->Bool}{err:SS->Int}{s:SS}{t:List SS}:∀(a:List SS) (n:Nat),(∀x∈a,rel x=true->right x=true)->rel s=true->right s=false->grE rel right err n (a++s::t)=(false,n+(a.filter rel).length+1,s,err s)
 | [],n,_,h1,h2=>by rw[List.nil_append,grE,if_pos h1,if_neg (by rw[h2];simp)];rfl
 | x::a,n,h,h1,h2=>by
  rw[List.cons_append,grE];by_cases hx:rel x=true
  ·rw[if_pos hx,if_pos (h x List.mem_cons_self hx),zon a (n+1) (fun y hy=>h y (List.mem_cons_of_mem _ hy)) h1 h2,List.filter_cons_of_pos hx,List.length_cons,show n+((a.filter rel).length+1)+1=n+1+(a.filter rel).length+1 by omega]
  ·rw[if_neg hx,zon a n (fun y hy=>h y (List.mem_cons_of_mem _ hy)) h1 h2,List.filter_cons_of_neg hx]
theorem zoJ{W:World}{e:EX}{q:PG}{ev qv:Value}(he:EV W Any e ev)(hq:PV W Any q qv)(hok:admE e q=0->(e.bx.ok&&svB e.gv.vs)=true/\(allS e.bx (lenE e.gv.vs e.bx)).length<=1000000/\e.fu<=1000000) :
  Calls prog 13 #[ev,qv] W (GraP (if admE e q=0 then grdE e q else(false,0,nilS,0)) (admE e q) W):=by
 have HAD:=zh (fun w' (hb:Below W.heap.size W w')=>zqJ (he.later hb) (hq.later hb));have iR:=zh (fun w' (hb:Below W.heap.size W w')=>he.later hb);have HQ:=zh (fun w' (hb:Below W.heap.size W w')=>hq.later hb);have fB:=zh hok;obtain⟨A1,c1,A2,c2,A3,c3,rfl,hg,hI⟩:=he;obtain⟨D1,e1,D2,e2,D3,e3,rfl,iA⟩:=hq;have HG:=zh (fun w' (hb:Below W.heap.size W w')=>hg.later hb);have HI:=zh hI;obtain⟨hb1,hz1,k0,k1,k2,k3⟩:=al4G W (.cells (exA e A1 c1 A2 c2 A3 c3) 32) (.cells (pgA q D1 e1 D2 e2 D3 e3) 30) (.cells (vdA false 0 none 0 0 none 0 0 none 0 0 0) 46) (.cells #[.int .i64 0] 35);obtain⟨w1,hw1⟩:=zX ((((W.alloc (.cells (exA e A1 c1 A2 c2 A3 c3) 32)).alloc (.cells (pgA q D1 e1 D2 e2 D3 e3) 30)).alloc (.cells (vdA false 0 none 0 0 none 0 0 none 0 0 0) 46)).alloc (.cells #[.int .i64 0] 35));obtain⟨N,hN⟩:=zX (W.heap.size);have HN:=zh hN;rw[hw1]at hb1 hz1 k0 k1 k2 k3;rw[hN]at hz1 k0 k1 k2 k3
 have HB1:=zh hb1;have HZ1:=zh hz1;have aH:=zh k0;have aD:=zh k1;have aQ:=zh k2;have fH:=zh k3;obtain⟨x0,x1,x2,x3,x4,x5,x6,x7,x8,x9,az,ay⟩:=znb k0;obtain⟨q0,q1,q2,q3,q4,q5⟩:=box6 k1;obtain⟨AD,fq⟩:=zX (admE e q);have HADE:=zh fq;rw[fq]at fB ⊢;rw[fq]at HAD;obtain⟨RR,hRR⟩:=zX ((if AD=0 then grdE e q else(false,0,nilS,0)));have HRR:=zh hRR;rw[hRR];clear hRR;clear hok hg hI iA hb1 hz1 k0 k1 k2 k3 fq;refine(callsIn_wide (n:=3)).1 (callsIn_of_wp_marks func13 rfl trivial ((wpIn_wide (n:=3)).2 ?_));simp only[ntmps13,List.size_toArray,List.length_cons,List.length_nil,Nat.reduceAdd,Nat.reduceSub,Array.replicate_succ,Array.replicate_zero,List.push_toArray,List.append_toArray,List.nil_append,List.cons_append];go_upto_region 1 with fail
 try simp only[Nat.add_assoc,Nat.reduceAdd]
 try rw[hw1]
 try rw[hN]
 try simp only[Nat.add_assoc,Nat.reduceAdd]
 clear hw1;go_wp2_with fail;refine(HAD.out _ HB1.out).mono ?_;rintro en w2 ⟨rfl,hb2⟩;have HB2:=zh (zka HB1.out hb2);have HK02:=zh (zkc aH.out hb2);have nO:=zh (zkc aD.out hb2);have nN:=zh (zkc aQ.out hb2);have uV:=zh (zkc fH.out hb2);have HZ2:=zh (show N+4<=w2.heap.size by have:=HZ1.out;have:=hb2.size;omega);clear hb2 x0 x1 x2 x3 x4 x5 x6 x7 x8 x9 az ay q0 q1 q2 q3 q4 q5 aH aD aQ fH;by_cases ha:AD=0
 ·subst ha;have ha1:((0:Int) != 0)=false:=by decide
  have ha2:((0:Int)==0)=true:=by decide
  have hRR:=HRR.out;rw[if_pos rfl]at hRR;have jL:=zh hRR;clear hRR HRR;obtain⟨hok,hm,qI⟩:=fB.out rfl;have bR:=zh (fun w' (hb:Below W.heap.size W w')=>zze e.gv.vs e.bx A1 c1 w' (HG.out w' hb).vars (HG.out w' hb).lv hok);have HOK2:=zh hok;have HMX:=zh hm;have Cx:=zh qI;clear hok hm qI fB;go_upto_region 5 with fail;have hk3:=heap_alloc_new w2 (.cells #[.int .i64 0] 3);have hb3:=zkb (zs w2) (.cells #[.int .i64 0] 3);obtain⟨w3,hw3⟩:=zX (w2.alloc (.cells #[.int .i64 0] 3));have hz3:w3.heap.size=w2.heap.size+1:=by rw[<-hw3];simp
  rw[hw3]at hk3 hb3 ⊢;obtain⟨T,hT⟩:=zX (w2.heap.size);rw[hT]at hk3 hz3 ⊢;have HT:=zh hT;have gY:=zh (show N+4<=T by rw[<-hT];exact HZ2.out);have HZ3:=zh hz3;have HB3:=zh (zka HB2.out hb3);have HK03:=zh (zkc HK02.out hb3);have HK13:=zh (zkc nO.out hb3);have HK23:=zh (zkc nN.out hb3);have HK33:=zh (zkc uV.out hb3);have HKT3:=zh hk3;clear hk3 hb3 hw3 hz3 hT HK02 nO nN uV;obtain⟨x0,x1,x2,x3,x4,x5,x6,x7,x8,x9,az,ay⟩:=znb HK03.out;have jU:=zh (bR.out _ HB3.out);go_wp2_with fail;refine jU.out.mono ?_;rintro e5 w5 ⟨kH,xb,lb',A9,c9,rfl,hb5,g1,g2,g3,hM5⟩;have aO:=zh hb5;have HG5:=zh (And.intro g1 (And.intro g2 g3));have uO:=zh hM5;clear hb5 g1 g2 g3 hM5 x0 x1 x2 x3 x4 x5 x6 x7 x8 x9 az ay jU bR;go_wp2_with fail;have hlb:=zm5 HOK2.out
  have HAW:=zh (zvE (nf:=3-1) (S:=fun q=>w3.heap.size<=q/\q<w5.heap.size) ⟨uO.out.ok,uO.out.bx,uO.out.ls,uO.out.row.keep (fun b h hlt=>⟨h,hlt⟩) fun _ _ _=>rfl⟩ ⟨hlb.2.2.2.1,hlb.2.2.2.2⟩ ⟨by rw[hlb.1];omega,by rw[hlb.1];have:=hlb.2.1;omega⟩ fun q hq=>(hlb.2.2.1 q hq).2);clear hlb;have uo:=zh (show T+1<=w5.heap.size by have:=aO.out.size;have:=HZ3.out;omega);have HB05:=zh (zka HB3.out aO.out);have hWT:W.heap.size<=T:=by have:=HN.out;have:=gY.out;omega
  have uw:=zh hWT;clear hWT;obtain⟨rel,hrel⟩:=zX (relG e.gv e.fu);obtain⟨vM,rX⟩:=zX (rigG e.gv q e.fu);obtain⟨err,sQ⟩:=zX (erG e.gv q e.fu);have lV:=zh (fun s=>congrFun hrel s);have HRG:=zh (fun s=>congrFun rX s);have wP:=zh (fun s=>congrFun sQ s);have iJ:=zh (show grE rel vM err 0 (allS e.bx (lenE e.gv.vs e.bx))=RR by rw[<-jL.out,<-hrel,<-rX,<-sQ];rfl);clear hrel rX sQ jL;refine(wpIn_wide (n:=3)).1 ?_;refine zsD (n:=3) (gf:=39) (lb := #[ptr0 kH,ptr0 xb,ptr0 lb']) rfl (zkG zzL) HAW.out (fun l x vs' g W' h=>by obtain⟨v9,rfl,-,h2,-⟩:=h;exact⟨rfl,h2⟩)
   (GdI W T w5 rel vM) (GdX W N T w5 rel vM err (allS e.bx (lenE e.gv.vs e.bx))) (fun b=>b<T+1)
   (fun pre C W' W'' h hc=>h.chg uw.out hc fun b hb h=>h hb) (fun pre C W' W'' h hc=>h.chg uw.out (by have:=gY.out;omega) hc fun b hb h=>h hb) (fun pre C W' h b hb=>by have h1:=(h.1 b).1 hb;have h2:=zkf h.2.2.1;omega) (fun pre C W' h b hb=>by obtain⟨_,_,g,X,_,_,_,_,_,_,_,_,_,_,_,h5,h6,h7,h8,_⟩:=h;rcases(h5 b).1 hb with h|h<;>omega)
   (fun b h1 h2=>by
    have:=HG5.out;have:=HZ3.out;rcases h2 with h|h|h|h<;>omega) (fun b h=>by
    rcases h with rfl|rfl|rfl|h
    ·exact zkf uO.out.ok
    ·exact zkf uO.out.bx
    ·exact zkf uO.out.ls
    ·exact h.2) ⟨fun _=>Iff.rfl,fun _ _=>rfl,zkc HKT3.out aO.out,(fun s hs=>by cases hs),HB05.out⟩ ?_ ?_ ?_
  ·rintro l pre x C W3 vs' g hI vZ jE hl xg hpre ⟨sv,rfl,hsv,Bj⟩;clear vZ;have hxm:x∈allS e.bx (lenE e.gv.vs e.bx):=hpre.subset (by simp);have hpl:(pre.filter rel).length<1000000:=by have h1:=hpre.length_le;have h2:=HMX.out;have h3:=List.length_filter_le rel pre;simp only[List.length_append,List.length_cons,List.length_nil]at h1;omega
   have hxc:x.cells.length<=100:=by
    obtain⟨y,hy,rfl⟩:=List.mem_map.1 hxm;have h1:=(zxa rfl y hy).len;have h2:=zm5 HOK2.out;simp only[stOf,List.length_dropLast];omega
   have oJ:=zh (show x.Lim by obtain⟨A,c,B,d,D,e,-,-,-,-,-,-,-,h1,h2,h3,h4⟩:=hsv;exact⟨h1,h2,h3,h4⟩);obtain⟨As,cs,Bs,ds,Ds,es,rfl⟩:∃A c B d D e,sv=.agg #[.slice A x.cells.length c,.slice B x.tin.length d,.slice D x.tout.length e]:=by
    obtain⟨A,c,B,d,D,e,rfl,-⟩:=hsv;exact⟨_,_,_,_,_,_,rfl⟩
   change Code.wpIn (Fence.wide.inRound l) (3-1-1) prog _ _ _ _
   gi_wp2
   refine⟨(Chg.refl _ _).alloc _,fun W4 tK=>?_⟩;have hbx:=tK.keep (heap_alloc_new W3 (.cells #[.slice As x.cells.length cs,.slice Bs x.tin.length ds,.slice Ds x.tout.length es] 44)) (show ¬ W3.heap.size=l by omega);have tF:=zkb (zs W3) (.cells #[.slice As x.cells.length cs,.slice Bs x.tin.length ds,.slice Ds x.tout.length es] 44);have xD:=(hI.chg uw.out (Chg.of_below tF) (fun b hb h=>h)).chg uw.out tK (fun b hb h=>jE (by have h:b=l:=h;rwa[h]at hb));have rV:SV W4 (fun q=>g<=q) x (.agg #[.slice As x.cells.length cs,.slice Bs x.tin.length ds,.slice Ds x.tout.length es]):=(hsv.later tF).keep (fun _ h _=>h) fun q h hlt=>tK.block q hlt (fun e:q=l=>by have h:g<=q:=h;omega);obtain⟨xp,hxp⟩:=zX (W3.heap.size);rw[hxp]at hbx ⊢;have hg6:T+1<=g:=by have:=uo.out;omega
   have hxp6:g<=xp:=by omega
   have sM:=(xD.2.1 N (by have:=gY.out;omega)).trans (zkc HK03.out aO.out);have hk14:=(xD.2.1 (N+1) (by have:=gY.out;omega)).trans (zkc HK13.out aO.out);have HK04:=zh sM;have HK14:=zh hk14;have HI4:=zh xD;have HSV4:=zh rV;have aS:=zh hbx;have HXC:=zh hxc;have lY:=zh (And.intro hl (And.intro xg (And.intro Bj (And.intro hg6 hxp6))));have dP:=zh hpre;have jR:=zh (zmX e.gv x e.fu (e.fu.toNat*2000+2000) _ _ W4 (HG.out _ xD.2.2.2.2).pv rV.any (by omega) HI.out Cx.out zl);have ik:=zh (show(resO e.gv x e.fu (e.fu.toNat*2000+2000) false).2.2.1=0->((resO e.gv x e.fu (e.fu.toNat*2000+2000) false).2.1:Int)<=max e.fu 0 from fun h=>(zr9 zl h).1)
   have dV:=zh (show rel x=((resO e.gv x e.fu (e.fu.toNat*2000+2000) false).2.2.1==0)/\vM x=(gerE q e.fu (resO e.gv x e.fu (e.fu.toNat*2000+2000) false).1==0&&eqS (gstE q e.fu (resO e.gv x e.fu (e.fu.toNat*2000+2000) false).1) x)/\err x=gerE q e.fu (resO e.gv x e.fu (e.fu.toNat*2000+2000) false).1 from⟨(lV.out x).symm,(HRG.out x).symm,(wP.out x).symm⟩);generalize resO e.gv x e.fu (e.fu.toNat*2000+2000) false=R at jR dV ik;obtain⟨x0,x1,x2,x3,x4,x5,x6,x7,x8,x9,az,ay⟩:=znb sM;obtain⟨y0,y1,y2⟩:=zlG hbx;clear hI hpre hbx xD rV tK hsv hxc jE hl xg Bj tF hxm hg6 hxp6 sM hk14;change Code.wpIn (Fence.wide.inRound l) (3-1-1) prog _ _ _ _
   gi_wp2
   refine⟨trivial,CallsIn.inRound l (callsIn_wide.2 (jR.out.mono ?_))⟩;rintro en w6 ⟨u1,u2,u3,rfl,jW,hb6,Bo⟩;obtain⟨A6,c6,B6,d6,D6,e6,hv⟩:=jW.slices;injection hv with hv;simp only[Array.mk.injEq,List.cons.injEq,and_true]at hv;obtain⟨rfl,rfl,rfl⟩:=hv;have qW:=zh (show R.2.2.1=0->R.1.cells.length<=2000000 from fun h=>by have h1:=(Bo.2 h).1;have h2:=ik.out h;have h3:=Cx.out;omega);have uC:=zh (jW.svR Bo.1);have bC:=zh hb6;clear x0 x1 x2 x3 x4 x5 x6 x7 x8 x9 az ay y0 y1 y2 jR jW hb6 Bo;obtain⟨R1,R2,R3,R4⟩:=R;simp only at dV qW ik uC ⊢;by_cases hr:R3=0
   ·subst hr;have hr1:((0:Int) != 0)=false:=by decide
    have hr2:((0:Int)==0)=true:=by decide
    have oF:=zh (show rel x=true from dV.out.1.trans (by decide));have HR1:=zh dV.out.2
    gi_upto_region 8 with fail
    have dN:=zkb bC.out (.cells #[.slice A6 R1.cells.length c6,.slice B6 R1.tin.length d6,.slice D6 R1.tout.length e6,.int .i64 (R2:Int),.int .i64 0] 58);have tC:=zkb (zs w6) (.cells #[.slice A6 R1.cells.length c6,.slice B6 R1.tin.length d6,.slice D6 R1.tout.length e6,.int .i64 (R2:Int),.int .i64 0] 58);have mH:=heap_alloc_new w6 (.cells #[.slice A6 R1.cells.length c6,.slice B6 R1.tin.length d6,.slice D6 R1.tout.length e6,.int .i64 (R2:Int),.int .i64 0] 58);obtain⟨w7,hw7⟩:=zX (w6.alloc (.cells #[.slice A6 R1.cells.length c6,.slice B6 R1.tin.length d6,.slice D6 R1.tout.length e6,.int .i64 (R2:Int),.int .i64 0] 58));obtain⟨gp,vR⟩:=zX (w6.heap.size);rw[hw7]at dN tC mH ⊢;rw[vR]at mH ⊢;have hgp2:W4.heap.size<=gp:=by rw[<-vR];exact bC.out.size
    have hx4:=zkf aS.out;have hgpT:T<gp:=by have:=zkf HI4.out.2.2.1;omega
    have hgpx:xp<gp:=by omega
    have nP:=zh (And.intro hgp2 (And.intro hgpT hgpx));have p9:=zkc HI4.out.2.2.1 dN;obtain⟨n,hn⟩:=zX ((pre.filter rel).length);have oH:=zh hn;rw[hn]at p9 hpl;have z7:w7.cell? ⟨T,0,none⟩=some (.int .i64 (n:Int)):=zc p9 rfl;have cf7:∀o,w7.frozen? ⟨T,o,none⟩=false:=fun o=>zf p9;have z8:w7.cell? ⟨gp,4,none⟩=some (.int .i64 0):=zc mH rfl;obtain⟨W8,hw8,hc8,hh8⟩:=setU (o:=0) (.int .i64 ((n:Int)+1)) p9;have hk08:=hc8.keep (zkc HK04.out dN) (fun e:N=T=>by have:=gY.out;omega);have hk18:=hc8.keep (zkc HK14.out dN) (fun e:N+1=T=>by have:=gY.out;omega);have Ay:=hc8.keep (zkc aS.out dN) (fun e:xp=T=>by have:=lY.out;omega);have yJ:=hc8.keep mH (fun e:gp=T=>by omega);have HX8:=zh Ay;have qd:=HI4.out.chg uw.out (Chg.of_below dN (C:=fun _=>False)) (fun b hb h=>h)
    have iT:=zh (show Below W.heap.size W W8 from qd.2.2.2.2.trans (hc8.below qd.2.2.2.2.size fun b (e:b=T)=>by have:=uw.out;omega));have nS:=zh (show Chg (fun q=>q=T) W4 W8 from(Chg.of_below dN).trans2 hc8 fun q _ e=>e);have HH8:=zh hh8;have AV:SV W8 Any R1 (.agg #[.slice A6 R1.cells.length c6,.slice B6 R1.tin.length d6,.slice D6 R1.tout.length e6]):=(uC.out.later tC).keep (fun _ _ _=>trivial) fun q h hlt=>hc8.block q hlt fun e:q=T=>by have h:W4.heap.size<=q:=h;have:=zkf HI4.out.2.2.1;omega
    have hx8v:SV W8 Any x (.agg #[.slice As x.cells.length cs,.slice Bs x.tin.length ds,.slice Ds x.tout.length es]):=HSV4.out.keep (fun _ _ _=>trivial) fun q h hlt=>nS.out.block q hlt fun e:q=T=>by have h:g<=q:=h;have:=lY.out;omega
    have HCM:=zh (znH (iR.out _ iT.out) (HQ.out _ iT.out) AV hx8v (qW.out rfl) Cx.out);obtain⟨bb,hbb⟩:=zX ((gerE q e.fu R1==0&&eqS (gstE q e.fu R1) x));obtain⟨ge,hge⟩:=zX (gerE q e.fu R1);rw[hbb,hge]at HCM;have HR2:=zh (show vM x=bb/\err x=ge from⟨HR1.out.1.trans hbb,HR1.out.2.trans hge⟩);obtain⟨x0,x1,x2,x3,x4,x5,x6,x7,x8,x9,az,ay⟩:=znb hk08;obtain⟨q0,q1,q2,q3,q4,q5⟩:=box6 hk18;obtain⟨y0,y1,y2⟩:=zlG Ay;have r0:W8.cell? ⟨gp,0,none⟩=some (.slice A6 R1.cells.length c6):=zc yJ rfl;have r1:W8.cell? ⟨gp,1,none⟩=some (.slice B6 R1.tin.length d6):=zc yJ rfl;have r2:W8.cell? ⟨gp,2,none⟩=some (.slice D6 R1.tout.length e6):=zc yJ rfl;clear dN tC mH hw7 vR hgp2 hx4 hgpT hgpx p9 hn hc8 hh8 hk08 hk18 Ay yJ qd AV hx8v hbb hge HR1 dV HK04 HK14 ik qW uC bC;change Code.wpIn (Fence.wide.inRound l) (3-1-1) prog _ _ _ _
    gi_wp2
    refine⟨trivial,CallsIn.inRound l (callsIn_wide.2 (HCM.out.mono ?_))⟩;rintro en w9 ⟨rfl,aT⟩;have bE:=zh aT;have kD:=zh (nS.out.trans2 (Chg.of_below (C:=fun _=>False) aT) fun q _ e=>e.elim);have hlow:∀b,b<T->w9.heap[b]?=w5.heap[b]?:=fun b hb=>(kD.out.block b (by have:=zkf HI4.out.2.2.1;omega) (fun e:b=T=>by omega)).trans (HI4.out.2.1 b hb);have uQ:=zh hlow;have HT9:=zh (zkc HH8.out aT);have vH:=zh (iT.out.trans (aT.mono iT.out.size));have HX9:=zh (zkc HX8.out aT);have HSV9:=zh (show SV w9 Any x (.agg #[.slice As x.cells.length cs,.slice Bs x.tin.length ds,.slice Ds x.tout.length es])from HSV4.out.keep (fun _ _ _=>trivial) fun q h hlt=>kD.out.block q hlt fun e:q=T=>by have h:g<=q:=h;have:=lY.out;omega);clear aT hlow x0 x1 x2 x3 x4 x5 x6 x7 x8 x9 az ay q0 q1 q2 q3 q4 q5 y0 y1 y2 r0 r1 r2 z7 cf7 z8 hw8 HCM
    cases bb
    ·gi_upto_region 12 with fail
     have Bz:w9.heap[T]?=some (.cells #[.int .i64 ((n:Int)+1)] 3 (0,0)):=by have:=HT9.out;simpa using this
     have yP:(fun w':World=>zv w' T 0 (.int .i64 ((n:Int)+1))/\stC w' xp As x.cells.length cs Bs x.tin.length ds Ds x.tout.length es) w9.drew:=⟨zc Bz rfl,zlG HX9.out⟩
     refine zl9 (ro:=some l) (fun w':World=>zv w' T 0 (.int .i64 ((n:Int)+1))/\stC w' xp As x.cells.length cs Bs x.tin.length ds Ds x.tout.length es) (by kernel_rfl) ?_;refine zI 0 yP ?_;refine zI 1 yP ?_;refine zI 3 yP ?_;have hcl:=zp1 x _ w9.drew (HSV9.out.later zr.drew) (by have:=HXC.out;omega);have had:Calls prog 31 [.agg #[.slice As x.cells.length cs,.slice Bs x.tin.length ds,.slice Ds x.tout.length es]].toArray w9.drew fun e w'=>∃u,e=.returned u/\(OwnS w' w9.heap.size x u/\Below w9.heap.size w9 w') :=
      hcl.mono fun e w' ⟨v,h1,h2,h3⟩=>⟨v,h1,h2,zka (zs w9).drew h3⟩
     refine zno (i:=2) (by kernel_rfl) rfl (by kernel_rfl) (by rfl) (fun K hK=>?_);refine zke (by rfl) (.func 31) [.tmp 49] _ (by rfl) 31 _ zsO (by rfl) _ (by rfl) _ had ?_;rintro u aM ⟨kJ,dh⟩;have hsv10:=kJ.svR oJ.out;obtain⟨Au,cu,Bu,du,Du,eu,rfl⟩:=kJ.slices;have qa:=zkc Bz dh;have oP:=zkc HX9.out dh;have tV:(fun w':World=>zv w' T 0 (.int .i64 ((n:Int)+1))/\stC w' xp As x.cells.length cs Bs x.tin.length ds Ds x.tout.length es) aM:=⟨zc qa rfl,zlG oP⟩
     refine hK.out _ _ tV ?_;clear hK K had hcl yP Bz kJ;(try simp only[zQ]);refine zI 4 tV ?_;have hk2:=zkc ((uQ.out (N+2) (by have:=gY.out;omega)).trans (zkc HK23.out aO.out)) dh;have hk3:=zkc ((uQ.out (N+3) (by have:=gY.out;omega)).trans (zkc HK33.out aO.out)) dh;obtain⟨q0,q1,q2,q3,q4,q5⟩:=box6 hk2;have cf:∀o,aM.frozen? ⟨N+2,o,none⟩=false:=fun o=>zf hk2;obtain⟨w11,iq,hh11,iE⟩:=zsw (.bool false) (.int .i64 ((n:Int)+1)) (.slice Au x.cells.length cu) (.slice Bu x.tin.length du) (.slice Du x.tout.length eu) (.int .i64 ge) hk2;refine zno (i:=5) (by kernel_rfl) rfl (by kernel_rfl) (by rfl) (fun K hK=>?_);(try simp only[zA,zB,zC]);go_simp;have hT11:=iE.keep qa (fun e:T=N+2=>by have:=gY.out;omega);have hx11:=iE.keep oP (fun e:xp=N+2=>by have:=gY.out;have:=nP.out;have:=lY.out;omega);refine hK.out _ _ ⟨zc hT11 rfl,zlG hx11⟩ ?_
     clear hK K q0 q1 q2 q3 q4 q5 cf;(try simp only[zQ]);have jZ:=iE.keep hk3 (fun e:N+3=N+2=>by omega);have q0:w11.cell? ⟨N+3,0,none⟩=some (.int .i64 0):=zc jZ rfl;have cf:∀o,w11.frozen? ⟨N+3,o,none⟩=false:=fun o=>zf jZ;obtain⟨w12,hw12,sZ,hh12⟩:=setU (o:=0) (.int .i64 0) jZ;refine zno (i:=6) (by kernel_rfl) rfl (by kernel_rfl) (by rfl) (fun K hK=>?_);(try simp only[zA,zB,zC]);go_simp;have hc:Chg (fun q=>q=N+2\/q=N+3) aM w12:=(iE.mono fun q _ e=>.inl e).trans2 sZ fun q _ e=>.inr e;have hT12:=hc.keep qa (fun e=>by have:=gY.out;rcases e with e|e<;>omega);have hx12:=hc.keep oP (fun e=>by have:=gY.out;have:=nP.out;have:=lY.out;rcases e with e|e<;>omega);have hcx:Chg (fun q=>q=N+2\/q=N+3) w9 w12:=(Chg.of_below dh).trans2 hc fun q _ e=>e;have oh:W4.heap.size<=w9.heap.size:=kD.out.size;have mD:w9.heap.size<=aM.heap.size:=dh.size;have hx4:=zkf aS.out
     have hT94:T<W4.heap.size:=zkf HI4.out.2.2.1;have vw:=zh (show GdX W N T w5 rel vM err (allS e.bx (lenE e.gv.vs e.bx)) (pre++[x]) (fun b=>b<T+1\/(w9.heap.size<=b/\b<w12.heap.size)) w12 from
      ⟨pre,x,w9.heap.size,w12.heap.size,Au,cu,Bu,du,Du,eu,rfl,dP.out,HI4.out.2.2.2.1,oF.out,HR2.out.1,fun b=>Iff.rfl,(by have:=lY.out;omega),zl,(by have:=hc.size;omega),
       vH.out.trans (hcx.below vH.out.size fun b h=>by have:=HN.out;rcases h with h|h<;>omega),by rw[sZ.keep hh11 (fun e:N+2=N+3=>by omega),oH.out,HR2.out.2];simp,hh12,
       hsv10.keep (fun q h hlt=>⟨h,Nat.lt_of_lt_of_le hlt hc.size⟩) fun q h hlt=>hc.block q hlt fun e=>by have h:w9.heap.size<=q:=h;have:=gY.out;rcases e with e|e<;>omega⟩)
     have HCX:=zh (show Chg C W4 w12 from(kD.out.mono fun q _ e=>(HI4.out.1 q).2 (by have e:q=T:=e;omega)).trans2 hcx fun q _ e=>(HI4.out.1 q).2 (by have:=gY.out;rcases e with e|e<;>omega));have HGL:=zh (show g<=w9.heap.size by have:=lY.out;omega);refine hK.out _ _ ⟨zc hT12 rfl,zlG hx12⟩ ?_;clear hK K q0 cf hcx hc hT12 hx12 hh12 sZ jZ hh11 iE hT11 hx11 hk2 hk3 hsv10 qa oP dh tV oh mD;(try simp only[zQ]);refine znP (by kernel_rfl) ?_
     gi_wp2
     exact⟨_,vw.out,(fun b hb=>by rcases hb with h|h;exact .inl ((HI4.out.1 b).2 h);exact .inr (Nat.le_trans HGL.out h.1)),HCX.out⟩
    ·gi_wp2
     have vS:(pre++[x]).filter rel=pre.filter rel++[x]:=by rw[List.filter_append,List.filter_cons_of_pos oF.out];simp
     exact⟨C,⟨HI4.out.1,uQ.out,by rw[vS,List.length_append,oH.out,HT9.out];simp,fun y hy h=>by
      rcases List.mem_append.1 hy with hy|hy
      ·exact HI4.out.2.2.2.1 y hy h
      ·rw[List.mem_singleton.1 hy];exact HR2.out.1,vH.out⟩,fun b hb=>.inl hb,kD.out.mono fun q _ e=>(HI4.out.1 q).2 (by have e:q=T:=e;omega)⟩
   ·have hr1:(R3 != 0)=true:=by simpa using hr
    have hr2:(R3==0)=false:=by simpa using hr
    have oF:=zh (dV.out.1.trans hr2);clear hr
    gi_upto_region 8 with fail
    have kG:=zh (zkb bC.out (.cells #[.slice A6 R1.cells.length c6,.slice B6 R1.tin.length d6,.slice D6 R1.tout.length e6,.int .i64 (R2:Int),.int .i64 R3] 58))
    gi_wp2
    have qd:=HI4.out.chg uw.out (Chg.of_below kG.out (C:=fun _=>False)) (fun b hb h=>h);have vS:(pre++[x]).filter rel=pre.filter rel:=by rw[List.filter_append,List.filter_cons_of_neg (by rw[oF.out];simp)];simp
    exact⟨C,⟨qd.1,qd.2.1,by rw[vS];exact qd.2.2.1,fun y hy h=>by
     rcases List.mem_append.1 hy with hy|hy
     ·exact qd.2.2.2.1 y hy h
     ·rw[List.mem_singleton.1 hy,oF.out]at h;exact absurd h Bool.false_ne_true,qd.2.2.2.2⟩,fun b hb=>.inl hb,Chg.of_below kG.out⟩
  ·intro D C W' hD hI hch hK;have hchL:Chg (fun b=>b<T+1) w5 W':=hch;have hk2:=(hI.2.1 (N+2) (by have:=gY.out;omega)).trans (zkc HK23.out aO.out);have hk3:=(hI.2.1 (N+3) (by have:=gY.out;omega)).trans (zkc HK33.out aO.out);have hRR:(true,((allS e.bx (lenE e.gv.vs e.bx)).filter rel).length,nilS,0)=RR:=(zuq hI.2.2.2.1).symm.trans iJ.out;obtain⟨n,hn⟩:=zX (((allS e.bx (lenE e.gv.vs e.bx)).filter rel).length);have p9:=hI.2.2.1;rw[hn]at p9 hRR;subst hRR;have aU:=zh hI.2.2.2.2;have HK:=zh hK;have HD:=zh (show w5.heap.size=D from hD.symm);have z7:W'.cell? ⟨T,0,none⟩=some (.int .i64 (n:Int)):=zc p9 rfl;obtain⟨q0,q1,q2,q3,q4,q5⟩:=box6 hk2;have cf:∀o,W'.frozen? ⟨N+2,o,none⟩=false:=fun o=>zf hk2;obtain⟨w6,jV,ou,hc6⟩:=zsw (.bool true) (.int .i64 (n:Int)) (.slice none 0 0) (.slice none 0 0) (.slice none 0 0) (.int .i64 0) hk2;have pE:=hc6.keep hk3 (fun e:N+3=N+2=>by omega)
   have q6:w6.cell? ⟨N+3,0,none⟩=some (.int .i64 0):=zc pE rfl;have cf6:∀o,w6.frozen? ⟨N+3,o,none⟩=false:=fun o=>zf pE;obtain⟨w7,hw7,pQ,xn⟩:=setU (o:=0) (.int .i64 0) pE;have hcx:Chg (fun q=>q=N+2\/q=N+3) W' w7:=(hc6.mono fun q _ e=>.inl e).trans2 pQ fun q _ e=>.inr e;have hND:N+3<D:=by have:=uo.out;have:=HD.out;have:=gY.out;omega
   have HKD:=zh (hcx.keep hK (fun e=>by rcases e with e|e<;>omega));have hcd:=Chg.putObj w7 D (.deferred none);obtain⟨t0,t1,t2,t3,t4,t5⟩:=box6 (hcd.keep (pQ.keep ou (fun e:N+2=N+3=>by omega)) (fun(e:N+2=D)=>by omega));have t6:(w7.putObj D (.deferred none)).cell? ⟨N+3,0,none⟩=some (.int .i64 0):=zc (hcd.keep xn (fun(e:N+3=D)=>by omega)) rfl;have dK:=zh (show Below W.heap.size W (w7.putObj D (.deferred none))from(aU.out.trans (hcx.below aU.out.size fun b h=>by have:=HN.out;rcases h with h|h<;>omega)).trans (hcd.below (Nat.le_trans aU.out.size hcx.size) fun b (e:b=D)=>by have:=HN.out;omega));have HT0:=zh (And.intro t0 (And.intro t1 (And.intro t2 (And.intro t3 (And.intro t4 (And.intro t5 t6))))));clear hI hch hchL hK hD hk2 hk3 hn p9 hc6 ou pE pQ xn hcx hcd t0 t1 t2 t3 t4 t5 t6 iJ;go_wp2_with fail;refine⟨by simp,.inl ⟨_,_,rfl,run_takeDeferred HKD.out,?_⟩⟩
   obtain⟨t0,t1,t2,t3,t4,t5,t6⟩:=HT0.out;exact⟨.tuple #[.agg (vdA true (n:Int) none 0 0 none 0 0 none 0 0 0),.int .i64 0],by simp[results,results13,go_sem,t0,t1,t2,t3,t4,t5,t6],none,0,none,0,none,0,rfl,SV.nilG _ _,dK.out⟩
  ·intro D pre C W' hD hX hch hK;obtain⟨fT,s,g,X,As,cs,Bs,ds,Ds,es,rfl,h2,h3,h4,BJ,h5,h6,h7,h8,h9,h10,h11,mY⟩:=hX;have hRR:(false,0+(fT.filter rel).length+1,s,err s)=RR:=by
    obtain⟨t,ht⟩:=h2;rw[<-iJ.out,<-ht,List.append_assoc];exact(zon fT 0 h3 h4 BJ).symm
   subst hRR;have HK:=zh hK;have HD:=zh (show w5.heap.size=D from hD.symm);have hND:N+3<D:=by have:=uo.out;have:=HD.out;have:=gY.out;omega
   have hcd:=Chg.putObj W' D (.deferred none);refine wpIn_ret ?_;simp only[Exit.inBlock,Exit.then];refine⟨by simp,.inl ⟨_,_,rfl,run_takeDeferred HK.out,?_⟩⟩;obtain⟨t0,t1,t2,t3,t4,t5⟩:=box6 (hcd.keep h10 (fun(e:N+2=D)=>by omega));have t6:(W'.putObj D (.deferred none)).cell? ⟨N+3,0,none⟩=some (.int .i64 0):=zc (hcd.keep h11 (fun(e:N+3=D)=>by omega)) rfl;have hBF:Below W.heap.size W (W'.putObj D (.deferred none)):=h9.trans (hcd.below h9.size fun b (e:b=D)=>by have:=HN.out;omega);simp only[Nat.zero_add];exact⟨.tuple #[.agg (vdA false (((fT.filter rel).length+1:Nat):Int) As s.cells.length cs Bs s.tin.length ds Ds s.tout.length es (err s)),.int .i64 0],by simp[results,results13,go_sem,t0,t1,t2,t3,t4,t5,t6],As,cs,Bs,ds,Ds,es,rfl,mY.keep (fun _ _ _=>trivial) fun q h hlt=>hcd.block q hlt fun e=>by have h:g<=q:=h.1;have e:q=D:=e;have:=HD.out;omega,hBF⟩
 ·have ha1:(AD != 0)=true:=by simpa using ha
  have ha2:(AD==0)=false:=by simpa using ha
  have hRR:=HRR.out;rw[if_neg ha]at hRR;subst hRR;clear ha HRR;obtain⟨q0,q1,q2,q3,q4,q5⟩:=box6 nN.out;have cf:∀o,w2.frozen? ⟨N+2,o,none⟩=false:=fun o=>zf nN.out;obtain⟨w3,hw3,hh3,hc3⟩:=zsw (.bool false) (.int .i64 0) (.slice none 0 0) (.slice none 0 0) (.slice none 0 0) (.int .i64 0) nN.out;have hk3:=hc3.keep uV.out (fun e:N+3=N+2=>by omega);have q6:w3.cell? ⟨N+3,0,none⟩=some (.int .i64 0):=zc hk3 rfl;have cf3:∀o,w3.frozen? ⟨N+3,o,none⟩=false:=fun o=>zf hk3;obtain⟨w4,hw4,hc4,hh4⟩:=setU (o:=0) (.int .i64 AD) hk3;obtain⟨t0,t1,t2,t3,t4,t5⟩:=box6 (hc4.keep hh3 (fun e:N+2=N+3=>by omega));have t6:w4.cell? ⟨N+3,0,none⟩=some (.int .i64 AD):=zc hh4 rfl;have dK:=zh (show Below W.heap.size W w4 from HB2.out.trans ((hc3.below HB2.out.size fun b (e:b=N+2)=>by have:=HN.out;omega).trans (hc4.below (Nat.le_trans HB2.out.size hc3.size) fun b (e:b=N+3)=>by have:=HN.out;omega)))
  clear hc3 hh3 hk3 hc4 hh4;go_wp2_with fail;exact⟨.tuple #[.agg (vdA false 0 none 0 0 none 0 0 none 0 0 0),.int .i64 AD],by simp[results,results13,go_sem,t0,t1,t2,t3,t4,t5,t6],none,0,none,0,none,0,rfl,SV.nilG _ _,dK.out⟩
end
end Go.Proofs.YthjinpodhacleaaGreat
