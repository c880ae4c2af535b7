/-
  Texts of the proof, put together without their remarks: Ib, Rxo, Pvl, Rxq.
-/
import Derived.Test.YtmbbaccjcekhkaaGreatF11
set_option linter.unusedSimpArgs false
set_option linter.unusedVariables false
set_option maxHeartbeats 8000000
set_option maxRecDepth 100000
namespace Go.Proofs.YtmbbaccjcekhkaaGreat
open Go Go.RowKit
def Fam (p:PG):Prop:=∃ G:List PR->T->Prop,(∀ g,IStC G g)/\(zle p=true->chkN p=0->(∀ u∈p.m.ks,G p.prs u)/\∀ (F:Int) (g:Nat) (back:Bool) (r:RS),Nz (runO p.prs F g back p.m r))
theorem zs1 (p:PG):Fam p:=⟨GP,zq0 zxF,fun hv hc=>⟨zt2 hv hc,fun _ _ _ _=>zv9 zxF (zt2 hv hc)⟩⟩
theorem zrH {G:List PR->T->Prop} (hS:∀ g,IStC G g) {C:RC} (hC:C.Ok) {W:World} {r:RS} (h:RI C W r) (hG:∀ u∈C.p.m.ks,G C.p.prs u) (g:Nat) (back:Bool) (hg:runO C.p.prs C.F g back C.p.m r ≠ .gas) (pb qb bb:Nat)
  (h0:W.cell? ⟨pb,0,none⟩=some (.pointer (some ⟨C.rb,0,none⟩))) (hq:W.heap[qb]?=some (.cells #[.slice C.A1 C.p.vs.length C.c1,.slice C.A2 C.p.prs.length C.c2,.int .u8 C.p.m.k,.int .i64 C.p.m.n,.string C.p.m.s,.slice C.A3 C.p.m.ks.length C.c3] 28 (0,0))) (hb:W.cell? ⟨bb,0,none⟩=some (.bool back)) :
  Calls Tryz.prog 28 #[.pointer (some ⟨pb,0,none⟩),.pointer (some ⟨qb,0,none⟩),.pointer (some ⟨bb,0,none⟩)] W (RunP C W (runO C.p.prs C.F g back C.p.m r)):=by
 have az:=zh (zlz (hS g) hC h C.p.m _ back hC.pg.main hG hg);have q2:W.cell? ⟨qb,2,none⟩=some (.int .u8 C.p.m.k):=zc hq rfl;have q3:W.cell? ⟨qb,3,none⟩=some (.int .i64 C.p.m.n):=zc hq rfl;have q4:W.cell? ⟨qb,4,none⟩=some (.string C.p.m.s):=zc hq rfl;have q5:W.cell? ⟨qb,5,none⟩=some (.slice C.A3 C.p.m.ks.length C.c3):=zc hq rfl;obtain⟨o,ho⟩:∃ o,runO C.p.prs C.F g back C.p.m r=o:=⟨_,rfl⟩
 rw[ho] at az hg ⊢;clear hC h hG hq ho;go_enter Tryz.func28,Tryz.ntmps28;go_wp2_with fail;refine az.out.mono ?_;rintro e w1 ⟨hk1,hb1,ho1⟩
 cases o with
 | gas=>exact absurd rfl hg
 | err x =>
  subst ho1;exact⟨rfl,hk1,hb1,rfl⟩
 | ok r1 =>
  obtain⟨⟨u,rfl⟩,hr1⟩:=ho1;have HR:=zh hr1;have aH:=zh hk1;have HB1:=zh hb1;clear h0 q2 q3 q4 q5 hb hr1 hk1 hb1;go_wp2_with fail;go_end0;exact⟨aH.out,HB1.out,⟨_,rfl⟩,HR.out⟩
def outR (s:SS):Out->SS×Nat×Int×List Nat
 | .ok r=>(r.S.state,r.n,0,r.ent)
 | .err e=>(s,0,e,[])
 | .gas=>(s,0,0,[])
def resO (p:PG) (s:SS) (F:Int) (g:Nat) (back:Bool):SS×Nat×Int×List Nat :=
 if zle p=false\/chkN p≠0 then (s,0,3,[]) else if fitB p.vs s=false then (s,0,20,[]) else outR s (runO p.prs F g back p.m ⟨newS p.vs s,0,List.replicate p.prs.length 0⟩)
def LimR (R:SS×Nat×Int×List Nat):Prop:=R.1.Lim/\(R.2.2.1=0->R.1.cells.length<=1000+R.2.1/\(∀ l∈R.1.cells,l.length<=1000)/\R.1.tin.length<=4096/\R.1.tout.length<=4096)
theorem LimR.run {r:RS} (h:r.S.WF) (hf:FB r.n r.S) (e:List Nat):LimR (r.S.state,r.n,0,e):=by
 obtain⟨-,h1,h2⟩:=zqr h;obtain⟨kd,hb,-⟩:=h.ex;refine⟨h1,fun _=>⟨?_,h2,h.tin.1,h.tout.1⟩⟩;have:=hb.len;have:=hf.1;simp only[ST.state,List.length_map,List.length_take];omega
def ResP (W:World) (R:SS×Nat×Int×List Nat) (e:Ending) (W':World):Prop:=∃ A c v1 v2 v3,e=.returned (.tuple #[.slice A R.2.2.2.length c,.agg #[v1,v2,v3,.int .i64 (R.2.1:Int),.int .i64 R.2.2.1]]) /\
 OwnS W' W.heap.size R.1 (.agg #[v1,v2,v3])/\RowI W' (fun b=>W.heap.size<=b) A (R.2.2.2.map Int.ofNat)/\R.2.2.2.length<=c/\Below W.heap.size W W'/\LimR R
theorem OwnS.slices {W:World} {n0:Nat} {s:SS} {v:Value} (h:OwnS W n0 s v):∃ A c B d D e,v=.agg #[.slice A s.cells.length c,.slice B s.tin.length d,.slice D s.tout.length e]:=by
 obtain⟨vc,vi,vo,fc,rfl,hr,-⟩:=h;obtain⟨A,c,e1,-⟩:=zkh (hr.row .all);obtain⟨B,d,e2,-⟩:=zkh (hr.row .inp);obtain⟨D,e,e3,-⟩:=zkh (hr.row .out);change vc=.slice A s.cells.length c at e1;change vi=.slice B s.tin.length d at e2;change vo=.slice D s.tout.length e at e3;exact⟨A,c,B,d,D,e,by rw[e1,e2,e3]⟩
theorem OwnS.chg {W W':World} {n0:Nat} {s:SS} {v:Value} {Cc:Nat->Prop} (h:OwnS W n0 s v) (hc:Chg Cc W W') (hC:∀ b,Cc b->b<n0):OwnS W' n0 s v:=by
 obtain⟨vc,vi,vo,fc,rfl,hr,hi⟩:=h;exact⟨vc,vi,vo,fc,rfl,hr.chg hc fun i b hb hcb=>by have:=(hr.lt i b hb).1;have:=hC b hcb;omega,hi⟩
theorem OwnS.lower {W:World} {n0 n1:Nat} {s:SS} {v:Value} (h:OwnS W n1 s v) (hn:n0<=n1):OwnS W n0 s v:=by
 obtain⟨vc,vi,vo,fc,rfl,hr,hi⟩:=h;exact⟨vc,vi,vo,fc,rfl,hr.mono hn,hi⟩
theorem set5 {W:World} {b:Nat} {x0 x1 x2 x3 x4 u0 u1 u2 u3 u4:Value} {E:TypeId} (h:W.heap[b]?=some (.cells #[x0,x1,x2,x3,x4] E (0,0))) :
  (((((W.setCell ⟨b,0,none⟩ u0).setCell ⟨b,1,none⟩ u1).setCell ⟨b,2,none⟩ u2).setCell ⟨b,3,none⟩ u3).setCell ⟨b,4,none⟩ u4).heap[b]?=some (.cells #[u0,u1,u2,u3,u4] E (0,0)) /\
   Chg (fun q=>q=b) W (((((W.setCell ⟨b,0,none⟩ u0).setCell ⟨b,1,none⟩ u1).setCell ⟨b,2,none⟩ u2).setCell ⟨b,3,none⟩ u3).setCell ⟨b,4,none⟩ u4):=by
 refine⟨?_,(((((Chg.refl (fun q=>q=b) W).setCell (p:=⟨b,0,none⟩) (.inl rfl) _).setCell (p:=⟨b,1,none⟩) (.inl rfl) _).setCell (p:=⟨b,2,none⟩) (.inl rfl) _).setCell (p:=⟨b,3,none⟩) (.inl rfl) _).setCell (p:=⟨b,4,none⟩) (.inl rfl) _⟩;rw[heap_setCell_same _ b 4 _ _ u4 (heap_setCell_same _ b 3 _ _ u3 (heap_setCell_same _ b 2 _ _ u2 (heap_setCell_same _ b 1 _ _ u1 (heap_setCell_same W b 0 _ _ u0 h))))];simp
theorem bRes (A B D:Option Addr) (l c m d n e:Nat) (x:Int) (w:World):(Instr.build 37 #[(0,.agg #[.slice A l c,.slice B m d,.slice D n e]),(2,.int .i64 x)]).run Tryz.prog w=.ok (.agg #[.slice A l c,.slice B m d,.slice D n e,.int .i64 0,.int .i64 x]) w:=by kernel_rfl
theorem zx5 (A B D:Option Addr) (l c m d n e:Nat) (x:Int) (w:World):(Instr.build 37 #[(0,.agg #[.slice A l c,.slice B m d,.slice D n e]),(1,.int .i64 x)]).run Tryz.prog w=.ok (.agg #[.slice A l c,.slice B m d,.slice D n e,.int .i64 x,.int .i64 0]) w:=by kernel_rfl
theorem zsx (n:Nat):madeCells (Value.int .i64 0).cells (n*1)=(zke (List.replicate n 0)).toArray:=by
 apply Array.ext';apply List.ext_getElem
 ·rw[Array.length_toList,size_madeCells];simp[zke]
 ·intro i h1 h2;have e:i % 1=0:=by omega
  simp[madeCells,zke,Value.cells,e]
theorem bMkI (n:Nat) (hn:n<=4096) (w:World):(Instr.makeSlice 30 (.int .i64 (n:Int)) (.int .i64 (n:Int))).run Tryz.prog w=.ok (.slice (some ⟨w.heap.size,0,none⟩) n n) (w.alloc (.cells (zke (List.replicate n 0)).toArray 3)):=by
 have h:=znb;obtain⟨i,hi,hz⟩:=Option.map_eq_some_iff.1 h;injection hz with h1 h2;injection h2 with h2 h3;have hsc:(4096:Nat)<=9223372036854775807:=by decide
 have:=znk (P:=Tryz.prog) 30 3 i (.int .i64 0) Tryz.underlying30 hi h1 .i64 .i64 n n (Nat.le_refl _) (by rw[h3];omega) (Nat.le_trans hn hsc) w;rw[h2,zsx] at this;exact this
theorem bRun (A1 A2 A3 E:Option Addr) (l1 c1 l2 c2 l3 c3 m d:Nat) (k n F:Int) (s:ByteArray) (sb:Nat) (w:World):(Instr.build 67 #[(0,pv A1 l1 c1 A2 l2 c2 k n s A3 l3 c3),(1,.pointer (some ⟨sb,0,none⟩)),(3,.int .i64 F),(4,.slice E m d)]).run Tryz.prog w =
  .ok (.agg #[.slice A1 l1 c1,.slice A2 l2 c2,.int .u8 k,.int .i64 n,.string s,.slice A3 l3 c3,.pointer (some ⟨sb,0,none⟩),.int .i64 0,.int .i64 F,.slice E m d]) w:=by kernel_rfl
theorem ztn {W:World} {a b:Nat} {x y:Array Value} {E F:TypeId} (ha:W.heap[a]?=some (.cells x E (0,0))) (hb:W.heap[b]?=some (.cells y F (0,0))) (hne:E≠F):a≠b:=by
 rintro rfl;rw[ha] at hb;injection hb with hb;injection hb with h1 h2;exact hne h2
theorem zqb {W w4 w8 bq:World} {n0:Nat} {kb:Nat->Prop} (h4:Below W.heap.size W w4) (h11:Below W.heap.size W bq) (h48:Below w4.heap.size w4 w8) (hk:Kpt n0 kb w8 bq) (hn:w4.heap.size<=n0):Below w4.heap.size w4 bq :=
 ⟨h11.os.trans h4.os.symm,h11.tape.trans h4.tape.symm,h11.output.trans h4.output.symm,Nat.le_trans h48.size hk.size,fun b hb=>(hk.kept b (Nat.lt_of_lt_of_le hb h48.size) (.inl (Nat.lt_of_lt_of_le hb hn))).trans (h48.block b hb)⟩
theorem zuJ:IsFn Tryz.prog 28 Tryz.f28:=⟨Tryz.func28,by kernel_rfl,by kernel_rfl⟩
theorem zuI:IsFn Tryz.prog 30 Tryz.f30:=⟨Tryz.func30,by kernel_rfl,by kernel_rfl⟩
def OkR (C:RC) (lo hi:Nat) (o:Out) (w9 w':World):Prop:=∃ r,o=.ok r/\(C.plus lo hi).Ok/\RI (C.plus lo hi) w' r/\Kpt C.n0 C.kb w9 w'
def ErX (C:RC) (o:Out) (w9:World) (x:Int) (w':World):Prop:=o=.err x/\Kpt C.n0 C.kb w9 w'/\Below C.w.heap.size C.w w'
theorem zqK {G:List PR->T->Prop} (hS:∀ g,IStC G g) {C:RC} {w8 w9:World} {r:RS} {jb:Nat} (hC8:C.Ok) (h8:RI C w8 r) (bH:w8.alloc (.cells #[.slice none 0 0,.bool false] 72)=w9) (hjb:w8.heap.size=jb) (hG:∀ u∈C.p.m.ks,G C.p.prs u) (g:Nat) (back:Bool) (o:Out) (ho:runO C.p.prs C.F g back C.p.m r=o) (hg:o ≠ .gas) (pb qb bb:Nat)
  (h0:w8.cell? ⟨pb,0,none⟩=some (.pointer (some ⟨C.rb,0,none⟩))) (hq:w8.heap[qb]?=some (.cells #[.slice C.A1 C.p.vs.length C.c1,.slice C.A2 C.p.prs.length C.c2,.int .u8 C.p.m.k,.int .i64 C.p.m.n,.string C.p.m.s,.slice C.A3 C.p.m.ks.length C.c3] 28 (0,0))) (hb:w8.cell? ⟨bb,0,none⟩=some (.bool back)) :
  Calls Tryz.prog 27 #[.pointer (some ⟨jb,0,none⟩),.func (.func 28) #[] #[.pointer (some ⟨pb,0,none⟩),.pointer (some ⟨qb,0,none⟩),.pointer (some ⟨bb,0,none⟩)]] w9 (AttP w9 (OkR (C.plus jb w9.heap.size) w9.heap.size (w9.heap.size+3) o w9) (ErX (C.plus jb w9.heap.size) o w9)):=by
 have hbj:=zkc (Below.refl w8.heap.size w8) (.cells #[.slice none 0 0,.bool false] 72);have kj:=heap_alloc_new w8 (.cells #[.slice none 0 0,.bool false] 72);obtain⟨hC9,h9⟩:=h8.plus hC8 hbj;rw[bH,hjb] at kj hC9 h9;rw[bH] at hbj;have hjl:=zku kj;refine zqW jb _ _ zuJ _ w9 kj _ _ fun W1 hb1 hz1=>?_;obtain⟨fE,h1⟩:=h9.plus hC9 hb1;have hbt:=zka hbj hb1;have hrun:=zrH hS fE h1 hG g back (show runO C.p.prs C.F g back C.p.m r ≠ .gas by rw[ho];exact hg) pb qb bb (zb hbt h0) (zkf hq hbt) (zb hbt hb);refine hrun.mono ?_;rintro e w' ⟨hk,hbl,hout⟩;rw[show runO ((C.plus jb w9.heap.size).plus w9.heap.size W1.heap.size).p.prs ((C.plus jb w9.heap.size).plus w9.heap.size W1.heap.size).F g back ((C.plus jb w9.heap.size).plus w9.heap.size W1.heap.size).p.m r=o from ho] at hout;refine⟨fun b hb hlt=>hk.kept b hlt (.inr ?_),?_⟩
 ·rcases hb with hb|rfl
  ·exact .inr ⟨hb,hlt⟩
  ·exact .inl (.inr ⟨Nat.le_refl _,hjl⟩)
 ·have hkk:Kpt C.n0 (C.plus jb w9.heap.size).kb w9 w':=(Kpt.of_below hb1).trans (Kpt.less (C:=C.plus jb w9.heap.size) hk)
  cases o with
  | gas=>exact absurd rfl hg
  | err x=>exact .inr ⟨x,hout,rfl,hkk,hbl⟩
  | ok r1 =>
   rw[hz1] at fE hout;exact .inl ⟨hout.1,r1,rfl,fE,hout.2,hkk⟩
theorem zpI (p:PG) (s:SS) (F:Int) (g:Nat) (back:Bool) (v sv:Value) (W:World) (hp:PV W Any p v) (hs:SV W Any s sv) (hcl:s.cells.length<=5864062014800) (hF:I64 F) (jm:F<=1000000) (hg:F.toNat*2000+2000<=g) (hfam:Fam p) :
  Calls Tryz.prog 18 #[v,sv,.int .i64 F,.bool back] W (ResP W (resO p s F g back)):=by
 have HFAM:=zh hfam;clear hfam;have HP:=zh hp;have HS:=zh hs;obtain⟨A1,c1,A2,c2,A3,c3,rfl,dK⟩:=hp;obtain⟨A,c,B,d,D,e,rfl,hr1,hr2,hr3,hc1,hc2,hc3,hl1,hl2,hl3,hl4⟩:=hs;have wV:=zh dK;have mH:=zh (show s.Lim from ⟨hl1,hl2,hl3,hl4⟩);have HV:=zh (fun w' (hb:Below W.heap.size W w')=>zox p Any _ w' (HP.out.later hb));have cB:=zh (fun w' (hb:Below W.heap.size W w')=>zo9 p Any _ w' (HP.out.later hb));have fK:=zh (fun w' (hb:Below W.heap.size W w')=>zvy s _ w' (HS.out.later hb) hcl);have vJ:=zh (fun w' (hb:Below W.heap.size W w')=>zwZ p.vs s A1 c1 _ w' (dK.vars.later hb) dK.lv (HS.out.later hb));obtain⟨Re,hRe⟩:∃ R,resO p s F g back=R:=⟨_,rfl⟩
 have bZ:=zh hRe;rw[hRe];have hb4:=zkc (zkc (zkc (zkc (Below.refl W.heap.size W) (.cells #[.slice A1 p.vs.length c1,.slice A2 p.prs.length c2,.int .u8 p.m.k,.int .i64 p.m.n,.string p.m.s,.slice A3 p.m.ks.length c3] 28)) (.cells #[.slice A s.cells.length c,.slice B s.tin.length d,.slice D s.tout.length e] 32)) (.cells #[.bool back] 4)) (.cells #[.slice none 0 0,.slice none 0 0,.slice none 0 0,.int .i64 0,.int .i64 0] 37);have k0:=zkn (zkn (zkn (heap_alloc_new W (.cells #[.slice A1 p.vs.length c1,.slice A2 p.prs.length c2,.int .u8 p.m.k,.int .i64 p.m.n,.string p.m.s,.slice A3 p.m.ks.length c3] 28)) (.cells #[.slice A s.cells.length c,.slice B s.tin.length d,.slice D s.tout.length e] 32)) (.cells #[.bool back] 4)) (.cells #[.slice none 0 0,.slice none 0 0,.slice none 0 0,.int .i64 0,.int .i64 0] 37)
 have k1:=zkn (zkn (heap_alloc_new (W.alloc (.cells #[.slice A1 p.vs.length c1,.slice A2 p.prs.length c2,.int .u8 p.m.k,.int .i64 p.m.n,.string p.m.s,.slice A3 p.m.ks.length c3] 28)) (.cells #[.slice A s.cells.length c,.slice B s.tin.length d,.slice D s.tout.length e] 32)) (.cells #[.bool back] 4)) (.cells #[.slice none 0 0,.slice none 0 0,.slice none 0 0,.int .i64 0,.int .i64 0] 37);have k2:=zkn (heap_alloc_new ((W.alloc (.cells #[.slice A1 p.vs.length c1,.slice A2 p.prs.length c2,.int .u8 p.m.k,.int .i64 p.m.n,.string p.m.s,.slice A3 p.m.ks.length c3] 28)).alloc (.cells #[.slice A s.cells.length c,.slice B s.tin.length d,.slice D s.tout.length e] 32)) (.cells #[.bool back] 4)) (.cells #[.slice none 0 0,.slice none 0 0,.slice none 0 0,.int .i64 0,.int .i64 0] 37)
 have k3:=heap_alloc_new (((W.alloc (.cells #[.slice A1 p.vs.length c1,.slice A2 p.prs.length c2,.int .u8 p.m.k,.int .i64 p.m.n,.string p.m.s,.slice A3 p.m.ks.length c3] 28)).alloc (.cells #[.slice A s.cells.length c,.slice B s.tin.length d,.slice D s.tout.length e] 32)).alloc (.cells #[.bool back] 4)) (.cells #[.slice none 0 0,.slice none 0 0,.slice none 0 0,.int .i64 0,.int .i64 0] 37);simp only[World.size_alloc] at k1 k2 k3;have xA:((((W.alloc (.cells #[.slice A1 p.vs.length c1,.slice A2 p.prs.length c2,.int .u8 p.m.k,.int .i64 p.m.n,.string p.m.s,.slice A3 p.m.ks.length c3] 28)).alloc (.cells #[.slice A s.cells.length c,.slice B s.tin.length d,.slice D s.tout.length e] 32)).alloc (.cells #[.bool back] 4)).alloc (.cells #[.slice none 0 0,.slice none 0 0,.slice none 0 0,.int .i64 0,.int .i64 0] 37)).heap.size=W.heap.size+4:=by simp
 obtain⟨w4,hw4⟩:∃ x,((((W.alloc (.cells #[.slice A1 p.vs.length c1,.slice A2 p.prs.length c2,.int .u8 p.m.k,.int .i64 p.m.n,.string p.m.s,.slice A3 p.m.ks.length c3] 28)).alloc (.cells #[.slice A s.cells.length c,.slice B s.tin.length d,.slice D s.tout.length e] 32)).alloc (.cells #[.bool back] 4)).alloc (.cells #[.slice none 0 0,.slice none 0 0,.slice none 0 0,.int .i64 0,.int .i64 0] 37))=x:=⟨_,rfl⟩
 rw[hw4] at hb4 k0 k1 k2 k3 xA;have aK:=zh hb4;have aQ:=zh k0;have aH:=zh k1;have df:=zh k2;have kC:=zh k3;have oZ:=zh xA;have p0:w4.cell? ⟨W.heap.size,0,none⟩=some (.slice A1 p.vs.length c1):=zc k0 rfl;have p1:w4.cell? ⟨W.heap.size,1,none⟩=some (.slice A2 p.prs.length c2):=zc k0 rfl;have p2:w4.cell? ⟨W.heap.size,2,none⟩=some (.int .u8 p.m.k):=zc k0 rfl;have p3:w4.cell? ⟨W.heap.size,3,none⟩=some (.int .i64 p.m.n):=zc k0 rfl;have p4:w4.cell? ⟨W.heap.size,4,none⟩=some (.string p.m.s):=zc k0 rfl;have p5:w4.cell? ⟨W.heap.size,5,none⟩=some (.slice A3 p.m.ks.length c3):=zc k0 rfl;obtain⟨vb,hvb⟩:∃ b,zle p=b:=⟨_,rfl⟩
 have iT:=zh hvb;rw[hvb] at HV cB;clear dK hr1 hr2 hr3 hRe hvb hb4 k0 k1 k2 k3 xA hl1 hl2 hl3 hl4 hc1 hc2 hc3;go_enter Tryz.func18,Tryz.ntmps18;go_wp2_with fail;refine(HV.out w4 aK.out).mono ?_;rintro e5 w5 ⟨rfl,b5⟩;clear hw4
 cases vb
 ·have HX:=zh (show Re=(s,0,3,[]) by rw[<-bZ.out,resO,if_pos (.inl iT.out)]);clear p0 p1 p2 p3 p4 p5;have fD:=zkf aH.out b5;have nO:=zkf kC.out b5;have s0:w5.cell? ⟨W.heap.size+1,0,none⟩=some (.slice A s.cells.length c):=zc fD rfl;have s1:w5.cell? ⟨W.heap.size+1,1,none⟩=some (.slice B s.tin.length d):=zc fD rfl;have s2:w5.cell? ⟨W.heap.size+1,2,none⟩=some (.slice D s.tout.length e):=zc fD rfl;have bN:=zh (fK.out w5 (zka aK.out b5));have ag:=zh nO;have hbq:=b5;clear fD nO;go_wp2_with fail;refine bN.out.mono ?_;rintro e9 w9 ⟨v9,rfl,bG,bO⟩;obtain⟨A9,c9,B9,d9,D9,e9,rfl⟩:=bG.slices;have gP:=zh bG;have dV:=zh (zka hbq bO);have aN:=zkf ag.out bO;have x0:w9.cell? ⟨W.heap.size+3,0,none⟩=some (.slice none 0 0):=zc aN rfl;have x1:w9.cell? ⟨W.heap.size+3,1,none⟩=some (.slice none 0 0):=zc aN rfl
  have x2:w9.cell? ⟨W.heap.size+3,2,none⟩=some (.slice none 0 0):=zc aN rfl;have x3:w9.cell? ⟨W.heap.size+3,3,none⟩=some (.int .i64 0):=zc aN rfl;have x4:w9.cell? ⟨W.heap.size+3,4,none⟩=some (.int .i64 0):=zc aN rfl;have xf:∀ o,w9.frozen? ⟨W.heap.size+3,o,none⟩=false:=fun _=>zf aN;have jD:=zh aN;have hbr:=bRes;have rW:W.heap.size+4<=w5.heap.size:=by have:=hbq.size;rw[oZ.out] at this;exact this
  clear s0 s1 s2 aN bG bO hbq bN;go_wp2_with fail;obtain⟨hh,hch⟩:=set5 (u0:=.slice A9 s.cells.length c9) (u1:=.slice B9 s.tin.length d9) (u2:=.slice D9 s.tout.length e9) (u3:=.int .i64 0) (u4:=.int .i64 3) jD.out;obtain⟨bW,fQ⟩:∃ zz,(((((w9.setCell ⟨W.heap.size+3,0,none⟩ (.slice A9 s.cells.length c9)).setCell ⟨W.heap.size+3,1,none⟩ (.slice B9 s.tin.length d9)).setCell ⟨W.heap.size+3,2,none⟩ (.slice D9 s.tout.length e9)).setCell ⟨W.heap.size+3,3,none⟩ (.int .i64 0)).setCell ⟨W.heap.size+3,4,none⟩ (.int .i64 3))=zz:=⟨_,rfl⟩
  rw[fQ] at hh hch ⊢;have t0:bW.cell? ⟨W.heap.size+3,0,none⟩=some (.slice A9 s.cells.length c9):=zc hh rfl;have t1:bW.cell? ⟨W.heap.size+3,1,none⟩=some (.slice B9 s.tin.length d9):=zc hh rfl;have t2:bW.cell? ⟨W.heap.size+3,2,none⟩=some (.slice D9 s.tout.length e9):=zc hh rfl;have t3:bW.cell? ⟨W.heap.size+3,3,none⟩=some (.int .i64 0):=zc hh rfl;have t4:bW.cell? ⟨W.heap.size+3,4,none⟩=some (.int .i64 3):=zc hh rfl;refine bodyPost_ret (v:=.tuple #[.slice none 0 0,.agg #[.slice A9 s.cells.length c9,.slice B9 s.tin.length d9,.slice D9 s.tout.length e9,.int .i64 0,.int .i64 3]]) (by simp[results,Tryz.results18,go_sem,t0,t1,t2,t3,t4]) rfl ?_;rw[HX.out]
  exact⟨none,0,_,_,_,rfl,(gP.out.chg hch fun b hb=>by omega).lower (by omega),fun i hi=>absurd hi (by simp),Nat.le_refl _,(zka aK.out dV.out).trans (hch.below (zka aK.out dV.out).size fun b hb=>by omega),mH.out,fun h=>by first|(simp at h;done)|exact absurd h yc.out⟩
 ·have q0:=zb b5 p0;have q1:=zb b5 p1;have q2:=zb b5 p2;have q3:=zb b5 p3;have q4:=zb b5 p4;have q5:=zb b5 p5;have rC:=zh (show Calls Tryz.prog 20 #[pv A1 p.vs.length c1 A2 p.prs.length c2 p.m.k p.m.n p.m.s A3 p.m.ks.length c3] w5 (fun e w'=>∃ A c,e=Ending.returned (.slice A (chkN p) c)/\Below w5.heap.size w5 w') from (cB.out w5 (zka aK.out b5)).mono (fun e w' ⟨A,c,h1,h2⟩=>⟨A,c,by rw[h1,if_pos rfl],h2⟩));clear p0 p1 p2 p3 p4 p5 cB HV;go_wp2_with fail;refine rC.out.mono ?_;rintro e6 w6 ⟨AA,cc,rfl,b6⟩;have nR:=zka b5 b6;clear q0 q1 q2 q3 q4 q5;by_cases hn:chkN p=0
  ·obtain⟨n,hnn⟩:∃ n,chkN p=n:=⟨_,rfl⟩
   rw[hnn];obtain rfl:n=0:=by omega
   have xI:¬ (0:Int)<((0:Nat):Int):=by omega
   have oU:=zkf aQ.out nR;have fD:=zkf aH.out nR;have p0:w6.cell? ⟨W.heap.size,0,none⟩=some (.slice A1 p.vs.length c1):=zc oU rfl;have s0:w6.cell? ⟨W.heap.size+1,0,none⟩=some (.slice A s.cells.length c):=zc fD rfl;have s1:w6.cell? ⟨W.heap.size+1,1,none⟩=some (.slice B s.tin.length d):=zc fD rfl;have s2:w6.cell? ⟨W.heap.size+1,2,none⟩=some (.slice D s.tout.length e):=zc fD rfl;have eQ:=zh hnn;clear oU fD hn hnn;go_wp2_with fail;refine(vJ.out w6 (zka aK.out nR)).mono ?_;rintro e7 w7 ⟨b7,⟨hfit,rfl⟩|⟨hfit,P,rfl,yZ⟩⟩
   ·have HX:=zh (show Re=(s,0,20,[]) by rw[<-bZ.out,resO,if_neg (by rw[iT.out,eQ.out];simp),if_pos hfit]);have qR:=zka nR b7;clear p0 s0 s1 s2 hfit;have fD:=zkf aH.out qR;have nO:=zkf kC.out qR;have s0:w7.cell? ⟨W.heap.size+1,0,none⟩=some (.slice A s.cells.length c):=zc fD rfl;have s1:w7.cell? ⟨W.heap.size+1,1,none⟩=some (.slice B s.tin.length d):=zc fD rfl;have s2:w7.cell? ⟨W.heap.size+1,2,none⟩=some (.slice D s.tout.length e):=zc fD rfl;have bN:=zh (fK.out w7 (zka aK.out qR));have ag:=zh nO;have hbq:=qR;clear fD nO;go_wp2_with fail;refine bN.out.mono ?_;rintro e9 w9 ⟨v9,rfl,bG,bO⟩;obtain⟨A9,c9,B9,d9,D9,e9,rfl⟩:=bG.slices;have gP:=zh bG;have dV:=zh (zka hbq bO);have aN:=zkf ag.out bO;have x0:w9.cell? ⟨W.heap.size+3,0,none⟩=some (.slice none 0 0):=zc aN rfl;have x1:w9.cell? ⟨W.heap.size+3,1,none⟩=some (.slice none 0 0):=zc aN rfl
    have x2:w9.cell? ⟨W.heap.size+3,2,none⟩=some (.slice none 0 0):=zc aN rfl;have x3:w9.cell? ⟨W.heap.size+3,3,none⟩=some (.int .i64 0):=zc aN rfl;have x4:w9.cell? ⟨W.heap.size+3,4,none⟩=some (.int .i64 0):=zc aN rfl;have xf:∀ o,w9.frozen? ⟨W.heap.size+3,o,none⟩=false:=fun _=>zf aN;have jD:=zh aN;have hbr:=bRes;have rW:W.heap.size+4<=w7.heap.size:=by have:=hbq.size;rw[oZ.out] at this;exact this
    clear s0 s1 s2 aN bG bO hbq bN;go_wp2_with fail;obtain⟨hh,hch⟩:=set5 (u0:=.slice A9 s.cells.length c9) (u1:=.slice B9 s.tin.length d9) (u2:=.slice D9 s.tout.length e9) (u3:=.int .i64 0) (u4:=.int .i64 20) jD.out;obtain⟨bW,fQ⟩:∃ zz,(((((w9.setCell ⟨W.heap.size+3,0,none⟩ (.slice A9 s.cells.length c9)).setCell ⟨W.heap.size+3,1,none⟩ (.slice B9 s.tin.length d9)).setCell ⟨W.heap.size+3,2,none⟩ (.slice D9 s.tout.length e9)).setCell ⟨W.heap.size+3,3,none⟩ (.int .i64 0)).setCell ⟨W.heap.size+3,4,none⟩ (.int .i64 20))=zz:=⟨_,rfl⟩
    rw[fQ] at hh hch ⊢;have t0:bW.cell? ⟨W.heap.size+3,0,none⟩=some (.slice A9 s.cells.length c9):=zc hh rfl;have t1:bW.cell? ⟨W.heap.size+3,1,none⟩=some (.slice B9 s.tin.length d9):=zc hh rfl;have t2:bW.cell? ⟨W.heap.size+3,2,none⟩=some (.slice D9 s.tout.length e9):=zc hh rfl;have t3:bW.cell? ⟨W.heap.size+3,3,none⟩=some (.int .i64 0):=zc hh rfl;have t4:bW.cell? ⟨W.heap.size+3,4,none⟩=some (.int .i64 20):=zc hh rfl;refine bodyPost_ret (v:=.tuple #[.slice none 0 0,.agg #[.slice A9 s.cells.length c9,.slice B9 s.tin.length d9,.slice D9 s.tout.length e9,.int .i64 0,.int .i64 20]]) (by simp[results,Tryz.results18,go_sem,t0,t1,t2,t3,t4]) rfl ?_;rw[HX.out]
    exact⟨none,0,_,_,_,rfl,(gP.out.chg hch fun b hb=>by omega).lower (by omega),fun i hi=>absurd hi (by simp),Nat.le_refl _,(zka aK.out dV.out).trans (hch.below (zka aK.out dV.out).size fun b hb=>by omega),mH.out,fun h=>by first|(simp at h;done)|exact absurd h yc.out⟩
   ·have qR:=zka nR b7;have mJ:=zh hfit;have AB:=zh yZ;clear p0 s0 s1 s2 hfit yZ;have oU:=zkf aQ.out qR;have p0:w7.cell? ⟨W.heap.size,0,none⟩=some (.slice A1 p.vs.length c1):=zc oU rfl;have p1:w7.cell? ⟨W.heap.size,1,none⟩=some (.slice A2 p.prs.length c2):=zc oU rfl;have p2:w7.cell? ⟨W.heap.size,2,none⟩=some (.int .u8 p.m.k):=zc oU rfl;have p3:w7.cell? ⟨W.heap.size,3,none⟩=some (.int .i64 p.m.n):=zc oU rfl;have p4:w7.cell? ⟨W.heap.size,4,none⟩=some (.string p.m.s):=zc oU rfl;have p5:w7.cell? ⟨W.heap.size,5,none⟩=some (.slice A3 p.m.ks.length c3):=zc oU rfl;obtain⟨hvl,hpl,uZ,-,hpm⟩:=zlN iT.out;have hmk:=bMkI p.prs.length (by omega);obtain⟨np,lZ⟩:∃ n,p.prs.length=n:=⟨_,rfl⟩
    rw[lZ] at p1 hmk;have ry:=zh lZ;obtain⟨HH,hHH⟩:∃ H:World->Prop,H=fun w':World=>w'.cell? ⟨W.heap.size,0,none⟩=some (.slice A1 p.vs.length c1)/\w'.cell? ⟨W.heap.size,1,none⟩=some (.slice A2 np c2)/\w'.cell? ⟨W.heap.size,2,none⟩=some (.int .u8 p.m.k)/\w'.cell? ⟨W.heap.size,3,none⟩=some (.int .i64 p.m.n)/\w'.cell? ⟨W.heap.size,4,none⟩=some (.string p.m.s)/\w'.cell? ⟨W.heap.size,5,none⟩=some (.slice A3 p.m.ks.length c3):=⟨_,rfl⟩
    have aG:=zh (show ∀ w',Below w7.heap.size w7 w'->HH w' by
     rw[hHH];exact fun w' hb=>⟨zb hb p0,zb hb p1,zb hb p2,zb hb p3,zb hb p4,zb hb p5⟩)
    rw[lZ];go_upto_region 6 with fail;have hSS:HH w7.drew/\(fun _:World=>True) w7.drew:=⟨aG.out _ (Below.refl _ _).drew,trivial⟩
    refine wp_region_noPanic ?_;refine zkd HH (fun _:World=>True) 10 (by kernel_rfl) ?_;subst hHH;refine zT 0 hSS ?_;(try simp only[zQ]);refine zT 1 hSS ?_;(try simp only[zQ]);refine zT 2 hSS ?_;(try simp only[zQ]);refine zT 3 hSS ?_;(try simp only[zQ]);refine zT 4 hSS ?_;(try simp only[zQ]);refine zT 5 hSS ?_;(try simp only[zQ]);clear p0 p1 p2 p3 p4 p5 oU lZ;refine znS (fun A f l a wr=>∃ (l6 l7 l8 l9:Bool) (v43 v44 v45 v12:Value) (eb rb pb:Nat),f=(!l6).toNat+(!l7).toNat+(!l8).toNat+(!l9).toNat+1/\l = #[true,true,true,true,true,true,l6,l7,l8,l9,false] /\
     a=(((A.put (some 43) v43).put (some 44) v44).put (some 45) v45).put (some 12) v12/\Hid (Below w7.heap.size w7 wr) /\
     Hid ((l7=true->l6=true)/\(l8=true->l7=true)/\(l6=true->v43=.slice (some ⟨eb,0,none⟩) np np/\wr.heap[eb]?=some (.cells (zke (List.replicate np 0)).toArray 3 (0,0))/\w7.heap.size<=eb) /\
      (l7=true->v44=.agg #[.slice A1 p.vs.length c1,.slice A2 np c2,.int .u8 p.m.k,.int .i64 p.m.n,.string p.m.s,.slice A3 p.m.ks.length c3,.pointer (some ⟨P.sb,0,none⟩),.int .i64 0,.int .i64 F,.slice (some ⟨eb,0,none⟩) np np]) /\
      (l8=true->v45=.pointer (some ⟨rb,0,none⟩)/\wr.heap[rb]?=some (.cells #[.slice A1 p.vs.length c1,.slice A2 np c2,.int .u8 p.m.k,.int .i64 p.m.n,.string p.m.s,.slice A3 p.m.ks.length c3,.pointer (some ⟨P.sb,0,none⟩),.int .i64 0,.int .i64 F,.slice (some ⟨eb,0,none⟩) np np] 67 (0,0))/\w7.heap.size<=rb) /\
      (l9=true->v12=.pointer (some ⟨pb,0,none⟩)/\wr.heap[pb]?=some (.cells #[.pointer none] 65 (0,0))/\w7.heap.size<=pb)) /\
     Hid ((l6=false->v43=undef)/\(l7=false->v44=undef)/\(l8=false->v45=undef)/\(l9=false->v12=undef))) (fun A f l a wr h=>?_) ?_ ⟨false,false,false,false,undef,undef,undef,undef,0,0,0,rfl,rfl,(by simp only[Act.put,zD,zE,zF]),zh (Below.refl _ _).drew,zh ⟨fun h=>(by cases h),fun h=>(by cases h),fun h=>(by cases h),fun h=>(by cases h),fun h=>(by cases h),fun h=>(by cases h)⟩,zh ⟨fun _=>rfl,fun _=>rfl,fun _=>rfl,fun _=>rfl⟩⟩
    ·obtain⟨_,_,_,_,_,_,_,_,_,_,_,_,_,_,hb,_⟩:=h;exact⟨aG.out _ hb.out,trivial⟩
    rintro A' hA f l a wr ⟨l6,l7,l8,l9,v43,v44,v45,v12,eb,rb,pb,hf,rfl,ha,af,HC,HU⟩;by_cases hall:(l6&&l7&&l8&&l9)=true
    ·left
     simp only[Bool.and_eq_true] at hall;obtain⟨⟨⟨rfl,rfl⟩,rfl⟩,rfl⟩:=hall;obtain⟨-,-,h6,h7,h8,h9⟩:=HC.out;obtain⟨rfl,he,hel⟩:=h6 rfl;obtain rfl:=h7 rfl;obtain⟨rfl,hr,hrl⟩:=h8 rfl;obtain⟨rfl,hq,qL⟩:=h9 rfl;subst hf ha hA;have hner:eb≠rb:=ztn he hr (by decide);have hneq:eb≠pb:=ztn he hq (by decide);have hnrq:rb≠pb:=ztn hr hq (by decide);have c0:wr.cell? ⟨pb,0,none⟩=some (.pointer none):=zc hq rfl;have cf:∀ j,wr.frozen? ⟨pb,j,none⟩=false:=fun j=>zf hq;refine zp 10 fun K hK=>?_;(try simp only[zQ]);go_simp;have hch:Chg (fun b=>b=pb) wr (wr.setCell ⟨pb,0,none⟩ (.pointer (some ⟨rb,0,none⟩))):=(Chg.refl (fun b=>b=pb) wr).setCell (p:=⟨pb,0,none⟩) (.inl rfl) _;have hh:(wr.setCell ⟨pb,0,none⟩ (.pointer (some ⟨rb,0,none⟩))).heap[pb]?=some (.cells #[.pointer (some ⟨rb,0,none⟩)] 65 (0,0)):=by
      rw[heap_setCell_same wr pb 0 _ _ (.pointer (some ⟨rb,0,none⟩)) hq];rfl
     have mP:=zh (show Below w7.heap.size w7 (wr.setCell ⟨pb,0,none⟩ (.pointer (some ⟨rb,0,none⟩))) from af.out.trans (hch.below af.out.size fun b e=>by omega));have Bn:=zh (hch.keep he hneq);have o8:=zh (hch.keep hr hnrq);have yl:=zh hh;obtain⟨w8,hw8⟩:∃ x,wr.setCell ⟨pb,0,none⟩ (.pointer (some ⟨rb,0,none⟩))=x:=⟨_,rfl⟩
     rw[hw8] at mP Bn o8 yl ⊢;refine hK.out _ _ (aG.out _ mP.out) ?_;clear hK K hSS hch hh hw8 c0 cf he hr hq h6 h7 h8 h9 HC HU af hmk aG;refine zd ?_;refine NoPanic.normal ?_;(try simp only[zQ]);have hlt_e:=zku Bn.out;have hlt_r:=zku o8.out;have hlt_q:=zku yl.out;obtain⟨C,hC⟩:∃ C:RC,C=⟨W,w6.heap.size,P.sb,rb,p,A1,c1,A2,c2,A3,c3,F,.slice (some ⟨eb,0,none⟩) np np,fun b=>b=pb⟩:=⟨_,rfl⟩
     have hs67:=b7.size;have hs46:=nR.size;have xA:=oZ.out;have hbWw6:=zka aK.out nR;have HCO:=zh (show C.Ok by
      rw[hC];exact⟨wV.out,hF,jm,⟨by simp only;omega,by simp only;exact hnrq⟩,⟨by simp[Value.ownBlock];exact hner,fun b hb hk=>by simp only[Value.ownBlock,Option.some.injEq] at hb;simp only at hk;omega⟩,fun q hq=>by have:=(uZ q hq).1;omega⟩)
     have gG:=zh (show RI C w8 ⟨newS p.vs s,0,List.replicate np 0⟩ by
      rw[hC];have hks:=(KS.new hbWw6 b7 AB.out).also mP.out (kb':=fun b=>b=pb\/b=rb\/(Value.slice (some ⟨eb,0,none⟩) np np).ownBlock=some b) (fun b hb=>.inr (by
       rcases hb with rfl|rfl|hb
       ·exact⟨qL,hlt_q⟩
       ·exact⟨hrl,hlt_r⟩
       ·simp[Value.ownBlock] at hb;subst hb;exact⟨hel,hlt_e⟩))
      refine⟨hks,by rw[<-ry.out] at o8;simpa[RC.cells,ry.out] using o8.out,?_,by simp[ry.out],fun c hc=>by simp at hc;omega,by simp,?_⟩
      ·refine⟨by simp[zke],.inr ⟨eb,np,_,by simp,Nat.le_trans hs67 hel,Bn.out,by simp,by unfold maxLen;have:=ry.out;omega,by simp[zke],by simp[zke]⟩⟩
      ·exact⟨by simp only[newS];omega,fun f hf=>by simp[newS] at hf⟩)
     obtain⟨GX,hGX,hGM⟩:=HFAM.out;have HGP:=zh (hGM iT.out eQ.out);clear hGM;obtain⟨o,ho⟩:∃ o,runO p.prs F g back p.m ⟨newS p.vs s,0,List.replicate np 0⟩=o:=⟨_,rfl⟩
     have hog:o ≠ .gas:=ho▸(zq4 iT.out hg back (newS p.vs s) (List.replicate np 0)).1;have hon:Nz o:=ho▸HGP.out.2 _ _ _ _;have HRR:=zh (show Re=outR s o by rw[<-bZ.out,resO,if_neg (by rw[iT.out,eQ.out];simp),if_neg (by rw[mJ.out];simp),<-ho,<-ry.out]);have kN:=zka qR mP.out;obtain⟨jb,hjb⟩:∃ x,w8.heap.size=x:=⟨_,rfl⟩
     obtain⟨w9,bH⟩:∃ x,w8.alloc (.cells #[.slice none 0 0,.bool false] 72)=x:=⟨_,rfl⟩
     have HAT:=zh (zqK hGX HCO.out gG.out bH hjb (by rw[hC];exact HGP.out.1) g back o (by rw[hC];exact ho) hog pb W.heap.size (W.heap.size+1+1) (by rw[hC];exact zc yl.out rfl) (by rw[hC];simp only;rw[ry.out];have:=zkf aQ.out kN;rw[ry.out] at this;exact this) (zc (zkf df.out kN) rfl));have xz:w9.heap.size=jb+1:=by rw[<-bH];simp[hjb]
     have HK89:=zh (show Kpt C.n0 C.kb w8 w9 from Kpt.of_below (bH▸zkc (Below.refl w8.heap.size w8) _));have wB:∀ (fn:Fn) (first cap:Array Value) (w:World),(Instr.makeFunc fn first cap).run Tryz.prog w=.ok (.func fn first cap) w:=fun _ _ _ _=>rfl;have HN0C:=zh (show C.n0=w6.heap.size/\C.w=W/\C.rb=rb/\C.ev=.slice (some ⟨eb,0,none⟩) np np/\(C.kb=fun b=>b=pb)/\C.sb=P.sb/\C.p=p by rw[hC];exact⟨rfl,rfl,rfl,rfl,rfl,rfl,rfl⟩);have HHB48:=zh kN;have kM:=aK.out;have hb4s:W.heap.size<=w6.heap.size:=hbWw6.size;clear hC kN ho hlt_e hlt_r;go_wp2_with fail;refine HAT.out.mono ?_;rintro e10 bq hat;clear HAT bH wB;rcases hat with⟨rfl,bW,⟨r,rfl,hok,bM,hkp⟩,hch⟩|⟨x,rfl,bW,⟨rfl,hkp,hbl⟩,hch⟩
     ·obtain⟨hn0,hcw,p8,nG,lC,pY,hcp⟩:=HN0C.out;have hri1:=RI.chgK (C:=C.plus jb w9.heap.size) hok bM hch (by show C.w.heap.size<=_;rw[hcw];have:=mP.out.size;omega);have jY:RI C bq r:=hri1.less.less;have hkk:Kpt C.n0 C.kb w8 bq:=HK89.out.trans ((Kpt.less (C:=C) hkp).trans (Kpt.chg hch fun b hb=>⟨by rw[hn0];omega,by rw[lC];intro e;subst e;omega⟩));have eT:=zqb kM (by have:=jY.below;rw[hcw] at this;exact this) HHB48.out hkk (by rw[hn0];exact hs46);have iJ:=zh jY;have HX:=zh (show Re=(r.S.state,r.n,0,r.ent) from HRR.out);obtain⟨-,x7,-,x9,-⟩:=jY.cells;rw[p8] at x7 x9;rw[nG] at x9;have xp:bq.cell? ⟨pb,0,none⟩=some (.pointer (some ⟨rb,0,none⟩)):=zc (hkk.blk (.inr (by rw[lC])) yl.out) rfl;have rz:=zh (zkf kC.out eT);have oJ:=zh eT;have hls:=jY.ks;have HST:=zh (fun w' (hb:Below bq.heap.size bq w')=>(hls.later hb).state)
      rw[pY] at HST;have vK:=zh (show r.ent.length=np by rw[jY.el,hcp,ry.out]);have kS:=zh jY.ent;rw[hn0,nG] at kS;have hne0:(0:Int)=0:=rfl;have aG:=zh (show ∀ w',Below bq.heap.size bq w'->(fun w':World=>w'.cell? ⟨pb,0,none⟩=some (.pointer (some ⟨rb,0,none⟩))/\w'.cell? ⟨rb,7,none⟩=some (.int .i64 r.n)/\w'.cell? ⟨rb,9,none⟩=some (.slice (some ⟨eb,0,none⟩) np np)) w' from fun w' hb=>⟨zb hb xp,zb hb x7,zb hb x9⟩);clear bM hri1 jY hkk hkp hls hn0 hcw p8 nG lC pY hch x7 x9 xp eT hok;go_upto_region 10 with fail;have hSS:(fun w':World=>w'.cell? ⟨pb,0,none⟩=some (.pointer (some ⟨rb,0,none⟩))/\w'.cell? ⟨rb,7,none⟩=some (.int .i64 r.n)/\w'.cell? ⟨rb,9,none⟩=some (.slice (some ⟨eb,0,none⟩) np np)) bq.drew/\(fun _:World=>True) bq.drew:=⟨aG.out _ (Below.refl _ _).drew,trivial⟩
      refine wp_region_noPanic ?_;refine zkd (fun w':World=>w'.cell? ⟨pb,0,none⟩=some (.pointer (some ⟨rb,0,none⟩))/\w'.cell? ⟨rb,7,none⟩=some (.int .i64 r.n)/\w'.cell? ⟨rb,9,none⟩=some (.slice (some ⟨eb,0,none⟩) np np)) (fun _:World=>True) 12 (by kernel_rfl) ?_;refine zT 0 hSS ?_;(try simp only[zQ]);refine zT 1 hSS ?_;(try simp only[zQ]);refine zT 2 hSS ?_;(try simp only[zQ]);refine zT 3 hSS ?_;(try simp only[zQ]);refine zT 4 hSS ?_;(try simp only[zQ]);refine zT 6 hSS ?_;(try simp only[zQ]);refine zT 7 hSS ?_;(try simp only[zQ]);refine zT 8 hSS ?_;(try simp only[zQ]);refine zT 9 hSS ?_;(try simp only[zQ]);have had:Calls Tryz.prog 30 [.pointer (some ⟨P.sb,0,none⟩)].toArray bq.drew fun e W'=>∃ v,e=.returned v/\(OwnS W' bq.heap.size r.S.state v/\Below bq.heap.size bq W') :=
       (HST.out _ (Below.refl _ _).drew).mono fun e w' ⟨v,h1,h2,h3⟩=>⟨v,h1,h2,zka (Below.refl bq.heap.size bq).drew h3⟩
      refine zo 5 fun K hK=>?_;refine zkj (by rfl) (.func 30) [.tmp 59] _ (by rfl) 30 _ zuI (by rfl) _ (by rfl) _ had ?_;rintro v12 jU ⟨sD,qi⟩;obtain⟨A9,c9,B9,d9,D9,e9,rfl⟩:=sD.slices;have HO12:=zh sD;have iQ:=zh qi;refine hK.out _ _ ⟨aG.out _ qi,trivial⟩ ?_;have aX:(fun w':World=>w'.cell? ⟨pb,0,none⟩=some (.pointer (some ⟨rb,0,none⟩))/\w'.cell? ⟨rb,7,none⟩=some (.int .i64 r.n)/\w'.cell? ⟨rb,9,none⟩=some (.slice (some ⟨eb,0,none⟩) np np)) jU/\(fun _:World=>True) jU:=⟨aG.out _ qi,trivial⟩
      clear hK K hSS had sD qi;(try simp only[zQ]);have hbr:=zx5;refine zT 10 aX ?_;(try simp only[zQ]);refine zo 11 fun K hK=>?_;(try simp only[zA,zB,zC]);go_simp;refine hK.out _ _ ⟨aG.out _ iQ.out,trivial⟩ ?_;clear hK K;(try simp only[zQ]);have aN:=zkf rz.out iQ.out;have x0:jU.cell? ⟨W.heap.size+3,0,none⟩=some (.slice none 0 0):=zc aN rfl;have x1:jU.cell? ⟨W.heap.size+3,1,none⟩=some (.slice none 0 0):=zc aN rfl;have x2:jU.cell? ⟨W.heap.size+3,2,none⟩=some (.slice none 0 0):=zc aN rfl;have x3:jU.cell? ⟨W.heap.size+3,3,none⟩=some (.int .i64 0):=zc aN rfl;have x4:jU.cell? ⟨W.heap.size+3,4,none⟩=some (.int .i64 0):=zc aN rfl;have xf:∀ o,jU.frozen? ⟨W.heap.size+3,o,none⟩=false:=fun _=>zf aN;refine zp 12 fun K hK=>?_;(try simp only[zQ]);go_simp
      obtain⟨hh,hch⟩:=set5 (u0:=.slice A9 r.S.state.cells.length c9) (u1:=.slice B9 r.S.state.tin.length d9) (u2:=.slice D9 r.S.state.tout.length e9) (u3:=.int .i64 r.n) (u4:=.int .i64 0) aN;obtain⟨uX,hw13⟩:∃ zz,(((((jU.setCell ⟨W.heap.size+3,0,none⟩ (.slice A9 r.S.state.cells.length c9)).setCell ⟨W.heap.size+3,1,none⟩ (.slice B9 r.S.state.tin.length d9)).setCell ⟨W.heap.size+3,2,none⟩ (.slice D9 r.S.state.tout.length e9)).setCell ⟨W.heap.size+3,3,none⟩ (.int .i64 r.n)).setCell ⟨W.heap.size+3,4,none⟩ (.int .i64 0))=zz:=⟨_,rfl⟩
      rw[hw13] at hh hch ⊢;have dU:=zh hch;have t0:uX.cell? ⟨W.heap.size+3,0,none⟩=some (.slice A9 r.S.state.cells.length c9):=zc hh rfl;have t1:uX.cell? ⟨W.heap.size+3,1,none⟩=some (.slice B9 r.S.state.tin.length d9):=zc hh rfl;have t2:uX.cell? ⟨W.heap.size+3,2,none⟩=some (.slice D9 r.S.state.tout.length e9):=zc hh rfl;have t3:uX.cell? ⟨W.heap.size+3,3,none⟩=some (.int .i64 r.n):=zc hh rfl;have t4:uX.cell? ⟨W.heap.size+3,4,none⟩=some (.int .i64 0):=zc hh rfl;have hszs:W.heap.size+4<=bq.heap.size:=by have:=oJ.out.size;omega
      have hplt:W.heap.size+3<w7.heap.size:=by have:=qR.size;omega
      refine hK.out _ _ ?_ ?_
      ·obtain⟨q1,q2,q3⟩:=aG.out _ iQ.out;exact⟨zkX hch q1 (by simp only;omega),zkX hch q2 (by simp only;omega),zkX hch q3 (by simp only;omega)⟩
      clear hK K hch hh hw13 x0 x1 x2 x3 x4 xf aN aX aG;(try simp only[zQ]);refine zd ?_;refine NoPanic.normal ?_;go_wp2_with fail;have hrow:=zkJ kS.out iQ.out;have hrow2:=zm7 hrow (fun b hb=>dU.out.block b (hrow.lt b hb).2 (by have:=(hrow.lt b hb).1;omega));have hI:∀ z∈r.ent.map Int.ofNat,I64 z:=fun z hz=>by
       obtain⟨q,hq,rfl⟩:=List.mem_map.1 hz;have h1:=iJ.out.en q hq;have h2:=iJ.out.n;exact⟨by simp only[Int.ofNat_eq_natCast];omega,by simp only[Int.ofNat_eq_natCast];omega⟩
      obtain⟨Ae,ce,he1,he2,he3⟩:=zq7 (l:=r.ent.map Int.ofNat) (by simpa using hrow2) hI;injection he1 with he1 _ he4;subst he1 he4;refine bodyPost_ret (v:=.tuple #[.slice (some ⟨eb,0,none⟩) np np,.agg #[.slice A9 r.S.state.cells.length c9,.slice B9 r.S.state.tin.length d9,.slice D9 r.S.state.tout.length e9,.int .i64 r.n,.int .i64 0]]) (by simp[results,Tryz.results18,go_sem,t0,t1,t2,t3,t4]) rfl ?_;rw[HX.out];refine⟨_,_,_,_,_,by rw[vK.out],(HO12.out.chg dU.out fun b hb=>by omega).lower (by omega),he3.keep (fun b hb _=>by have:=hb4s;omega) (fun _ _ _=>rfl),by simpa using he2,?_⟩;exact⟨(zka kM (zka oJ.out iQ.out)).trans (dU.out.below (zka kM (zka oJ.out iQ.out)).size fun b hb=>by omega),LimR.run iJ.out.ks.wf iJ.out.fb _⟩
     ·have hx:x≠0:=fun e=>hon (by rw[e]);obtain⟨hn0,hcw,p8,nG,lC,pY,-⟩:=HN0C.out;have hkk:Kpt C.n0 C.kb w8 bq:=HK89.out.trans ((Kpt.less (C:=C) hkp).trans (Kpt.chg hch fun b hb=>⟨by rw[hn0];omega,by rw[lC];intro e;subst e;omega⟩));have qc:Below C.w.heap.size C.w bW:=hbl;rw[hcw] at qc;have hs8:=mP.out.size;have qd:Below W.heap.size W bq:=qc.trans (hch.below qc.size fun b hb=>by omega);have eT:=zqb kM qd HHB48.out hkk (by rw[hn0];exact hs46);have HX:=zh (show Re=(s,0,x,[]) from HRR.out);have e1:(x != 0)=true:=by simpa using hx
      have yc:=zh hx;clear hn0 hcw p8 nG lC pY hkk qd hkp hbl qc hch hon;have fD:=zkf aH.out eT;have nO:=zkf kC.out eT;have s0:bq.cell? ⟨W.heap.size+1,0,none⟩=some (.slice A s.cells.length c):=zc fD rfl;have s1:bq.cell? ⟨W.heap.size+1,1,none⟩=some (.slice B s.tin.length d):=zc fD rfl;have s2:bq.cell? ⟨W.heap.size+1,2,none⟩=some (.slice D s.tout.length e):=zc fD rfl;have bN:=zh (fK.out bq (zka aK.out eT));have ag:=zh nO;have hbq:=eT;clear fD nO;go_wp2_with fail;refine bN.out.mono ?_;rintro e9 w9 ⟨v9,rfl,bG,bO⟩;obtain⟨A9,c9,B9,d9,D9,e9,rfl⟩:=bG.slices;have gP:=zh bG;have dV:=zh (zka hbq bO);have aN:=zkf ag.out bO;have x0:w9.cell? ⟨W.heap.size+3,0,none⟩=some (.slice none 0 0):=zc aN rfl;have x1:w9.cell? ⟨W.heap.size+3,1,none⟩=some (.slice none 0 0):=zc aN rfl
      have x2:w9.cell? ⟨W.heap.size+3,2,none⟩=some (.slice none 0 0):=zc aN rfl;have x3:w9.cell? ⟨W.heap.size+3,3,none⟩=some (.int .i64 0):=zc aN rfl;have x4:w9.cell? ⟨W.heap.size+3,4,none⟩=some (.int .i64 0):=zc aN rfl;have xf:∀ o,w9.frozen? ⟨W.heap.size+3,o,none⟩=false:=fun _=>zf aN;have jD:=zh aN;have hbr:=bRes;have rW:W.heap.size+4<=bq.heap.size:=by have:=hbq.size;rw[oZ.out] at this;exact this
      clear s0 s1 s2 aN bG bO hbq bN;go_wp2_with fail;obtain⟨hh,hch⟩:=set5 (u0:=.slice A9 s.cells.length c9) (u1:=.slice B9 s.tin.length d9) (u2:=.slice D9 s.tout.length e9) (u3:=.int .i64 0) (u4:=.int .i64 x) jD.out;obtain⟨bW,fQ⟩:∃ zz,(((((w9.setCell ⟨W.heap.size+3,0,none⟩ (.slice A9 s.cells.length c9)).setCell ⟨W.heap.size+3,1,none⟩ (.slice B9 s.tin.length d9)).setCell ⟨W.heap.size+3,2,none⟩ (.slice D9 s.tout.length e9)).setCell ⟨W.heap.size+3,3,none⟩ (.int .i64 0)).setCell ⟨W.heap.size+3,4,none⟩ (.int .i64 x))=zz:=⟨_,rfl⟩
      rw[fQ] at hh hch ⊢;have t0:bW.cell? ⟨W.heap.size+3,0,none⟩=some (.slice A9 s.cells.length c9):=zc hh rfl;have t1:bW.cell? ⟨W.heap.size+3,1,none⟩=some (.slice B9 s.tin.length d9):=zc hh rfl;have t2:bW.cell? ⟨W.heap.size+3,2,none⟩=some (.slice D9 s.tout.length e9):=zc hh rfl;have t3:bW.cell? ⟨W.heap.size+3,3,none⟩=some (.int .i64 0):=zc hh rfl;have t4:bW.cell? ⟨W.heap.size+3,4,none⟩=some (.int .i64 x):=zc hh rfl;refine bodyPost_ret (v:=.tuple #[.slice none 0 0,.agg #[.slice A9 s.cells.length c9,.slice B9 s.tin.length d9,.slice D9 s.tout.length e9,.int .i64 0,.int .i64 x]]) (by simp[results,Tryz.results18,go_sem,t0,t1,t2,t3,t4]) rfl ?_;rw[HX.out]
      exact⟨none,0,_,_,_,rfl,(gP.out.chg hch fun b hb=>by omega).lower (by omega),fun i hi=>absurd hi (by simp),Nat.le_refl _,(zka aK.out dV.out).trans (hch.below (zka aK.out dV.out).size fun b hb=>by omega),mH.out,fun h=>by first|(simp at h;done)|exact absurd h yc.out⟩
    ·right
     have bK:=HC.out;have jP:=HU.out;have hcc:(l7=true->l6=true)/\(l8=true->l7=true):=⟨bK.1,bK.2.1⟩
     refine⟨f-1,?_,?_,?_⟩
     ·clear HC bK HU jP ha af hcc;subst hf;revert hall;revert l6 l7 l8 l9
      decide
     ·clear HC bK HU jP ha af hf;revert hall hcc;revert l6 l7 l8 l9
      decide +kernel
     intro i hi;have hcase:(i=6/\l6=false/\l7=false/\l8=false)\/(i=7/\l7=false/\l6=true/\l8=false)\/(i=8/\l8=false/\l6=true/\l7=true)\/(i=9/\l9=false):=by
      refine of_decide_eq_true ((List.all_eq_true (p:=fun i=>decide ((i=6/\l6=false/\l7=false/\l8=false)\/(i=7/\l7=false/\l6=true/\l8=false)\/(i=8/\l8=false/\l6=true/\l7=true)\/(i=9/\l9=false)))).1 ?_ i hi);clear HC bK HU jP ha af hf hi;revert hall hcc;revert l6 l7 l8 l9
      decide +kernel
     clear hi hall;subst ha hA;rcases hcase with⟨rfl,rfl,rfl,rfl⟩|⟨rfl,rfl,rfl,rfl⟩|⟨rfl,rfl,rfl,rfl⟩|⟨rfl,rfl⟩
     ·refine wpOp_step rfl (fun K' aA=>?_);have hK:=zh aA;clear aA;have hU1:=jP.1 rfl;have zx:=jP.2.1 rfl;have wH:=jP.2.2.1 rfl;subst hU1 zx wH;(try simp only[zQ]);go_simp;have hsz:=af.out.size;exact hK.out _ _ ⟨true,false,false,l9,_,undef,undef,v12,wr.heap.size,0,pb,(by subst hf;simp<;>omega),rfl,(by simp only[zQ]),zh (zkc af.out _),zh ⟨fun h=>(by cases h),fun h=>(by cases h),fun _=>⟨rfl,heap_alloc_new wr _,hsz⟩,fun h=>(by cases h),fun h=>(by cases h),fun h=>⟨(bK.2.2.2.2.2 h).1,zkn (bK.2.2.2.2.2 h).2.1 _,(bK.2.2.2.2.2 h).2.2⟩⟩,zh ⟨fun h=>(by cases h),fun _=>rfl,fun _=>rfl,jP.2.2.2⟩⟩
     ·refine wpOp_step rfl (fun K' aA=>?_);have hK:=zh aA;clear aA;have zx:=jP.2.1 rfl;have wH:=jP.2.2.1 rfl;obtain⟨hv6,he,hel⟩:=bK.2.2.1 rfl;subst zx wH hv6;have hbn:=bRun;(try simp only[zQ]);go_simp;exact hK.out _ _ ⟨true,true,false,l9,_,_,undef,v12,eb,0,pb,(by subst hf;simp<;>omega),rfl,(by simp only[zQ]),af,zh ⟨fun _=>rfl,fun h=>(by cases h),fun _=>⟨rfl,he,hel⟩,fun _=>rfl,fun h=>(by cases h),bK.2.2.2.2.2⟩,zh ⟨fun h=>(by cases h),fun h=>(by cases h),fun _=>rfl,jP.2.2.2⟩⟩
     ·refine wpOp_step rfl (fun K' aA=>?_);have hK:=zh aA;clear aA;have wH:=jP.2.2.1 rfl;obtain⟨hv6,he,hel⟩:=bK.2.2.1 rfl;have hv7:=bK.2.2.2.1 rfl;subst wH hv6 hv7;(try simp only[zQ]);go_simp;have hsz:=af.out.size;exact hK.out _ _ ⟨true,true,true,l9,_,_,_,v12,eb,wr.heap.size,pb,(by subst hf;simp<;>omega),rfl,(by simp only[zQ]),zh (zkc af.out _),zh ⟨fun _=>rfl,fun _=>rfl,fun _=>⟨rfl,zkn he _,hel⟩,fun _=>rfl,fun _=>⟨rfl,heap_alloc_new wr _,hsz⟩,fun h=>⟨(bK.2.2.2.2.2 h).1,zkn (bK.2.2.2.2.2 h).2.1 _,(bK.2.2.2.2.2 h).2.2⟩⟩,zh ⟨fun h=>(by cases h),fun h=>(by cases h),fun h=>(by cases h),jP.2.2.2⟩⟩
     ·refine wpOp_step rfl (fun K' aA=>?_);have hK:=zh aA;clear aA;have dX:=jP.2.2.2 rfl;subst dX;(try simp only[zQ]);go_simp;have hsz:=af.out.size;exact hK.out _ _ ⟨l6,l7,l8,true,v43,v44,v45,_,eb,rb,wr.heap.size,(by subst hf;simp<;>omega),rfl,(by simp only[zQ]),zh (zkc af.out _),zh ⟨bK.1,bK.2.1,fun h=>⟨(bK.2.2.1 h).1,zkn (bK.2.2.1 h).2.1 _,(bK.2.2.1 h).2.2⟩,bK.2.2.2.1,fun h=>⟨(bK.2.2.2.2.1 h).1,zkn (bK.2.2.2.2.1 h).2.1 _,(bK.2.2.2.2.1 h).2.2⟩,fun _=>⟨rfl,heap_alloc_new wr _,hsz⟩⟩,zh ⟨jP.1,jP.2.1,jP.2.2.1,fun h=>(by cases h)⟩⟩
  ·have HX:=zh (show Re=(s,0,3,[]) by rw[<-bZ.out,resO,if_pos (.inr hn)]);obtain⟨n,hnn⟩:∃ n,chkN p=n:=⟨_,rfl⟩
   rw[hnn];have xI:(0:Int)<(n:Int):=by omega
   clear hn hnn;have fD:=zkf aH.out nR;have nO:=zkf kC.out nR;have s0:w6.cell? ⟨W.heap.size+1,0,none⟩=some (.slice A s.cells.length c):=zc fD rfl;have s1:w6.cell? ⟨W.heap.size+1,1,none⟩=some (.slice B s.tin.length d):=zc fD rfl;have s2:w6.cell? ⟨W.heap.size+1,2,none⟩=some (.slice D s.tout.length e):=zc fD rfl;have bN:=zh (fK.out w6 (zka aK.out nR));have ag:=zh nO;have hbq:=nR;clear fD nO;go_wp2_with fail;refine bN.out.mono ?_;rintro e9 w9 ⟨v9,rfl,bG,bO⟩;obtain⟨A9,c9,B9,d9,D9,e9,rfl⟩:=bG.slices;have gP:=zh bG;have dV:=zh (zka hbq bO);have aN:=zkf ag.out bO;have x0:w9.cell? ⟨W.heap.size+3,0,none⟩=some (.slice none 0 0):=zc aN rfl;have x1:w9.cell? ⟨W.heap.size+3,1,none⟩=some (.slice none 0 0):=zc aN rfl;have x2:w9.cell? ⟨W.heap.size+3,2,none⟩=some (.slice none 0 0):=zc aN rfl;have x3:w9.cell? ⟨W.heap.size+3,3,none⟩=some (.int .i64 0):=zc aN rfl
   have x4:w9.cell? ⟨W.heap.size+3,4,none⟩=some (.int .i64 0):=zc aN rfl;have xf:∀ o,w9.frozen? ⟨W.heap.size+3,o,none⟩=false:=fun _=>zf aN;have jD:=zh aN;have hbr:=bRes;have rW:W.heap.size+4<=w6.heap.size:=by have:=hbq.size;rw[oZ.out] at this;exact this
   clear s0 s1 s2 aN bG bO hbq bN;go_wp2_with fail;obtain⟨hh,hch⟩:=set5 (u0:=.slice A9 s.cells.length c9) (u1:=.slice B9 s.tin.length d9) (u2:=.slice D9 s.tout.length e9) (u3:=.int .i64 0) (u4:=.int .i64 3) jD.out;obtain⟨bW,fQ⟩:∃ zz,(((((w9.setCell ⟨W.heap.size+3,0,none⟩ (.slice A9 s.cells.length c9)).setCell ⟨W.heap.size+3,1,none⟩ (.slice B9 s.tin.length d9)).setCell ⟨W.heap.size+3,2,none⟩ (.slice D9 s.tout.length e9)).setCell ⟨W.heap.size+3,3,none⟩ (.int .i64 0)).setCell ⟨W.heap.size+3,4,none⟩ (.int .i64 3))=zz:=⟨_,rfl⟩
   rw[fQ] at hh hch ⊢;have t0:bW.cell? ⟨W.heap.size+3,0,none⟩=some (.slice A9 s.cells.length c9):=zc hh rfl;have t1:bW.cell? ⟨W.heap.size+3,1,none⟩=some (.slice B9 s.tin.length d9):=zc hh rfl;have t2:bW.cell? ⟨W.heap.size+3,2,none⟩=some (.slice D9 s.tout.length e9):=zc hh rfl;have t3:bW.cell? ⟨W.heap.size+3,3,none⟩=some (.int .i64 0):=zc hh rfl;have t4:bW.cell? ⟨W.heap.size+3,4,none⟩=some (.int .i64 3):=zc hh rfl;refine bodyPost_ret (v:=.tuple #[.slice none 0 0,.agg #[.slice A9 s.cells.length c9,.slice B9 s.tin.length d9,.slice D9 s.tout.length e9,.int .i64 0,.int .i64 3]]) (by simp[results,Tryz.results18,go_sem,t0,t1,t2,t3,t4]) rfl ?_;rw[HX.out]
   exact⟨none,0,_,_,_,rfl,(gP.out.chg hch fun b hb=>by omega).lower (by omega),fun i hi=>absurd hi (by simp),Nat.le_refl _,(zka aK.out dV.out).trans (hch.below (zka aK.out dV.out).size fun b hb=>by omega),mH.out,fun h=>by first|(simp at h;done)|exact absurd h yc.out⟩
theorem zqv {vc vi vo:Value} {fc:Nat->Value} {b3 n:Nat} {s:SS}:updR (updR (updR (updR (zl8 vc (.slice none 0 0) (.slice none 0 0) fc b3 ⟨s.cells,[],[]⟩ n) (some .inp) ⟨vi,3,1,s.tin.length,zke s.tin⟩) none ⟨boxV b3,32,3,1,[vc,vi,.slice none 0 0]⟩) (some .out) ⟨vo,3,1,s.tout.length,zke s.tout⟩) none ⟨boxV b3,32,3,1,[vc,vi,vo]⟩=zl8 vc vi vo fc b3 s n:=by
 funext i;rcases i with _|i
 ·rfl
 ·cases i<;>rfl
theorem zqR (s:SS) (v:Value) (w:World) (hv:SV w Any s v) (hcl:s.cells.length<=1000000):Calls Tryz.prog 43 #[v] w fun e W'=>∃ v',e=.returned v'/\OwnS W' w.heap.size s v'/\Below w.heap.size w W':=by
 have h0:=bI0;obtain⟨A,c,B,d,D,e,rfl,hr1,hr2,hr3,hc1,hc2,hc3,hl1,hl2,hl3,hl4⟩:=hv;have hk:=heap_alloc_new w (.cells #[.slice A s.cells.length c,.slice B s.tin.length d,.slice D s.tout.length e] 32);have hbw:Below w.heap.size w ((w.alloc (.cells #[.slice A s.cells.length c,.slice B s.tin.length d,.slice D s.tout.length e] 32)).alloc (.cells #[.slice none 0 0,.slice none 0 0,.slice none 0 0] 32)):=zkc (zkc (Below.refl _ _) _) _;have hk2:=zkn hk (.cells #[.slice none 0 0,.slice none 0 0,.slice none 0 0] 32);have hz1:((w.alloc (.cells #[.slice A s.cells.length c,.slice B s.tin.length d,.slice D s.tout.length e] 32)).alloc (.cells #[.slice none 0 0,.slice none 0 0,.slice none 0 0] 32)).heap.size=w.heap.size+1+1:=by simp
 have hk3:=heap_alloc_new (w.alloc (.cells #[.slice A s.cells.length c,.slice B s.tin.length d,.slice D s.tout.length e] 32)) (.cells #[.slice none 0 0,.slice none 0 0,.slice none 0 0] 32);rw[World.size_alloc] at hk3;have HI:=zh (show s.I from ⟨fun l hl=>by
  obtain⟨i,hi,rfl⟩:=List.mem_iff_getElem.1 hl;obtain⟨_,_,_,_,_,_,_,hr⟩:=hr1 i hi;exact hr.fits,hr2.fits,hr3.fits⟩)
 go_enter Tryz.func43,Tryz.ntmps43;go_upto_region 1 with fail;obtain⟨w1,hw1⟩:∃ x,(w.alloc (.cells #[.slice A s.cells.length c,.slice B s.tin.length d,.slice D s.tout.length e] 32)).alloc (.cells #[.slice none 0 0,.slice none 0 0,.slice none 0 0] 32)=x:=⟨_,rfl⟩
 rw[hw1] at hbw hk2 hk3 hz1 ⊢;have HB1:=zh hbw;have aH:=zh hk2;have kC:=zh hk3;have HR1:=zh (hr1.later hbw);have HR2:=zh (hr2.later hbw);have HR3:=zh (hr3.later hbw);have HL:=zh (show s.Lim from ⟨hl1,hl2,hl3,hl4⟩);clear hk hbw hw1 hr1 hr2 hr3 hl1 hl2 hl3 hl4;obtain⟨z0,z1,z2⟩:=zwI aH.out;obtain⟨s0,hs0⟩:∃ s0:SS,(⟨s.cells,[],[]⟩:SS)=s0:=⟨_,rfl⟩
 have gD:=zh hs0;obtain⟨b3,hb3⟩:∃ b,w1.heap.size=b:=⟨_,rfl⟩
 have ax:=zh (show Below w1.heap.size w1 (w1.alloc (.cells #[.slice none 0 0,.slice none 0 0,.slice none 0 0] 32)) from zkc (Below.refl _ _) _);have q9:=zh (show Rws (w1.alloc (.cells #[.slice none 0 0,.slice none 0 0,.slice none 0 0] 32)) w1.heap.size (zl8 (.slice none 0 0) (.slice none 0 0) (.slice none 0 0) (fun _=>.slice none 0 0) b3 s0 0) from by
  subst hs0 hb3;have hn:=Rws.later (zst w1 w1.heap.size undef undef undef undef 0 (⟨s.cells,[],[]⟩:SS)) (Below.refl _ _);have hrw:=hn.upd none (r:=⟨boxV w1.heap.size,32,3,1,[.slice none 0 0,.slice none 0 0,.slice none 0 0]⟩) (W':=w1.alloc (.cells #[.slice none 0 0,.slice none 0 0,.slice none 0 0] 32)) (Chg.of_below (zkc (Below.refl _ _) _)) (zph w1 _ (Nat.le_refl _) _ _ _ _) (fun b hb=>.inr (by simp[Value.ownBlock] at hb;omega));have h2:=((hrw.upd (some .all) (r:=⟨.slice none 0 0,30,1,0,[]⟩) (Chg.refl _ _) (zpg _ _ _) (fun b hb=>by simp[Value.ownBlock] at hb)).upd (some .inp) (r:=⟨.slice none 0 0,3,1,0,[]⟩) (Chg.refl _ _) (zpg _ _ _) (fun b hb=>by simp[Value.ownBlock] at hb)).upd (some .out) (r:=⟨.slice none 0 0,3,1,0,[]⟩) (Chg.refl _ _) (zpg _ _ _) (fun b hb=>by simp[Value.ownBlock] at hb);refine(congrArg (Rws _ _) ?_).mp h2;funext i;rcases i with _|i
  ·rfl
  ·cases i<;>rfl)
 have HB3:=zh hb3;clear hz1 hk2 hk3;go_upto_region 2 with fail;obtain⟨w2,hw2⟩:∃ x,w1.alloc (.cells #[.slice none 0 0,.slice none 0 0,.slice none 0 0] 32)=x:=⟨_,rfl⟩
 rw[hw2] at ax q9 ⊢;clear hw2 hb3;go_wp2_with fail
 go_loopw [4] (fun i wr=>∃ j:Nat,j<=s.cells.length/\i=.int .i64 j/\Hid (Below w1.heap.size w1 wr)/\∃ vc fc,Hid (Rws wr w1.heap.size (zl8 vc (.slice none 0 0) (.slice none 0 0) fc b3 s0 j))) (fun i _=>s.cells.length-(intOf i).toNat)
 case atStart=>exact⟨0,Nat.zero_le _,rfl,ax,_,_,q9⟩
 case round =>
  clear ax q9;obtain⟨j,hj,rfl,af,vc,fc,HRW⟩:=hrel;have y0:=zb af.out z0;by_cases hlt:j<s.cells.length
  ·have hj1:(j:Int)<(s.cells.length:Int):=by omega
   have hj0:(0:Int)<=(j:Int):=by omega
   obtain⟨a,l,Al,cl,rfl,Hl,hcl0,hlc,hrl⟩:=(HR1.out.later af.out).nd hlt;have wT:=zh hrl;have bS:=zh (show l.length<=LI by rw[<-Hl.out];exact HL.out.2.1 _ (List.getElem_mem hlt));have hbx:=zlK (HRW.out.row none);have x0:wr.cell? ⟨b3,0,none⟩=some vc:=zc hbx rfl;have hz0:wr.frozen? ⟨b3,0,none⟩=false:=zf hbx;obtain⟨Av,cv,dB,-⟩:=zkh (HRW.out.row (some .all));change vc=.slice Av j cv at dB;subst dB;have hS0:(fun w':World=>w'.cell? ⟨w.heap.size,0,none⟩=some (.slice (some a) s.cells.length c)/\w'.cell? (a.add j)=some (.slice Al l.length cl)) wr.drew/\(fun w':World=>w'.cell? ⟨b3,0,none⟩=some (.slice Av j cv)) wr.drew:=⟨⟨y0,hcl0⟩,x0⟩
   obtain⟨i0,hi0,hq0,hq1,hq2⟩:=info_parts zq3;go_upto_region 5 with fail;refine wp_region_noPanic ?_;refine zkd (fun w':World=>w'.cell? ⟨w.heap.size,0,none⟩=some (.slice (some a) s.cells.length c)/\w'.cell? (a.add j)=some (.slice Al l.length cl)) (fun w':World=>w'.cell? ⟨b3,0,none⟩=some (.slice Av j cv)) 12 (by kernel_rfl) ?_;refine zT 0 hS0 ?_;(try simp only[zQ]);refine zko (i:=1) (v:=?_) rfl (by kernel_rfl) (by kernel_rfl) (by kernel_rfl) (by decide) rfl (by kernel_rfl) (by kernel_rfl) (fun _ _ _ h=>h) (Or.inl ⟨by rfl,?_⟩) hS0 ?_;rotate_left 1
   ·(intro w hSw;(try dsimp only at hSw);(try simp only[zA,zB,zC]);go_simp;(try with_reducible rfl))
   (try simp only[zQ]);refine zT 3 hS0 ?_;(try simp only[zQ]);refine zT 4 hS0 ?_;(try simp only[zQ]);refine zT 5 hS0 ?_;(try simp only[zQ]);refine zT 6 hS0 ?_;(try simp only[zQ]);refine zT 7 hS0 ?_;(try simp only[zQ]);refine zo 2 fun K hK=>?_;(try simp only[zA,zB,zC]);go_simp;have HB0:=zh (show Below wr.heap.size wr (wr.alloc (.cells #[] 3)).drew from (zkc (Below.refl _ _) _).drew);have hS1:(fun w':World=>w'.cell? ⟨w.heap.size,0,none⟩=some (.slice (some a) s.cells.length c)/\w'.cell? (a.add j)=some (.slice Al l.length cl)) (wr.alloc (.cells #[] 3)).drew/\(fun w':World=>w'.cell? ⟨b3,0,none⟩=some (.slice Av j cv)) (wr.alloc (.cells #[] 3)).drew:=⟨⟨zb HB0.out y0,zb HB0.out hcl0⟩,zb HB0.out x0⟩
   have hsz:=af.out.size;have hd0:=HRW.out.upd (some (.el j)) (r:=⟨.slice (some ⟨wr.heap.size,0,none⟩) 0 0,3,1,0,[]⟩) (W':=wr.alloc (.cells #[] 3)) (Chg.of_below (zkc (Below.refl _ _) _)) (zoc wr _ hsz) (fun b hb=>.inr (by simp[Value.ownBlock] at hb;omega));have HD0:=zh (hd0.later (Below.refl _ _).drew);obtain⟨wa,gL⟩:∃ x,(wr.alloc (.cells #[] 3)).drew=x:=⟨_,rfl⟩
   rw[gL] at hS1 HD0 HB0 ⊢;refine hK.out _ _ hS1 ?_;clear hK K hS0 hd0 gL;(try simp only[zQ]);have hszA:=(zka af.out HB0.out).size;have hrow:=HD0.out.row (some (.el j));rw[zkk] at hrow;refine zo 8 fun K hK=>?_;refine zpc (by rfl) (.tmp 14) (.tmp 19) (by rfl) w1.heap.size (.slice (some ⟨wr.heap.size,0,none⟩) 0 0) 0 [] (by rfl) hrow Al l cl (by rfl) (wT.out.later HB0.out) bS.out rfl hszA (fun v8 wb ho hg aL=>?_);rw[Nat.zero_add,List.nil_append] at ho;have hd1:=HD0.out.upd (some (.el j)) (r:=⟨v8,3,1,l.length,zke l⟩) ((Chg.row hg).mono fun b _ hb=>by rw[zkk];exact hb) ho (fun b hb=>by
    rw[zkk];rcases aL with h5|h5
    ·exact .inl (h5▸hb)
    ·exact .inr (by rw[h5] at hb;injection hb with hb;omega))
   have HD1:=zh hd1;have iA:=zh (show Below wr.heap.size wr wb from HB0.out.grown hg HB0.out.size (fun g e=>by simp[Value.ownBlock] at e;omega));have hS2:(fun w':World=>w'.cell? ⟨w.heap.size,0,none⟩=some (.slice (some a) s.cells.length c)/\w'.cell? (a.add j)=some (.slice Al l.length cl)) wb/\(fun w':World=>w'.cell? ⟨b3,0,none⟩=some (.slice Av j cv)) wb:=⟨⟨zb iA.out y0,zb iA.out hcl0⟩,zb iA.out x0⟩
   obtain⟨A8,gB,rfl,-⟩:=zkh ho;refine hK.out _ _ hS2 ?_;clear hK K hd1 ho hg aL hrow hS1;(try simp only[zQ]);have h1:=zwJ;refine zo 9 fun K hK=>?_;(try simp only[zA,zB,zC]);go_simp;have kT:=zh (show Below wr.heap.size wr (wb.alloc (.cells #[.slice A8 l.length gB] 30)) from zkc iA.out _);have HD2:=zh (HD1.out.later (show Below wb.heap.size wb (wb.alloc (.cells #[.slice A8 l.length gB] 30)) from zkc (Below.refl _ _) _));have aT:=zh (show(wb.alloc (.cells #[.slice A8 l.length gB] 30)).heap[wb.heap.size]?=some (.cells #[.slice A8 l.length gB] 30 (0,0)) from heap_alloc_new wb _)
   have oQ:(fun w':World=>w'.cell? ⟨w.heap.size,0,none⟩=some (.slice (some a) s.cells.length c)/\w'.cell? (a.add j)=some (.slice Al l.length cl)) (wb.alloc (.cells #[.slice A8 l.length gB] 30))/\(fun w':World=>w'.cell? ⟨b3,0,none⟩=some (.slice Av j cv)) (wb.alloc (.cells #[.slice A8 l.length gB] 30)):=⟨⟨zb kT.out y0,zb kT.out hcl0⟩,zb kT.out x0⟩
   obtain⟨wc,hwc⟩:∃ x,(wb.alloc (.cells #[.slice A8 l.length gB] 30))=x:=⟨_,rfl⟩
   rw[hwc] at kT HD2 aT oQ ⊢;refine hK.out _ _ oQ ?_;clear hK K hwc hS2 HD1;(try simp only[zQ]);have mV:=(zka af.out kT.out).size;have hrow:=HD2.out.row (some .all);rw[zkb (by simp),zkb (by simp)] at hrow;change wc.ownsRow w1.heap.size 30 1 (.slice Av j cv) j ((List.range j).map fc) at hrow;refine zo 10 fun K hK=>?_;refine zkI (by rfl) (.tmp 13) (.tmp 21) 29 (by rfl) w1.heap.size 30 i0 _ 1 24 Tryz.underlying29 hi0 hq0 hq1 hq2 rfl (by decide) (.slice Av j cv) j ((List.range j).map fc) (by rfl) hrow ⟨wb.heap.size,0,none⟩ 1 1 [.slice A8 l.length gB] (by rfl) rfl (fun q u hq=>by
    match q,hq with
    | 0,hq=>injection hq with hq;subst hq;exact zc aT.out rfl) (fun u hu=>by simp at hu;subst hu;rfl) (by unfold maxLen;omega) (by omega) mV (fun vd wd ho hg aL=>?_)
   have hd3:=HD2.out.upd (some .all) (r:=⟨vd,30,1,j+1,(List.range j).map fc++[.slice A8 l.length gB]⟩) ((Chg.row hg).mono fun b _ hb=>hb) ho (fun b hb=>by
    rcases aL with h5|h5
    ·exact .inl (h5▸hb)
    ·exact .inr (by rw[h5] at hb;injection hb with hb;omega))
   have HD3:=zh hd3;have zu:∀ g,(Value.slice Av j cv).ownBlock=some g->(zl8 (.slice Av j cv) (.slice none 0 0) (.slice none 0 0) fc b3 s0 j (some .all)).v.ownBlock=some g:=fun g e=>e;have hsep:∀ g,(Value.slice Av j cv).ownBlock=some g->g≠b3:=fun g e h=>HRW.out.sep (some .all) none g (by simp) e (by rw[h];rfl);have hlo:∀ g,(Value.slice Av j cv).ownBlock=some g->w1.heap.size<=g:=fun g e=>(HRW.out.lt (some .all) g e).1;have tF:Chg (fun b=>(Value.slice Av j cv).ownBlock=some b) wc wd:=Chg.row hg;have mO:=zh (show Below w1.heap.size w1 wd from (zka af.out kT.out).grown hg mV (fun g e=>hlo g e));have eF:=zlK (HD3.out.row none);have e0:wd.cell? ⟨b3,0,none⟩=some (.slice Av j cv):=zc eF rfl;have ez:wd.frozen? ⟨b3,0,none⟩=false:=zf eF;have hab:a.block<w1.heap.size:=by
    obtain⟨a',_,_,e',_,hc',_⟩:=HR1.out j hlt;injection e' with e';subst e';have:=World.block_lt_of_cell? w1 _ hc';rwa[zkv] at this
   have qo:(fun w':World=>w'.cell? ⟨w.heap.size,0,none⟩=some (.slice (some a) s.cells.length c)/\w'.cell? (a.add j)=some (.slice Al l.length cl)) wd/\(fun w':World=>w'.cell? ⟨b3,0,none⟩=some (.slice Av j cv)) wd:=⟨⟨zb mO.out z0,zks hcl0 (by rw[zkv];exact(mO.out.block _ hab).trans (af.out.block _ hab).symm)⟩,e0⟩
   have hd4:=HD3.out.set none (g:=b3) (o:=0) (by rfl) (by show 0<3;decide) vd;have hd5:Rws (wd.setCell ⟨b3,0,none⟩ vd) w1.heap.size (zl8 vd (.slice none 0 0) (.slice none 0 0) (fun i=>if i=j then .slice A8 l.length gB else fc i) b3 s0 (j+1)):=by
    rw[<-zoM (.slice Av j cv) vd (.slice none 0 0) (.slice none 0 0) fc b3 s0 j l (.slice A8 l.length gB) (.slice (some ⟨wr.heap.size,0,none⟩) 0 0) (by rw[<-gD.out];show s.cells.getD j []=l;rw[List.getD_eq_getElem?_getD,List.getElem?_eq_getElem hlt];exact Hl.out)];exact hd4
   have HD5:=zh hd5;have hb3lt:=(HD3.out.lt none b3 rfl)
   have uU:=zh (show Below w1.heap.size w1 (wd.setCell ⟨b3,0,none⟩ vd) from mO.out.trans ((((Chg.refl (fun b=>b=b3) wd).setCell (p:=⟨b3,0,none⟩) (.inl rfl) vd)).below mO.out.size fun b e=>by omega));obtain⟨Ad,cd',rfl,-⟩:=zkh ho;refine hK.out _ _ qo ?_;clear hK K hd3 hd4 hd5 ho hg aL hrow oQ tF zu hsep hlo eF;(try simp only[zQ]);refine zo 11 fun K hK=>?_;(try simp only[zA,zB,zC]);go_simp;refine hK.out _ _ qo ?_;clear hK K;(try simp only[zQ]);refine zp 12 fun K hK=>?_;(try simp only[zA,zB,zC]);go_simp;refine hK.out _ _ ⟨zb uU.out z0,?_⟩ ?_;rotate_left 1
   ·clear hK K;(try simp only[zQ]);refine zd ?_;refine NoPanic.normal ?_;go_wp2_with fail;exact⟨⟨j+1,by omega,by go_num,uU,_,_,HD5⟩,by simp[intOf];omega⟩
   ·refine zks hcl0 (by rw[zkv];exact(uU.out.block _ hab).trans (af.out.block _ hab).symm)
  ·obtain rfl:j=s.cells.length:=by omega
   have hj1:¬ (s.cells.length:Int)<(s.cells.length:Int):=by omega
   have hlen0:s0.cells=s.cells:=by rw[<-gD.out]
   have hsz:=af.out.size;have q1:=zb (zka af.out (zkc (Below.refl wr.heap.size wr) (.cells #[] 3))) z1;have lN:=zh (gD.out▸HRW.out:Rws wr w1.heap.size (zl8 vc (.slice none 0 0) (.slice none 0 0) fc b3 ⟨s.cells,[],[]⟩ s.cells.length));have aY:=zh (show ∀ v' w',w'.ownsRow wr.heap.size 3 1 v' (0+s.tin.length) ([]++zke s.tin)->(wr.alloc (.cells #[] 3)).grownBy w' (Value.slice (some ⟨wr.heap.size,0,none⟩) 0 0).ownBlock ->
    Below wr.heap.size wr w'/\(∃ A' c',v'=.slice A' s.tin.length c')/\Rws w' w1.heap.size (updR (zl8 vc (.slice none 0 0) (.slice none 0 0) fc b3 ⟨s.cells,[],[]⟩ s.cells.length) (some .inp) ⟨v',3,1,s.tin.length,zke s.tin⟩) from fun v' w' ho hg=>by
    rw[Nat.zero_add,List.nil_append] at ho;have hb:=zkc (Below.refl wr.heap.size wr) (.cells #[] 3);have hb2:=hb.trans ((Chg.row hg).below hb.size fun b e=>by simp[Value.ownBlock] at e;omega);obtain⟨A',c',e,-⟩:=zkh ho;exact⟨hb2,⟨A',c',e⟩,lN.out.upd (some .inp) (Chg.of_below hb2) (zlv ho hsz) fun b hb=>.inr (ho.lt b hb).1⟩)
   have ho1:=zoc wr wr.heap.size (Nat.le_refl _);have hr1:=HR2.out.later (zka af.out (zkc (Below.refl wr.heap.size wr) (.cells #[] 3)));have pQ:0+s.tin.length<=17592186044416:=by have:=HL.out.2.2.1;unfold LI at this;omega
   have hbx:=zlK (lN.out.row none);have hbb:∀ w',Below wr.heap.size wr w'->w'.frozen? ⟨b3,1,none⟩=false/\w'.cell? ⟨b3,1,none⟩=some (.slice none 0 0):=fun w' hb=>⟨zf (zkf hbx hb),zc (zkf hbx hb) rfl⟩
   have hzs:wr.heap.size<=(wr.alloc (.cells #[] 3)).heap.size:=by simp
   clear HRW;go_upto_region 7 with(at_builtin;refine zmI rfl (.tmp 24) (.tmp 26) rfl wr.heap.size (.slice (some ⟨wr.heap.size,0,none⟩) 0 0) 0 [] rfl ho1 B s.tin d rfl hr1 pQ hzs ?_;intro vi wa hoa hga fZ;obtain⟨dG,⟨Ai,ci,rfl⟩,hra⟩:=aY.out _ _ hoa hga;obtain⟨zf,zc⟩:=hbb _ dG;clear hoa hga fZ)
   have hw3:=hra.set none (g:=b3) (o:=1) rfl (by show 1<3;decide) (.slice Ai s.tin.length ci);have qh:=hra.lt none b3 rfl;have nE:Chg (fun b=>b=b3) wa (wa.setCell ⟨b3,1,none⟩ (.slice Ai s.tin.length ci)):=(Chg.refl (fun b=>b=b3) wa).setCell (p:=⟨b3,1,none⟩) (.inl rfl) _;have kH:=zh (show Below w1.heap.size w1 (wa.setCell ⟨b3,1,none⟩ (.slice Ai s.tin.length ci)) from (zka af.out dG).trans (nE.below (zka af.out dG).size fun b e=>by have:=qh;omega));obtain⟨w3,hw3e⟩:∃ x,wa.setCell ⟨b3,1,none⟩ (.slice Ai s.tin.length ci)=x:=⟨_,rfl⟩
   rw[hw3e] at hw3 kH ⊢;obtain⟨F3,zO⟩:∃ F3,updR (updR (zl8 vc (.slice none 0 0) (.slice none 0 0) fc b3 ⟨s.cells,[],[]⟩ s.cells.length) (some .inp) ⟨.slice Ai s.tin.length ci,3,1,s.tin.length,zke s.tin⟩) none ⟨boxV b3,32,3,1,[vc,.slice Ai s.tin.length ci,.slice none 0 0]⟩=F3:=⟨_,rfl⟩
   have uA:=zh (show Rws w3 w1.heap.size F3 from zO▸hw3);have fB:=zh zO;have hsz:=kH.out.size;have q2:=zb (zka kH.out (zkc (Below.refl w3.heap.size w3) (.cells #[] 3))) z2;clear hw3 zO hw3e nE qh hra dG zf zc hbb hbx hr1 ho1 aY q1 lN pQ hzs;have aY:=zh (show ∀ v' w',w'.ownsRow w3.heap.size 3 1 v' (0+s.tout.length) ([]++zke s.tout)->(w3.alloc (.cells #[] 3)).grownBy w' (Value.slice (some ⟨w3.heap.size,0,none⟩) 0 0).ownBlock ->
    Below w3.heap.size w3 w'/\(∃ A' c',v'=.slice A' s.tout.length c')/\Rws w' w1.heap.size (updR F3 (some .out) ⟨v',3,1,s.tout.length,zke s.tout⟩) from fun v' w' ho hg=>by
    rw[Nat.zero_add,List.nil_append] at ho;have hb:=zkc (Below.refl w3.heap.size w3) (.cells #[] 3);have hb2:=hb.trans ((Chg.row hg).below hb.size fun b e=>by simp[Value.ownBlock] at e;omega);obtain⟨A',c',e,-⟩:=zkh ho;exact⟨hb2,⟨A',c',e⟩,uA.out.upd (some SI.out) (Chg.of_below hb2) (zlv ho hsz) fun b hb=>.inr (ho.lt b hb).1⟩)
   have ho1:=zoc w3 w3.heap.size (Nat.le_refl _);have hr1:=HR3.out.later (zka kH.out (zkc (Below.refl w3.heap.size w3) (.cells #[] 3)));have pQ:0+s.tout.length<=17592186044416:=by have:=HL.out.2.2.2;unfold LI at this;omega
   have hbx:=zlK (show w3.ownsRow w1.heap.size 32 3 (boxV b3) 1 [vc,.slice Ai s.tin.length ci,.slice none 0 0] by have h:=uA.out.row none;rw[<-fB.out] at h;exact h);have hbb:∀ w',Below w3.heap.size w3 w'->w'.frozen? ⟨b3,2,none⟩=false:=fun w' hb=>zf (zkf hbx hb);have hzs:w3.heap.size<=(w3.alloc (.cells #[] 3)).heap.size:=by simp
   have hzz:w.heap.size+2<=w1.heap.size:=by have:=zku kC.out;omega
   obtain⟨Av,cv,dB,-⟩:=zkh (show w3.ownsRow w1.heap.size 30 1 vc s.cells.length _ by have h:=uA.out.row (some SI.all);rw[<-fB.out] at h;exact h);subst dB;have bF:=zh (show ∀ w',Below w3.heap.size w3 w'->((w'.cell? ⟨b3,0,none⟩=some (.slice Av s.cells.length cv)/\w'.cell? ⟨b3,1,none⟩=some (.slice Ai s.tin.length ci)/\w'.cell? ⟨b3,2,none⟩=some (.slice none 0 0))/\w'.cell? ⟨w.heap.size+1,0,none⟩=some (.slice none 0 0)/\w'.cell? ⟨w.heap.size+1,1,none⟩=some (.slice none 0 0)/\w'.cell? ⟨w.heap.size+1,2,none⟩=some (.slice none 0 0))/\(∀ j,w'.frozen? ⟨w.heap.size+1,j,none⟩=false)/\w'.heap[w.heap.size+1]?=some (.cells #[.slice none 0 0,.slice none 0 0,.slice none 0 0] 32 (0,0)) from fun w' hb=>by
    have hk3:=zkf kC.out (zka kH.out hb);have hb4:=zkf hbx hb;exact⟨⟨⟨zc hb4 rfl,zc hb4 rfl,zc hb4 rfl⟩,zc hk3 rfl,zc hk3 rfl,zc hk3 rfl⟩,fun j=>zf hk3,hk3⟩)
   have hne:b3≠w.heap.size+1:=by have:=HB3.out;omega
   go_wp2_with (at_builtin;refine zmI rfl (.tmp 29) (.tmp 31) rfl w3.heap.size (.slice (some ⟨w3.heap.size,0,none⟩) 0 0) 0 [] rfl ho1 D s.tout e rfl hr1 pQ hzs ?_;intro vo wb hoa hga fZ;obtain⟨bY,⟨Ao,co,rfl⟩,hro⟩:=aY.out _ _ hoa hga;have zf:=hbb _ bY;obtain⟨⟨⟨p0,p1,p5⟩,p2,p3,p4⟩,cf,hkb⟩:=bF.out _ bY;clear hoa hga fZ)
   rw[<-fB.out] at hro;have hw4:=hro.set none (g:=b3) (o:=2) rfl (by show 2<3;decide) (.slice Ao s.tout.length co);have qh:=hro.lt none b3 rfl;have nE:Chg (fun b=>b=b3) wb (wb.setCell ⟨b3,2,none⟩ (.slice Ao s.tout.length co)):=(Chg.refl (fun b=>b=b3) wb).setCell (p:=⟨b3,2,none⟩) (.inl rfl) _;have uT:=zh (show Below w1.heap.size w1 (wb.setCell ⟨b3,2,none⟩ (.slice Ao s.tout.length co)) from (zka kH.out bY).trans (nE.below (zka kH.out bY).size fun b e=>by have:=qh;omega));have hk4:=nE.keep hkb (by omega);obtain⟨w4,hw4e⟩:∃ x,wb.setCell ⟨b3,2,none⟩ (.slice Ao s.tout.length co)=x:=⟨_,rfl⟩
   rw[hw4e] at hw4 uT hk4 ⊢;have hr4:Rws w4 w1.heap.size (zl8 (.slice Av s.cells.length cv) (.slice Ai s.tin.length ci) (.slice Ao s.tout.length co) fc b3 s s.cells.length):=by rw[<-zqv];exact hw4
   have bZ:=zh (zpK hr4);have hch:Chg (fun b=>b=w.heap.size+1) w4 (((w4.setCell ⟨w.heap.size+1,0,none⟩ (.slice Av s.cells.length cv)).setCell ⟨w.heap.size+1,1,none⟩ (.slice Ai s.tin.length ci)).setCell ⟨w.heap.size+1,2,none⟩ (.slice Ao s.tout.length co)) :=
    (((Chg.refl (fun b=>b=w.heap.size+1) w4).setCell (p:=⟨w.heap.size+1,0,none⟩) (.inl rfl) _).setCell (p:=⟨w.heap.size+1,1,none⟩) (.inl rfl) _).setCell (p:=⟨w.heap.size+1,2,none⟩) (.inl rfl) _
   have hh:=heap_setCell_same _ (w.heap.size+1) 2 _ _ (.slice Ao s.tout.length co) (heap_setCell_same _ (w.heap.size+1) 1 _ _ (.slice Ai s.tin.length ci) (heap_setCell_same w4 (w.heap.size+1) 0 _ _ (.slice Av s.cells.length cv) hk4));obtain⟨w9,bH⟩:∃ x,((w4.setCell ⟨w.heap.size+1,0,none⟩ (.slice Av s.cells.length cv)).setCell ⟨w.heap.size+1,1,none⟩ (.slice Ai s.tin.length ci)).setCell ⟨w.heap.size+1,2,none⟩ (.slice Ao s.tout.length co)=x:=⟨_,rfl⟩
   rw[bH] at hch hh ⊢;have t0:w9.cell? ⟨w.heap.size+1,0,none⟩=some (.slice Av s.cells.length cv):=zc hh (by simp);have t1:w9.cell? ⟨w.heap.size+1,1,none⟩=some (.slice Ai s.tin.length ci):=zc hh (by simp);have t2:w9.cell? ⟨w.heap.size+1,2,none⟩=some (.slice Ao s.tout.length co):=zc hh (by simp);refine bodyPost_ret (v:=.agg #[.slice Av s.cells.length cv,.slice Ai s.tin.length ci,.slice Ao s.tout.length co]) (by simp[results,Tryz.results43,go_sem,t0,t1,t2]) rfl ⟨_,rfl,?_,(zka HB1.out uT.out).trans (hch.below (zka HB1.out uT.out).size fun b e=>by omega)⟩;have hrw:=bZ.out.chg hch (fun i b hb e=>by have:=(bZ.out.lt i b hb).1;omega);exact⟨_,_,_,_,rfl,hrw.mono (by omega),HI.out⟩
theorem PV.lit {p:PG} {w:World} {S:Nat->Prop} {v:Value} (h:PV w S p v) (hv:zle p=true):LitB p.m/\PrB p.prs/\∀ u∈p.vs,FldV u:=by
 obtain⟨A1,c1,A2,c2,A3,c3,-,dK⟩:=h;obtain⟨-,-,h3,-⟩:=zlN hv;refine⟨NV.lit _ _ dK.main,fun q hq=>?_,fun u hu=>?_⟩
 ·have hb:=(h3 q hq).1;obtain⟨i,hi,rfl⟩:=List.getElem_of_mem hq;obtain⟨a,B1,d1,B2,d2,-,-,-,hr⟩:=dK.procs i hi;refine⟨NV.lit _ _ hr.body,fun v hv=>?_,by omega⟩;obtain⟨j,hj,rfl⟩:=List.getElem_of_mem hv;obtain⟨-,-,-,-,hf⟩:=hr.row j hj;exact hf
 ·obtain⟨j,hj,rfl⟩:=List.getElem_of_mem hu;obtain⟨-,-,-,-,hf⟩:=dK.vars j hj;exact hf
theorem SV.nums {s:SS} {w:World} {S:Nat->Prop} {v:Value} (h:SV w S s v):s.I:=by
 obtain⟨A,c,B,d,D,e,-,hr,hi,ho,-⟩:=h;have key:∀ {A:Option Addr} {xs:List Int},RowI w S A xs->∀ x∈xs,I64 x:=fun hr x hx=>by
  obtain⟨i,hi,rfl⟩:=List.getElem_of_mem hx;obtain⟨_,_,_,_,h⟩:=hr i hi;exact h
 refine⟨fun l hl=>?_,key hi,key ho⟩;obtain⟨i,hi,rfl⟩:=List.getElem_of_mem hl;obtain⟨_,_,_,_,_,_,_,h⟩:=hr i hi;exact key h
theorem znA {vs:List VD} {s:SS} {e:List Nat} (hv:vs.length<=1000) (h0:fitB vs s=true) (hf:∀ v∈vs,FldV v) (hI:s.I) (j:Nat) (hj:j<=vs.length):RInv ⟨newS (vs.take j) s,0,e⟩ :=
 ⟨zqA h0 hf hI.1 hI.2.1 hI.2.2 j hj,⟨by show(vs.take j).length<=1000+0;rw[List.length_take];omega,fun f hf=>by cases hf⟩,Nat.zero_le _⟩
theorem zxK {p:PG} (hv:zle p=true) (hc:chkN p=0):QP p.prs/\isB p.m=true/\cntV p.prs p.m p.vs=0:=by
 obtain⟨h1,h2⟩:=zpF hv;unfold chkN at hc;refine⟨fun q hq=>?_,h1,by omega⟩;obtain⟨i,hi,rfl⟩:=List.getElem_of_mem hq;have:=zoa (Nat.le_refl _) (show prcN p.prs p.prs.length=0 by omega) i hi hi;unfold prcE at this;exact⟨h2 _ hq,by omega,by omega⟩
theorem zsu (vs:List VD) (s:SS) (j:Nat) (hj:j<vs.length) (l:List Int) (hl:s.cells.getD j []=l) :
  ((newS (vs.take j) s).newCell l).setCur ((newS (vs.take j) s).cur.push vs[j] (newS (vs.take j) s).nc)={ newS (vs.take (j+1)) s with base:={ (newS (vs.take (j+1)) s).base with loc:=1 } }:=by
 rw[<-zpS vs s j hj l hl];have e1:(newS (vs.take j) s).nc=j:=by show(vs.take j).length=j;rw[List.length_take];omega
 rw[e1];rfl
section
variable {K:RK} {P:RP} {W:World} {r:RS} {er:Int}
theorem RF.reloc (h:RF K P W r er) {S':ST} (hn:S'.nc=r.S.nc) (hl:S'.cell=r.S.cell) (hc:S'.calls.length=r.S.calls.length) (hv:S'.cur.vs=r.S.cur.vs) (hs:S'.cur.cs=r.S.cur.cs) (hi:S'.tin=r.S.tin) (ho:S'.tout=r.S.tout) (hr:RInv { r with S:=S' }) :
  RF K P W { r with S:=S' } er/\zkg K P { r with S:=S' } er=zkg K P r er:=by
 have e:zkg K P { r with S:=S' } er=zkg K P r er:=by
  funext x
  cases x with
  | run=>simp only[zkg,RK.cells,hc]
  | cnt=>rfl
  | cel i=>simp only[zkg,hn]
  | row i=>simp only[zkg,hn,hl]
 refine⟨⟨by rw[e];exact h.rws,?_,?_,?_,?_,hr,h.bl,h.el,h.en⟩,e⟩
 ·rw[e];simp only[zk7,hv];exact h.nm
 ·rw[e];simp only[hs];exact h.cl
 ·rw[e];simp only[hi];exact h.iv
 ·rw[e];simp only[ho];exact h.ov
end
def zmk (vc vi vo:Value) (fc:Nat->Value) (s:SS) (j:Nat):SI->RowD
 | .el i=>if i<j then nilR else zlX vc vi vo fc s (.el i)
 | x=>zlX vc vi vo fc s x
theorem zqy (vc vi vo:Value) (fc:Nat->Value) (s:SS):zmk vc vi vo fc s 0=zlX vc vi vo fc s:=by
 funext x
 cases x<;>simp[zmk]
theorem zqx (vc vi vo:Value) (fc:Nat->Value) (s:SS) (j:Nat):updR (zmk vc vi vo fc s j) (.el j) nilR=zmk vc vi vo fc s (j+1):=by
 funext x
 cases x with
 | el i =>
  by_cases e:i=j
  ·subst e;rw[zkk];simp[zmk]
  ·rw[zkb (by simpa using e)];simp only[zmk];by_cases h:i<j
   ·rw[if_pos h,if_pos (by omega)]
   ·rw[if_neg h,if_neg (by omega)]
 | all=>rw[zkb (by simp)];rfl
 | inp=>rw[zkb (by simp)];rfl
 | out=>rw[zkb (by simp)];rfl
theorem zn9 {vc vi vo:Value} {fc:Nat->Value} {s:SS} {j:Nat} {b:Nat} (h:OwnB (zmk vc vi vo fc s (j+1)) b):OwnB (zmk vc vi vo fc s j) b:=by
 obtain⟨x,hx⟩:=h;rw[<-zqx] at hx;by_cases e:x=.el j
 ·subst e;rw[zkk] at hx;simp[nilR,Value.ownBlock] at hx
 ·rw[zkb e] at hx;exact⟨x,hx⟩
structure DoI (K:RK) (s:SS) (vc vi vo:Value) (fc:Nat->Value) (rb:Nat) (BX:List (Nat×Obj)) (j:Nat) (P:RP) (w:World):Prop where
 rf:RF K P w ⟨newS (K.p.vs.take j) s,0,List.replicate K.p.prs.length 0⟩ 0
 rb:P.rb=rb
 iv:P.iv=vi
 ov:P.ov=vo
 rest:Rws w K.n0 (zmk vc vi vo fc s j)
 dis:∀ b,OwnB (zmk vc vi vo fc s j) b->¬ OwnB (zkg K P ⟨newS (K.p.vs.take j) s,0,List.replicate K.p.prs.length 0⟩ 0) b
 bx:∀ q∈BX,w.heap[q.1]?=some q.2
 dx:∀ q∈BX,¬ OwnB (zkg K P ⟨newS (K.p.vs.take j) s,0,List.replicate K.p.prs.length 0⟩ 0) q.1
 rx:∀ q∈BX,¬ OwnB (zmk vc vi vo fc s j) q.1
section
variable {K:RK} {s:SS} {vc vi vo:Value} {fc:Nat->Value} {rb:Nat} {BX:List (Nat×Obj)} {j:Nat} {P:RP} {w w':World}
theorem DoI.later (h:DoI K s vc vi vo fc rb BX j P w) (hb:Below w.heap.size w w'):DoI K s vc vi vo fc rb BX j P w' :=
 ⟨h.rf.later hb,h.rb,h.iv,h.ov,h.rest.later hb,h.dis,fun q hq=>zkf (h.bx q hq) hb,h.dx,h.rx⟩
theorem DoI.open_ (hK:K.Ok) (h:DoI K s vc vi vo fc rb BX j P w) (hfit:fitB K.p.vs s=true) (hf:∀ v∈K.p.vs,FldV v) (hI:s.I) (hj:j<K.p.vs.length) :
  Calls Tryz.prog 44 #[.pointer (some ⟨rb,0,none⟩),.string K.p.vs[j].s,fc j] w fun en w'=>(∃ u,en=.returned u)/\∃ P',DoI K s vc vi vo fc rb BX (j+1) P' w':=by
 obtain⟨h32,hcl,-⟩:=zmh hfit;have hjc:j<s.cells.length:=by omega
 have qx:zmk vc vi vo fc s j (.el j)=⟨fc j,3,1,(s.cells.getD j []).length,zke (s.cells.getD j [])⟩:=by
  simp only[zmk,Nat.lt_irrefl,if_false,zlX,if_pos hjc]
 have hrow:=h.rest.row (.el j);rw[qx] at hrow;obtain⟨A,c,hv,-⟩:=zkh hrow;have hv:fc j=.slice A (s.cells.getD j []).length c:=hv;have hown:∀ b,(fc j).ownBlock=some b->OwnB (zmk vc vi vo fc s j) b:=fun b hb=>⟨.el j,by rw[qx];exact hb⟩
 have aV:∀ (x:SI) (v:Value) (l:List Int),x ≠ .el j->zmk vc vi vo fc s j x=⟨v,3,1,l.length,zke l⟩->Sl w (fun b=>¬ OwnB (zkg K P ⟨newS (K.p.vs.take j) s,0,List.replicate K.p.prs.length 0⟩ 0) b/\(fc j).ownBlock≠some b) v (zke l):=fun x v l hx e=>by
  have h1:=h.rest.row x;rw[e] at h1;have h2:=znB (us:=zke l) (v:=v) (by simpa[zke] using h1);refine h2.keep (fun b hb _=>?_) fun _ _ _=>rfl;have hb':(zmk vc vi vo fc s j x).v.ownBlock=some b:=by rw[e];exact hb
  exact⟨h.dis b ⟨x,hb'⟩,fun e2=>h.rest.sep x (.el j) b hx hb' (by rw[qx];exact e2)⟩
 have hop:=zsu K.p.vs s j hj _ rfl;have hrj:=znA (e:=List.replicate K.p.prs.length 0) (by omega) hfit hf hI j (by omega);have hr1:=znA (e:=List.replicate K.p.prs.length 0) (by omega) hfit hf hI (j+1) (by omega);have bM:RInv { (⟨newS (K.p.vs.take j) s,0,List.replicate K.p.prs.length 0⟩:RS) with S:={ newS (K.p.vs.take (j+1)) s with base:={ (newS (K.p.vs.take (j+1)) s).base with loc:=1 } } }:=by
  refine⟨?_,⟨hr1.fb.1,fun f hf=>by cases hf⟩,Nat.zero_le _⟩;obtain⟨⟨kd,h1,h2,h3⟩,h4,h5,h6,h7⟩:=hr1.wf;refine⟨⟨kd,⟨h1.len,?_,h1.lim,h1.fld,h1.num,h1.kind⟩,(fun f hf=>by cases hf),h3⟩,h4,h5,h6,h7⟩
  show 1<=(K.p.vs.take (j+1)).length
  rw[List.length_take];omega
 rw[hv];have sP:=aV .inp vi s.tin (by simp) rfl;have sw:=aV .out vo s.tout (by simp) rfl;rw[<-h.iv] at sP;rw[<-h.ov] at sw;rw[hv] at hrow hown sP sw;rw[<-h.rb];refine(zqf hK h.rf (l:=s.cells.getD j []) hrow (fun b hb=>h.dis b (hown b hb)) sP sw K.p.vs[j] (by show(K.p.vs.take j).length<=_;rw[List.length_take];omega) hop.symm bM).mono ?_;rintro en w' ⟨hu,P',g⟩;obtain⟨g1,g2⟩:=g.rf.reloc (S':=newS (K.p.vs.take (j+1)) s) rfl rfl rfl rfl rfl rfl rfl hr1;have hown2:∀ b,OwnB (zkg K P' ⟨newS (K.p.vs.take (j+1)) s,0,List.replicate K.p.prs.length 0⟩ 0) b->OwnB (zkg K P ⟨newS (K.p.vs.take j) s,0,List.replicate K.p.prs.length 0⟩ 0) b\/OwnB (zmk vc vi vo fc s j) b\/w.heap.size<=b:=fun b hb=>by
  have g2':zkg K P' ⟨newS (K.p.vs.take (j+1)) s,0,List.replicate K.p.prs.length 0⟩ 0=_:=g2;rw[g2'] at hb;rcases g.own b hb with h1|h1|h1
  ·exact .inl h1
  ·exact .inr (.inl (hown b h1))
  ·exact .inr (.inr h1)
 have hrest:Rws w K.n0 (zmk vc vi vo fc s (j+1)):=by rw[<-zqx];exact(Stp.drop h.rest (.el j)).rws
 refine⟨hu,P',g1,g.rb,g.iv.trans h.iv,g.ov.trans h.ov,hrest.chg g.chg fun i b hb hc=>h.dis b (zn9 ⟨i,hb⟩) hc,fun b hb hc=>?_,fun q hq=>g.chg.keep (h.bx q hq) (h.dx q hq),fun q hq hc=>?_,fun q hq hc=>h.rx q hq (zn9 hc)⟩
 ·have g2':zkg K P' ⟨newS (K.p.vs.take (j+1)) s,0,List.replicate K.p.prs.length 0⟩ 0=_:=g2;rw[g2'] at hc;rcases g.own b hc with h1|h1|h1
  ·exact h.dis b (zn9 hb) h1
  ·obtain⟨x,hx⟩:=hb;by_cases e:x=.el j
   ·subst e;simp[zmk,nilR,Value.ownBlock] at hx
   ·have hx2:(zmk vc vi vo fc s j x).v.ownBlock=some b:=by rw[<-zqx,zkb e] at hx;exact hx
    exact h.rest.sep x (.el j) b e hx2 (by rw[qx];show(fc j).ownBlock=some b;rw[hv];exact h1)
  ·obtain⟨x,hx⟩:=hb;have:=(hrest.lt x b hx).2;omega
 ·rcases hown2 _ hc with h1|h1|h1
  ·exact h.dx q hq h1
  ·exact h.rx q hq h1
  ·have:=zku (h.bx q hq);omega
end
theorem DoI.start {K:RK} {s:SS} {vc vi vo:Value} {fc:Nat->Value} {rb cvb:Nat} {BX:List (Nat×Obj)} {w:World} (hfit:fitB K.p.vs s=true) (hf:∀ v∈K.p.vs,FldV v) (hI:s.I) (lZ:K.p.prs.length<=64)
  (hr:w.heap[rb]?=some (.cells #[.slice K.A1 K.p.vs.length K.c1,.slice K.A2 K.p.prs.length K.c2,.int .u8 K.p.m.k,.int .i64 K.p.m.n,.string K.p.m.s,.slice K.A3 K.p.m.ks.length K.c3,.slice none 0 0,.slice none 0 0,vi,vo,.int .i64 K.F,.int .i64 0,.int .i64 0,.slice (some ⟨cvb,0,none⟩) K.p.prs.length K.p.prs.length,.int .i64 0] 91 (0,0)))
  (hcv:w.heap[cvb]?=some (.cells (zke (List.replicate K.p.prs.length 0)).toArray 3 (0,0))) (hne:cvb≠rb) (hn1:K.n0<=cvb) (hn2:K.n0<=rb) (rest:Rws w K.n0 (zlX vc vi vo fc s)) (hdis:∀ b,OwnB (zlX vc vi vo fc s) b->b≠rb/\b≠cvb)
  (hbl:Below K.w.heap.size K.w w) (bx:∀ q∈BX,w.heap[q.1]?=some q.2/\(q.1≠rb/\q.1≠cvb)/\¬ OwnB (zlX vc vi vo fc s) q.1) :
  ∃ P,DoI K s vc vi vo fc rb BX 0 P w:=by
 have bM:=znA (e:=List.replicate K.p.prs.length 0) (by have:=(zmh hfit).1;omega) hfit hf hI 0 (Nat.zero_le _);refine⟨⟨rb,.slice (some ⟨cvb,0,none⟩) K.p.prs.length K.p.prs.length,.slice none 0 0,.slice none 0 0,vi,vo,fun _=>0,fun _=>.slice none 0 0⟩,?_⟩;have aL:∀ b,OwnB (zkg K ⟨rb,.slice (some ⟨cvb,0,none⟩) K.p.prs.length K.p.prs.length,.slice none 0 0,.slice none 0 0,vi,vo,fun _=>0,fun _=>.slice none 0 0⟩ ⟨newS (K.p.vs.take 0) s,0,List.replicate K.p.prs.length 0⟩ 0) b->b=rb\/b=cvb:=by
  rintro b ⟨x,hx⟩
  cases x with
  | run=>left;simpa[zkg,Value.ownBlock] using hx.symm
  | cnt=>right;simpa[zkg,Value.ownBlock] using hx.symm
  | cel i=>simp[zkg,newS,nilR,Value.ownBlock] at hx
  | row i=>simp[zkg,newS,nilR,Value.ownBlock] at hx
 have hsl:∀ (v:Value) (x:SI) (l:List Int),zlX vc vi vo fc s x=⟨v,3,1,l.length,zke l⟩->Sl w (fun b=>¬ OwnB (zkg K ⟨rb,.slice (some ⟨cvb,0,none⟩) K.p.prs.length K.p.prs.length,.slice none 0 0,.slice none 0 0,vi,vo,fun _=>0,fun _=>.slice none 0 0⟩ ⟨newS (K.p.vs.take 0) s,0,List.replicate K.p.prs.length 0⟩ 0) b) v (zke l):=fun v x l e=>by
  have h1:=rest.row x;rw[e] at h1;refine(znB (us:=zke l) (v:=v) (by simpa[zke] using h1)).keep (fun b hb _ hc=>?_) fun _ _ _=>rfl;have h2:=hdis b ⟨x,by rw[e];exact hb⟩;rcases aL b hc with h3|h3
  ·exact h2.1 h3
  ·exact h2.2 h3
 refine⟨⟨⟨fun x=>?_,fun x y b hxy hx hy=>?_⟩,⟨none,0,rfl,Nat.le_refl _,fun i hi=>absurd hi (by simp[zk7,newS,ST.cur])⟩,⟨none,0,rfl,Nat.le_refl _,fun i hi=>absurd hi (by simp[ptrs,newS,ST.cur])⟩,hsl vi .inp s.tin rfl,hsl vo .out s.tout rfl,bM,hbl,List.length_replicate,fun c hc=>by rw[(List.mem_replicate.1 hc).2];exact Nat.zero_le _⟩,rfl,rfl,rfl,by rw[zqy];exact rest,fun b hb hc=>?_,fun q hq=>(bx q hq).1,fun q hq hc=>?_,fun q hq=>by rw[zqy];exact(bx q hq).2.2⟩
 ·cases x with
  | run=>exact⟨rfl,.inr ⟨rb,1,_,rfl,hn2,hr,Nat.le_refl _,by unfold maxLen;omega,rfl,rfl⟩⟩
  | cnt=>exact⟨by simp[zkg,zke],.inr ⟨cvb,K.p.prs.length,_,by simp[zkg],hn1,hcv,by simp[zkg],by unfold maxLen;omega,by simp[zke,zkg],by simp[zkg,zke]⟩⟩
  | cel i=>simp only[zkg];rw[if_neg (by simp[newS])];exact zlP _ _
  | row i=>simp only[zkg];rw[if_neg (by simp[newS])];exact zlP _ _
 ·have e:∀ x,(zkg K ⟨rb,.slice (some ⟨cvb,0,none⟩) K.p.prs.length K.p.prs.length,.slice none 0 0,.slice none 0 0,vi,vo,fun _=>0,fun _=>.slice none 0 0⟩ ⟨newS (K.p.vs.take 0) s,0,List.replicate K.p.prs.length 0⟩ 0 x).v.ownBlock=some b->(x=.run/\b=rb)\/(x=.cnt/\b=cvb):=fun x hx=>by
   cases x with
   | run=>exact .inl ⟨rfl,by simpa[zkg,Value.ownBlock] using hx.symm⟩
   | cnt=>exact .inr ⟨rfl,by simpa[zkg,Value.ownBlock] using hx.symm⟩
   | cel i=>simp[zkg,newS,nilR,Value.ownBlock] at hx
   | row i=>simp[zkg,newS,nilR,Value.ownBlock] at hx
  rcases e x hx with⟨rfl,h1⟩|⟨rfl,h1⟩<;>rcases e y hy with⟨rfl,h2⟩|⟨rfl,h2⟩
  ·exact hxy rfl
  ·omega
  ·omega
  ·exact hxy rfl
 ·rw[zqy] at hb;rcases aL b hc with h3|h3
  ·exact(hdis b hb).1 h3
  ·exact(hdis b hb).2 h3
 ·rcases aL _ hc with h3|h3
  ·exact(bx q hq).2.1.1 h3
  ·exact(bx q hq).2.1.2 h3
theorem DoI.run {K:RK} {s:SS} {vc vi vo:Value} {fc:Nat->Value} {rb:Nat} {BX:List (Nat×Obj)} {n:Nat} {P:RP} {w:World} (hK:K.Ok) (h:DoI K s vc vi vo fc rb BX n P w) (hn:K.p.vs.length=n) (hb:isB K.p.m=true) (hc:cntV K.p.prs K.p.m K.p.vs=0) (hl:LitB K.p.m) {g:Nat} (back:Bool) {r0:RS} (h0:r0=⟨newS K.p.vs s,0,List.replicate K.p.prs.length 0⟩) {o:Out} (ho:runO K.p.prs K.F g back K.p.m r0=o) (hog:o ≠ .gas) :
  RF K P w r0 0/\(∀ q∈BX,¬ OwnB (zkg K P r0 0) q.1)/\(∀ r',o=.ok r'->r'.S.base=⟨K.p.vs,List.range n,0⟩/\n<=r'.S.nc)/\(∃ A c,P.cl=.slice A n c/\n<=c/\w.cell? ⟨rb,7,none⟩=some (.slice A n c)) /\
   Calls Tryz.prog 45 #[.pointer (some ⟨rb,0,none⟩),nv K.p.m.k K.p.m.n K.p.m.s K.A3 K.p.m.ks.length K.c3,.bool back] w fun en w'=>(∃ u,en=.returned u)/\RunM K P w r0 o w':=by
 have e:(⟨newS (K.p.vs.take n) s,0,List.replicate K.p.prs.length 0⟩:RS)=r0:=by rw[h0,List.take_of_length_le (by rw[hn];exact Nat.le_refl _)]
 have hrf:=h.rf;have wG:=h.dx;rw[e] at hrf wG;have hcs:r0.S.cur.cs=List.range n:=by rw[h0,<-hn];rfl
 refine⟨hrf,wG,fun r' hr=>?_,?_,?_⟩
 ·subst hr;have hk:=(zn8 hK.F6 hK.lit g back K.p.m r0 r' hl hrf.inv ho).2;have h1:=hk.base;have h2:=hk.nc;rw[h0] at h1 h2;have h2:K.p.vs.length<=r'.S.nc:=h2;exact⟨by rw[h1,<-hn];rfl,by omega⟩
 ·obtain⟨A,c,h1,h2,-⟩:=hrf.cl;rw[hcs,show(ptrs P.cb (List.range n)).length=n by simp[ptrs]] at h1 h2;refine⟨A,c,h1,h2,?_⟩;have y7:=hrf.box.1.2.1;rw[h.rb,h1] at y7;exact y7
 ·have hx:=znM hK (zqg hK g) hrf K.p.m _ back hK.pg.main hb (by rw[h0];exact hc) (by rw[ho];exact hog);rw[ho,h.rb] at hx;exact hx
theorem RowI.off {w:World} {S:Nat->Prop} {A:Option Addr} {xs:List Int} {b:Nat} {cs:Array Value} {E:TypeId} (h:RowI w S A xs) (hb:w.heap[b]?=some (.cells cs E (0,0))) (hc:∀ (o:Nat) x,cs[o]?≠some (.int .i64 x)):RowI w (fun q=>q≠b) A xs:=fun i hi=>by
 obtain⟨a,hA,-,h1,h2⟩:=h i hi;refine⟨a,hA,fun e=>?_,h1,h2⟩;unfold World.cell? at h1;rw[zkv,e,hb] at h1;dsimp only at h1
 split at h1
 ·cases h1
 ·exact hc _ _ h1
theorem RF.out {K:RK} {P:RP} {w:World} {r:RS} {n:Nat} (h:RF K P w r 0) (hn:n<=r.S.nc) {b:Nat} {cs:Array Value} {E:TypeId} (hb:w.heap[b]?=some (.cells cs E (0,0))) (hc:∀ (o:Nat) x,cs[o]?≠some (.int .i64 x)) :
  (∃ A c,P.iv=.slice A r.S.tin.length c/\r.S.tin.length<=c/\RowI w (fun q=>q≠b) A r.S.tin)/\(∃ A c,P.ov=.slice A r.S.tout.length c/\r.S.tout.length<=c/\RowI w (fun q=>q≠b) A r.S.tout) /\
   (∃ A c,P.cv=.slice A r.ent.length c/\r.ent.length<=c/\RowI w (fun q=>q≠b) A (r.ent.map Int.ofNat))/\∀ i,i<n->∃ A c,P.ci i=.slice A (r.S.cell i).length c/\(r.S.cell i).length<=c/\RowI w (fun q=>q≠b) A (r.S.cell i):=by
 have hsl:∀ (S:Nat->Prop) (v:Value) (l:List Int),Sl w S v (zke l)->(∀ x∈l,I64 x)->∃ A c,v=.slice A l.length c/\l.length<=c/\RowI w (fun q=>q≠b) A l:=fun S v l hs hi=>by
  obtain⟨A,c,h1,h2,h3⟩:=hs;have e:(zke l).length=l.length:=by simp[zke]
  rw[e] at h1 h2;refine⟨A,c,h1,h2,RowI.off (S:=S) (fun i hi2=>?_) hb hc⟩;obtain⟨a,g1,g2,g3⟩:=h3 i (by rw[e];exact hi2);exact⟨a,g1,g2,by rw[g3];simp[zke],hi _ (List.getElem_mem hi2)⟩
 refine⟨hsl _ _ _ h.iv h.inv.wf.tin.2,hsl _ _ _ h.ov h.inv.wf.tout.2,?_,fun i hi=>?_⟩
 ·have h1:w.ownsRow K.n0 3 1 P.cv r.ent.length (zke (r.ent.map Int.ofNat)):=h.rws.row .cnt;obtain⟨A,c,h2,h3,h4⟩:=zlx (xs:=r.ent.map Int.ofNat) (by simpa[zke] using h1) fun x hx=>by
   obtain⟨c,hc,rfl⟩:=List.mem_map.1 hx;have h5:=h.en c hc;have h6:=h.inv.n;unfold I64;simp only[Int.ofNat_eq_natCast];omega
  exact⟨A,c,by simpa using h2,by simpa using h3,h4.off hb hc⟩
 ·have h1:=h.rws.row (.row i);rw[zkV K P 0 (Nat.lt_of_lt_of_le hi hn)] at h1;obtain⟨A,c,h2,h3,h4⟩:=zlx (xs:=r.S.cell i) (by simpa[zke] using h1) (h.inv.wf.cells i (Nat.lt_of_lt_of_le hi hn)).2;exact⟨A,c,h2,h3,h4.off hb hc⟩
def famO (vc:Value) (ob j:Nat) (fc:Nat->Value):Bool->RowD
 | true=>⟨boxV ob,32,3,1,[vc,.slice none 0 0,.slice none 0 0]⟩
 | false=>⟨vc,30,1,j,(List.range j).map fc⟩
theorem zrX (w:World) (fc:Nat->Value):Rws (w.alloc (.cells #[.slice none 0 0,.slice none 0 0,.slice none 0 0] 32)) w.heap.size (famO (.slice none 0 0) w.heap.size 0 fc) :=
 ⟨fun i=>by
  cases i
  ·exact⟨rfl,.inl ⟨rfl,rfl⟩⟩
  ·exact zph w _ (Nat.le_refl _) _ _ _ _,fun i j b hij hi hj=>by cases i<;>cases j<;>simp[famO,Value.ownBlock] at hi hj hij⟩
theorem zs2 {w w1 w2:World} {n ob j:Nat} {vc vd:Value} {fc:Nat->Value} (hb:Below w.heap.size w w1) (h:Rws w n (famO vc ob j fc)) (hn:n<=w.heap.size) (ho:w2.ownsRow n 30 1 vd (j+1) ((List.range j).map fc++[fc j])) (hg:w1.grownBy w2 vc.ownBlock) (aL:vd.ownBlock=vc.ownBlock\/vd.ownBlock=some w1.heap.size) :
  Rws (w2.setCell ⟨ob,0,none⟩ vd) n (famO vd ob (j+1) fc)/\Below n w w2/\w2.cell? ⟨ob,0,none⟩=some vc/\w2.frozen? ⟨ob,0,none⟩=false/\Below n w (w2.setCell ⟨ob,0,none⟩ vd):=by
 have hc:Chg (fun b=>(famO vc ob j fc false).v.ownBlock=some b) w w2:=(Chg.of_below hb).trans (Chg.row hg);have st:=Stp.upd (i:=false) (r:=⟨vd,30,1,j+1,(List.range j).map fc++[fc j]⟩) h hc ho fun b e=>by
  have e:vd.ownBlock=some b:=e;rcases aL with h1|h1
  ·exact .inl (by rw[<-e,h1];rfl)
  ·rw[h1] at e;injection e with e;have:=hb.size;exact .inr (by omega)
 have h2:Below n w w2:=hc.below hn fun b e=>(h.lt false b e).1;have hbx:=st.rws.cell true (g:=ob) (by rw[zkb (by simp)];rfl) (o:=0) (by rw[zkb (by simp)];rfl) (u:=vc);have hfz:=st.rws.frozen true (g:=ob) (by rw[zkb (by simp)];rfl) 0;have st2:=Stp.set (i:=true) st.rws (g:=ob) (by rw[zkb (by simp)];rfl) (o:=0) (by rw[zkb (by simp)];show 0<3;decide) vd;refine⟨?_,h2,hbx,hfz,h2.trans (st2.chg.below (Nat.le_trans hn h2.size) fun b ⟨i,hb⟩=>(st.rws.lt i b hb).1)⟩;have e:updR (updR (famO vc ob j fc) false ⟨vd,30,1,j+1,(List.range j).map fc++[fc j]⟩) true { updR (famO vc ob j fc) false ⟨vd,30,1,j+1,(List.range j).map fc++[fc j]⟩ true with xs:=(updR (famO vc ob j fc) false ⟨vd,30,1,j+1,(List.range j).map fc++[fc j]⟩ true).xs.set 0 vd }=famO vd ob (j+1) fc:=by
  funext i
  cases i
  ·rw[zkb (by simp),zkk];simp[famO,List.range_succ]
  ·rw[zkk,zkb (by simp)];rfl
 rw[<-e];exact st2.rws
def IntB (w:World) (q:Nat):Prop:=∃ (cs:Array Value) (E:TypeId) (f:Nat×Nat) (o:Nat) (x:Int),w.heap[q]?=some (.cells cs E f)/\cs[o]?=some (.int .i64 x)
theorem RowI.int {w:World} {S:Nat->Prop} {A:Option Addr} {xs:List Int} (h:RowI w S A xs):RowI w (IntB w) A xs:=fun i hi=>by
 obtain⟨a,hA,-,h1,h2⟩:=h i hi;refine⟨a,hA,?_,h1,h2⟩;unfold World.cell? at h1;rw[zkv] at h1
 cases hq:w.heap[a.block]? with
 | none=>rw[hq] at h1;cases h1
 | some ob =>
  rw[hq] at h1
  cases ob with
  | cells cs E f =>
   dsimp only at h1
   split at h1
   ·cases h1
   ·exact⟨cs,E,f,_,_,hq,h1⟩
  | _=>cases h1
theorem zw8 {w:World} {n0 n:Nat} {r:RS} {vc vi vo:Value} {fc:Nat->Value} (hw:r.S.WF) (hn:n<=r.S.nc) (h1000:n<=1000) (hb:r.S.base.cs=List.range n) (hl:r.S.base.loc=0) (hc:w.ownsRow n0 30 1 vc n ((List.range n).map fc)) (hi:∃ A c,vi=.slice A r.S.tin.length c/\r.S.tin.length<=c/\RowI w Any A r.S.tin) (ho:∃ A c,vo=.slice A r.S.tout.length c/\r.S.tout.length<=c/\RowI w Any A r.S.tout)
  (hf:∀ i,i<n->∃ A c,fc i=.slice A (r.S.cell i).length c/\(r.S.cell i).length<=c/\RowI w Any A (r.S.cell i)):SV w (fun q=>n0<=q\/IntB w q) r.S.state (.agg #[vc,vi,vo]):=by
 have e:r.S.state.cells=(List.range n).map r.S.cell:=by
  simp only[ST.state,hb,hl,List.length_range,Nat.sub_zero,List.take_of_length_le (Nat.le_refl _)];rw[List.take_of_length_le (by simp)]
 have el:r.S.state.cells.length=n:=by rw[e];simp
 obtain⟨A,c,rfl,hcc,-⟩:=zkh hc;obtain⟨B,d,rfl,h1,h2⟩:=hi;obtain⟨D,g,rfl,h3,h4⟩:=ho;obtain⟨-,h5,h6⟩:=zqr hw;have hmono:∀ {A:Option Addr} {l:List Int},RowI w Any A l->RowI w (fun q=>n0<=q\/IntB w q) A l:=fun h=>h.int.keep (fun _ h _=>.inr h) fun _ _ _=>rfl;refine⟨A,c,B,d,D,g,by rw[el];rfl,fun i hi=>?_,hmono h2,hmono h4,by rw[el];exact hcc,h1,h3,h5⟩;have hi2:i<n:=el▸hi;have ei:r.S.state.cells[i]=r.S.cell i:=by simp[e]
 obtain⟨Ai,ci,g1,g2,g3⟩:=hf i hi2;obtain⟨q,cq,eq,-,-,hq⟩:=zkZ hc (by omega);injection eq with eq;subst eq;refine⟨⟨q,0,none⟩,Ai,ci,rfl,.inl (hc.lt q rfl).1,?_,by rw[ei];exact g2,by rw[ei];exact hmono g3⟩;rw[Addr.add_lit,Nat.zero_add,hq i (by omega),ei,<-g1];simp[hi2]
end Go.Proofs.YtmbbaccjcekhkaaGreat
