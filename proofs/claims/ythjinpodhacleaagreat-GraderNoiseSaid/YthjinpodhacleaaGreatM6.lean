
/-
  Texts of the proof, put together without their remarks: Ir, Stn, Enp, Enq, En1, En2, En3, En4, Rfv, En5, En6, En7, En8, Eno, Els, Wgo, Rfg, Rfx, Asp, Ssp, Sgr, Ie, Is.
-/
import Derived.Test.YthjinpodhacleaaGreatM5
import Derived.Recover
set_option linter.unusedSimpArgs false
set_option linter.unusedVariables false
set_option maxHeartbeats 8000000
set_option maxRecDepth 100000
namespace Go.Proofs.YthjinpodhacleaaGreat
open Tryz
section
open Go Go.RowKit
abbrev zlM(x:Int):Ending:=.panicked [{ v:=.iface 175 (.agg #[zi x]),recovered:=false }]
theorem zqz(x:Int)(hx:x≠0)(w:World):Calls prog 155 #[zi x] w fun e w'=>e=zlM x/\w'=w:=by
 have e1:(x==0)=false:=by simpa using hx
 have hb:∀w,(Instr.build 175 #[(0,zi x)]).run prog w=.ok (.agg #[zi x]) w:=fun w=>zK
 go_enter func155,ntmps155;go_wp2_with fail;exact⟨rfl,rfl,rfl⟩
theorem znV{W W':World}{base:Nat}{E:TypeId}{size:Nat}{v:Value}{n:Nat}{xs:List Value}(h:W.ownsRow base E size v n xs)(hk:∀b,v.ownBlock=some b->W'.heap[b]?=W.heap[b]?):W'.ownsRow base E size v n xs:=by
 obtain⟨e1,h2⟩:=h;refine⟨e1,?_⟩;rcases h2 with h2|⟨g,cap,cur,rfl,hb,hg,rest⟩
 ·exact .inl h2
 ·exact .inr ⟨g,cap,cur,rfl,hb,(hk g rfl).trans hg,rest⟩
structure RC where
 w:World
 n0:Nat
 sb:Nat
 rb:Nat
 p:PG
 A1:Option Addr
 c1:Nat
 A2:Option Addr
 c2:Nat
 A3:Option Addr
 c3:Nat
 F:Int
 ev:Value
 kb:Nat->Prop
structure RC.Ok(C:RC):Prop where
 pg:PgR C.w Any C.p C.A1 C.c1 C.A2 C.c2 C.A3 C.c3
 F:I64 C.F
 F6:C.F<=1000000
 rb:C.n0<=C.rb/\¬ C.kb C.rb
 ev:C.ev.ownBlock≠some C.rb/\∀b,C.ev.ownBlock=some b->¬ C.kb b
 ps:∀q∈C.p.prs,q.ps.length<=1000
def RC.cells(C:RC)(n:Nat):Array Value := #[.slice C.A1 C.p.vs.length C.c1,.slice C.A2 C.p.prs.length C.c2,zj C.p.m.k,zi C.p.m.n,.string C.p.m.s,.slice C.A3 C.p.m.ks.length C.c3,.pointer (some ⟨C.sb,0,none⟩),zi n,zi C.F,C.ev]
def FB(j:Nat)(S:ST):Prop:=S.base.vs.length<=1000+j/\∀f∈S.calls,f.vs.length<=1000+j
structure RI(C:RC)(W:World)(r:RS):Prop where
 ks:KS C.w C.n0 C.sb (fun b=>C.kb b\/b=C.rb\/C.ev.ownBlock=some b) W r.S
 box:W.heap[C.rb]?=some (.cells (C.cells r.n) 127 (0,0))
 ent:W.ownsRow C.n0 3 1 C.ev r.ent.length (zki (r.ent.map Int.ofNat))
 el:r.ent.length=C.p.prs.length
 en:∀c∈r.ent,c<=r.n
 n:(r.n:Int)<=1000000
 fb:FB r.n r.S
section
variable {C:RC} {W W' W'':World} {r r':RS}
theorem RI.below(h:RI C W r):Below C.w.heap.size C.w W:=h.ks.bl
theorem RI.later(h:RI C W r)(hb:zw W W'):RI C W' r:=⟨h.ks.later hb,zkc h.box hb,zkK h.ent hb,h.el,h.en,h.n,h.fb⟩
def RunP(C:RC)(W:World)(o:Out)(e:Ending)(W':World):Prop :=
 Kpt C.n0 C.kb W W'/\Below C.w.heap.size C.w W'/\match o with
 | .gas=>True
 | .err x=>e=zlM x
 | .ok r=>(∃u,e=.returned u)/\RI C W' r
theorem RI.cells(h:RI C W r):W.cell? ⟨C.rb,6,none⟩=some (.pointer (some ⟨C.sb,0,none⟩))/\W.cell? ⟨C.rb,7,none⟩=some (zi r.n)/\W.cell? ⟨C.rb,8,none⟩=some (zi C.F)/\W.cell? ⟨C.rb,9,none⟩=some C.ev/\∀o,W.frozen? ⟨C.rb,o,none⟩=false :=
 ⟨zc h.box rfl,zc h.box rfl,zc h.box rfl,zc h.box rfl,fun _=>zf h.box⟩
theorem FB.mono{j k:Nat}{S:ST}(h:FB j S)(hk:j<=k):FB k S:=⟨by have:=h.1;omega,fun f hf=>by have:=h.2 f hf;omega⟩
theorem Kpt.chg{n0:Nat}{kb Cc:Nat->Prop}(h:Chg Cc W W')(hC:∀b,Cc b->n0<=b/\¬ kb b):Kpt n0 kb W W' :=
 ⟨h.size,fun b hb hk=>h.block b hb fun hc=>by rcases hk with hk|hk;have:=(hC b hc).1;omega;exact(hC b hc).2 hk⟩
theorem RI.tick(hC:C.Ok)(h:RI C W r)(hF:(r.n:Int)<C.F):RI C (W.setCell ⟨C.rb,7,none⟩ (zi ((r.n:Int)+1))) { r with n:=r.n+1 }/\Kpt C.n0 C.kb W (W.setCell ⟨C.rb,7,none⟩ (zi ((r.n:Int)+1))):=by
 have hch:Chg (fun b=>b=C.rb) W (W.setCell ⟨C.rb,7,none⟩ (zi ((r.n:Int)+1))):=(Chg.refl (fun b=>b=C.rb) W).setCell (p:=⟨C.rb,7,none⟩) (.inl rfl) _;have hn:=h.ks.hn;refine⟨⟨h.ks.chg hch fun b _ e=>⟨by have:=hC.rb.1;omega,.inr (.inr (.inl e))⟩,?_,znV h.ent fun b hb=>?_,h.el,fun c hc=>by have:=h.en c hc;simp only;omega,by have:=hC.F6;simp only;omega,h.fb.mono (Nat.le_succ _)⟩,Kpt.chg hch fun b e=>⟨by have:=hC.rb.1;omega,by rw[e];exact hC.rb.2⟩⟩
 ·have:=heap_setCell_same W C.rb 7 _ _ (zi ((r.n:Int)+1)) h.box;rw[this];simp[RC.cells]
 ·have hne:b≠C.rb:=fun e=>hC.ev.1 (by rw[hb,e]);have hlt:=(h.ent.lt b hb).2;exact hch.block b hlt hne
end
theorem zl9{C:RC}(hC:C.Ok){W:World}{r:RS}(h:RI C W r):Calls prog 135 #[.pointer (some ⟨C.rb,0,none⟩)] W (RunP C W (zkA C.F r)):=by
 obtain⟨-,y7,y8,-,yf⟩:=h.cells;have iB:=h.n;obtain⟨rb,hrb⟩:=zX (C.rb);obtain⟨F,hF⟩:=zX (C.F);obtain⟨n,hn⟩:=zX (r.n);have HS:=zh (show(fun w':World=>zv w' rb 7 (zi n)/\zv w' rb 8 (zi F)) W.drew from⟨by rw[<-hrb,<-hn];exact y7,by rw[<-hrb,<-hF];exact y8⟩);have hd:zw W W.drew:=zr.drew;have HK:=zh (show Kpt C.n0 C.kb W W.drew/\Below C.w.heap.size C.w W.drew from⟨Kpt.of_below hd,zka h.below hd⟩);have HT:=zh (fun hlt=>RI.tick hC h hlt);have dK:=zh h.below;have yf':∀o,W.drew.frozen? ⟨rb,o,none⟩=false:=by rw[<-hrb];exact yf
 rw[hrb]at HT;rw[hn]at HT iB;rw[hF]at HT;by_cases hlt:F<=(n:Int)
 ·have HO:=zh (show zkA C.F r=.err 18 by unfold zkA;rw[if_pos (by rw[hF,hn];exact hlt)]);rw[hrb];clear h y7 y8 yf hrb hF hn HT;go_enter func135,ntmps135;go_upto_region 0 with fail
  go_region_held3 (fun w':World=>zv w' rb 7 (zi n)/\zv w' rb 8 (zi F))
   (with_reducible exact HS.out)
   (first|fail)
  go_wp2_with fail;refine(zqz 18 zY _).mono ?_;rintro e w1 ⟨rfl,rfl⟩;refine⟨rfl,?_⟩;rw[HO.out];exact⟨HK.out.1,HK.out.2,rfl⟩
 ·have hw1:IntKind.i64.wrap ((n:Int)+1)=(n:Int)+1:=IntWalk.i64_in _ zO;have HO:=zh (show zkA C.F r=.ok { r with n:=n+1 } by unfold zkA;rw[if_neg (by rw[hF,hn];exact hlt),hn]);have HT2:=zh (HT.out zO);rw[hrb];have hlt':¬ F<=(n:Int):=hlt;clear h y7 y8 yf hrb hF hn HT;go_enter func135,ntmps135;go_upto_region 0 with fail
  go_region_held3 (fun w':World=>zv w' rb 7 (zi n)/\zv w' rb 8 (zi F))
   (with_reducible exact HS.out)
   (first|fail)
  obtain⟨z7,z8⟩:=HS.out;go_wp2_with fail;go_end0;rw[HO.out];have hd2:∀W:World,zw W W.drew:=fun W=>zr.drew;exact⟨HT2.out.2.trans (Kpt.of_below (hd2 _)),(HT2.out.1.later (hd2 _)).below,⟨_,rfl⟩,HT2.out.1.later (hd2 _)⟩
theorem zlk(p:Addr)(x:Int)(w:World):Calls prog 136 #[.pointer (some p),zi x] w fun e w'=>w'=w/\((x=0/\∃u,e=.returned u)\/(x≠0/\e=zlM x)):=by
 by_cases hx:x=0
 ·subst hx;go_enter func136,ntmps136;go_wp2_with fail;go_end0;exact⟨rfl,.inl ⟨trivial,_,rfl⟩⟩
 ·have e1:(x != 0)=true:=by simpa using hx
  go_enter func136,ntmps136;go_wp2_with fail;refine(zqz x hx _).mono ?_;rintro e w1 ⟨rfl,rfl⟩;exact⟨rfl,rfl,.inr ⟨hx,rfl⟩⟩
theorem zxW:IsFn prog 167 f167:=⟨func167,zK,zK⟩
theorem zLo(w:World)(n0 sb:Nat)(kb:Nat->Prop)(S:ST)(hw:S.WF):zss 167 f167 (.pointer (some ⟨sb,0,none⟩)) (fun W=>KS w n0 sb kb W S) S.look where
 isFn:=zxW
 later:=fun _ _ h hb=>h.later hb
 fits:=(zvg 0 ⟨0,0,undef,undef,undef,undef,undef,fun _=>undef,fun _=>undef,fun _=>0,fun _=>undef⟩ S hw).fits
 call:=fun s W h=>by
  refine(h.cell s).mono ?_;rintro e W' ⟨v,l,b,rfl,hlk,hl0,ho,hf,hb⟩;refine⟨hb,?_⟩
  cases b
  ·obtain rfl:=hl0 rfl;obtain⟨A,c,rfl,-⟩:=zkh ho;exact .inl ⟨by simpa using hlk,A,c,rfl⟩
  ·obtain⟨A,c,rfl,-,hr⟩:=zrX ho hf;exact .inr ⟨l,A,c,by simpa using hlk,rfl,hr⟩
theorem zyy{f:FuncId}{fn:Func}{rv:Value}{Rd:World->Prop}{look:ByteArray->Option (List Int)}(hL:zss f fn rv Rd look)(t:T)(v:Value)(w:World)(hv:NV w Any t v)(hR:Rd w) :
  Calls prog 166 #[v,.func (.func f) #[rv] #[]] w (zu (.tuple #[.bool (decide ((zli look t).1≠0)),zi (zli look t).2]) w):=by
 have HV:=zh hv;obtain⟨A,c,rfl,-⟩:=hv.open_;have rq:=zh (fun w' (hb:zw w w')=>zqA hL t _ w' (hv.later hb) (hL.later _ _ hR hb));obtain⟨⟨x,y⟩,hx⟩:=zX (zli look t);rw[hx]at rq ⊢;dsimp only[NumE]at rq ⊢;clear hv hR hx;go_enter func166,ntmps166;have hb0:=zkb (zs w) (.cells #[zj t.k,zi t.n,.string t.s,.slice A t.ks.length c] 28);have HB0:=zh hb0;obtain⟨x0,x1,x2,x3⟩:=box4 (heap_alloc_new w (.cells #[zj t.k,zi t.n,.string t.s,.slice A t.ks.length c] 28));clear hb0;go_wp2_with fail;refine(rq.out _ HB0.out).mono ?_;rintro e w1 ⟨rfl,aa⟩;have HB1:=zh (zka HB0.out aa);clear aa x0 x1 x2 x3;by_cases h0:x=0
 ·subst h0;go_wp2_with fail;go_ret2;exact⟨zS,HB1.out⟩
 ·have e1:(x != 0)=true:=by simpa using h0
  go_wp2_with fail;go_ret2;exact⟨by simp[h0],HB1.out⟩
def RC.plus(C:RC)(lo hi:Nat):RC:={ C with kb:=fun b=>C.kb b\/(lo<=b/\b<hi) }
section
variable {C:RC} {W W' W'':World} {r r':RS} {lo hi:Nat}
theorem RI.rlt(h:RI C W r):C.rb<W.heap.size:=zkf h.box
theorem RI.plus(hC:C.Ok)(h:RI C W r)(hb:zw W W'):(C.plus W.heap.size W'.heap.size).Ok/\RI (C.plus W.heap.size W'.heap.size) W' r:=by
 have h1:=h.rlt;refine⟨⟨hC.pg,hC.F,hC.F6,⟨hC.rb.1,fun hk=>?_⟩,⟨hC.ev.1,fun b hb' hk=>?_⟩,hC.ps⟩,⟨h.ks.also hb fun b hk=>?_,zkc h.box hb,zkK h.ent hb,h.el,h.en,h.n,h.fb⟩⟩
 ·rcases hk with hk|hk
  ·exact hC.rb.2 hk
  ·have:W.heap.size<=C.rb:=hk.1;omega
 ·rcases hk with hk|hk
  ·exact hC.ev.2 b hb' hk
  ·have:=(h.ent.lt b hb').2;have:=hk.1;omega
 ·rcases hk with(hk|hk)|hk|hk
  ·exact .inl (.inl hk)
  ·exact .inr hk
  ·exact .inl (.inr (.inl hk))
  ·exact .inl (.inr (.inr hk))
theorem RI.less(h:RI (C.plus lo hi) W r):RI C W r :=
 ⟨h.ks.less fun b hk=>hk.elim (fun hk=>.inl (.inl hk)) .inr,h.box,h.ent,h.el,h.en,h.n,h.fb⟩
theorem Kpt.less(h:Kpt C.n0 (C.plus lo hi).kb W W'):Kpt C.n0 C.kb W W':=⟨h.size,fun b hb hk=>h.kept b hb (hk.imp id .inl)⟩
theorem Kpt.plus{b o:Nat}{u:Value}(h:Kpt C.n0 (C.plus lo hi).kb W W')(hb:lo<=b/\b<hi)(hc:W.cell? ⟨b,o,none⟩=some u):W'.cell? ⟨b,o,none⟩=some u:=h.cell (.inr (.inr hb)) hc
end
def zMe(C:RC)(W:World)(t:T)(r:RS)(e:Ending)(W':World):Prop :=
 Kpt C.n0 C.kb W W'/\Below C.w.heap.size C.w W'/\((∃x,e=zlM x/\∀f,zk7 C.F t r f=.err x)\/∃b r',e=.returned (.bool b)/\RI C W' r'/\∀f,zk7 C.F t r f=f b r')
theorem zoT{C:RC}(hC:C.Ok){W:World}{r:RS}(h:RI C W r)(t:T)(v:Value)(hv:NV C.w Any t v):Calls prog 152 #[.pointer (some ⟨C.rb,0,none⟩),v] W (zMe C W t r):=by
 have HV:=zh hv;obtain⟨A,c,rfl,-⟩:=hv.open_;have yM:∀(fn:Fn) (first cap:Array Value) (w:World),(Instr.makeFunc fn first cap).run prog w=.ok (.func fn first cap) w:=fun _ _ _ _=>rfl;have hb0:=zkb (zs W) (.cells #[zj t.k,zi t.n,.string t.s,.slice A t.ks.length c] 28);obtain⟨bz,h1⟩:=h.plus hC hb0;have hz1:(W.alloc (.cells #[zj t.k,zi t.n,.string t.s,.slice A t.ks.length c] 28)).heap.size=W.heap.size+1:=zS
 have hbx:=box4 (heap_alloc_new W (.cells #[zj t.k,zi t.n,.string t.s,.slice A t.ks.length c] 28));have aG:=zh (Kpt.of_below (n0:=C.n0) (kb:=C.kb) hb0);obtain⟨W1,hW1⟩:=zX (W.alloc (.cells #[zj t.k,zi t.n,.string t.s,.slice A t.ks.length c] 28));rw[hW1]at bz h1 hz1 hbx aG;have lW:=zh bz;have H1:=zh h1;have HST:=zh (zl9 bz h1);obtain⟨hi,hhi⟩:=zX (W1.heap.size);rw[hhi]at lW H1 HST hz1;have aR:=zh hbx;have HZ1:=zh (show W.heap.size<hi by omega);clear hv bz h1 hbx hb0 h hhi hz1;go_enter func152,ntmps152;go_wp2_with fail;refine HST.out.mono ?_;rintro e w1 ⟨hk1,hbl1,ho1⟩;have aC:=zh (aG.out.trans (Kpt.less (C:=C) hk1));have HB1:=zh hbl1
 cases hs:zkA C.F r with
 | gas=>exact absurd hs (zkt _ _).1
 | err x =>
  rw[show zkA (C.plus W.heap.size hi).F r=zkA C.F r from rfl,hs]at ho1;subst ho1;exact⟨rfl,aC.out,HB1.out,.inl ⟨x,rfl,fun f=>by unfold zk7;rw[hs];rfl⟩⟩
 | ok r1 =>
  rw[show zkA (C.plus W.heap.size hi).F r=zkA C.F r from rfl,hs]at ho1;obtain⟨⟨u,rfl⟩,hr1⟩:=ho1;have x0:=Kpt.plus (C:=C) hk1 (b:=W.heap.size) ⟨zl,HZ1.out⟩ aR.out.1;have x1:=Kpt.plus (C:=C) hk1 (b:=W.heap.size) ⟨zl,HZ1.out⟩ aR.out.2.1;have x2:=Kpt.plus (C:=C) hk1 (b:=W.heap.size) ⟨zl,HZ1.out⟩ aR.out.2.2.1;have x3:=Kpt.plus (C:=C) hk1 (b:=W.heap.size) ⟨zl,HZ1.out⟩ aR.out.2.2.2;have HS:=zh hs;have HR1:=zh hr1.less;obtain⟨y6,-⟩:=hr1.cells;have y6':w1.cell? ⟨C.rb,6,none⟩=some (.pointer (some ⟨C.sb,0,none⟩)):=y6;have uD:=zh (fun w' (hb:zw w1 w')=>zyy (zLo C.w C.n0 C.sb _ r1.S HR1.out.ks.wf) t _ w' (HV.out.later (zka HR1.out.below hb)) (HR1.out.ks.later hb));obtain⟨⟨x,y⟩,hx⟩:=zX (zli r1.S.look t);rw[hx]at uD;dsimp only at uD;obtain⟨bb,hbb⟩:=zX (decide (x≠0));rw[hbb]at uD;have lQ:=zh hx;have HBBB:=zh hbb;clear hbb hk1 hbl1 hs hr1 y6 hx HST aR
  have az:=zh (show ∀w',zw w1 w'->(fun w':World=>zv w' W.heap.size 0 (zj t.k)/\zv w' W.heap.size 1 (zi t.n)/\zv w' W.heap.size 2 (.string t.s)/\zv w' W.heap.size 3 (.slice A t.ks.length c)/\zv w' C.rb 6 (.pointer (some ⟨C.sb,0,none⟩))) w' from fun w' hb=>⟨zb hb x0,zb hb x1,zb hb x2,zb hb x3,zb hb y6'⟩);have ig:=zh (az.out _ zr.drew);clear x0 x1 x2 x3 y6';go_upto_region 2 with fail
  go_region_held3 (fun w':World=>zv w' W.heap.size 0 (zj t.k)/\zv w' W.heap.size 1 (zi t.n)/\zv w' W.heap.size 2 (.string t.s)/\zv w' W.heap.size 3 (.slice A t.ks.length c)/\zv w' C.rb 6 (.pointer (some ⟨C.sb,0,none⟩)))
   (first|with_reducible exact bI.out|with_reducible exact ig.out)
   (first
    | (go_at_call 166;refine(uD.out _ zr.drew).mono ?_;rintro e y1 ⟨rfl,bE⟩;have b1:=zka (zs w1).drew bE;have bI:=zh (az.out _ b1))
    | fail)
  have HB2:=zh b1;clear b1 bE bI;go_wp2_with fail;refine(zlk _ y _).mono ?_;rintro e w3 ⟨rfl,hcs⟩;rcases hcs with⟨rfl,u2,rfl⟩|⟨hy,rfl⟩
  ·go_wp2_with fail;go_ret;refine⟨aC.out.trans (Kpt.of_below HB2.out),zka HB1.out HB2.out,.inr ⟨bb,r1,rfl,HR1.out.later HB2.out,fun f=>?_⟩⟩;unfold zk7;rw[HS.out];simp only[Out.bind,valO,lQ.out];simp[<-HBBB.out]
  ·refine⟨rfl,aC.out.trans (Kpt.of_below HB2.out),zka HB1.out HB2.out,.inl ⟨y,rfl,fun f=>?_⟩⟩;unfold zk7;rw[HS.out];simp only[Out.bind,valO,lQ.out];rw[if_pos hy]
theorem zmU(x:Int):I64 (wrap64 x):=by
 unfold wrap64 I64
 constructor<;>omega
theorem zsW(b:Bool):I64 (numI b):=by
 cases b
 ·exact⟨zY,zY⟩
 ·exact⟨zY,zY⟩
theorem zero_I64:I64 0:=⟨zY,zY⟩
theorem zsC{x y:Int}(h:I64 x):I64 (x.tmod y):=by
 obtain⟨h1,h2⟩:=h;rcases Int.le_total 0 x with h0|h0
 ·have a1:=Int.tmod_nonneg y h0;have a2:(x.tmod y).natAbs<=x.natAbs:=by rw[Int.natAbs_tmod];exact Nat.mod_le _ _
  exact⟨zO,zO⟩
 ·have a1:=Int.tmod_nonneg y (show 0 <= -x by omega);rw[Int.neg_tmod]at a1;have a2:(x.tmod y).natAbs<=x.natAbs:=by rw[Int.natAbs_tmod];exact Nat.mod_le _ _
  exact⟨zO,zO⟩
theorem zyd{k x y:Int}(hx:I64 x):I64 (divE k x y).1:=by
 unfold divE
 repeat' split
 all_goals first|exact zero_I64|exact zmU _|exact zsC hx
theorem zzj(k x:Int):I64 (unE k x).1:=by
 unfold unE
 split
 ·exact zmU _
 ·exact zsW _
theorem zzR{c:Prop}[Decidable c]{a b:Int×Int}(ha:I64 a.1)(hb:I64 b.1):I64 (if c then a else b).1:=by
 split
 ·exact ha
 ·exact hb
theorem zKx{k x y:Int}(hx:I64 x):I64 (apE k x y).1:=by
 unfold apE
 repeat' apply zzR
 all_goals first|exact zmU _|exact zyd hx|exact zsC hx|exact zrE _|exact zsW _|exact zero_I64
theorem zxO{l:List Int}(h:∀x∈l,I64 x)(i:Nat):I64 (l.getD i 0):=by
 rw[List.getD_eq_getElem?_getD];rcases hx:l[i]? with _|x
 ·exact zero_I64
 ·exact h x (List.mem_of_getElem? hx)
theorem zvU{look:ByteArray->Option (List Int)}(hl:∀s l,look s=some l->l.length<=100000/\∀x∈l,I64 x){k n:Int}{s:ByteArray}{rs:List (Int×Int)}(hn:I64 n)(h0:I64 (rs.getD 0 (0,0)).1):I64 (evK look k n s rs).1:=by
 unfold evK
 split
 ·exact hn
 ·split
  ·unfold varE
   split
   ·exact zero_I64
   ·rename_i l hlk;obtain⟨h1,h2⟩:=hl s l hlk
    repeat' split
    all_goals first|exact zxO h2 _|exact zero_I64|exact⟨by simp only;omega,by simp only;omega⟩
  ·repeat' split
   all_goals first|exact zzj _ _|exact zKx h0|exact zero_I64
theorem zvV{look:ByteArray->Option (List Int)}(hl:∀s l,look s=some l->l.length<=100000/\∀x∈l,I64 x){w:World}:∀(m:Nat) (t:T) (v:Value),size t<=m->NV w Any t v->I64 (evE look t).1
 | 0,t,_,h,_=>by obtain⟨k,n,s,ks⟩:=t;rw[size]at h;omega
 | m+1,.nd k n s ks,v,h,hv=>by
  obtain⟨A,c,-,hf,-,-,hrow⟩:=hv.open_;rw[evE];refine zvU hl hf.2.1 ?_;rw[zm6,List.getD_eq_getElem?_getD,List.getElem?_map];rcases hk:ks[0]? with _|u
  ·exact zero_I64
  ·obtain⟨h1,h2⟩:=List.getElem?_eq_some_iff.1 hk;obtain⟨a,u0,u1,u2,u3,-,-,-,hn⟩:=hrow 0 h1;have hs:=zmt (List.getElem_mem h1);rw[size]at h;have:=zvV hl m ks[0] _ zO hn;rw[h2]at this;exact this
theorem zs4{S:ST}(h:S.WF):∀s l,S.look s=some l->l.length<=100000/\∀x∈l,I64 x:=fun s l hl=>by
 obtain⟨i,id,h1,h2,rfl⟩:=ST.look_num hl;obtain⟨kd,hc⟩:=h.cur;have:=h.cells id (hc.num id (List.mem_of_getElem? h2));exact⟨zO,this.2⟩
theorem zx6{S:ST}(h:S.WF){w:World}{t:T}{v:Value}(hv:NV w Any t v):I64 (zli S.look t).1:=by
 unfold zli
 split
 ·exact zvV (zs4 h) _ _ _ zl hv
 ·exact zero_I64
def ValP(C:RC)(W:World)(t:T)(r:RS)(e:Ending)(W':World):Prop :=
 zw W W'/\((∃x,e=zlM x/\∀f,valO t r f=.err x)\/∃x,e=.returned (zi x)/\I64 x/\∀f,valO t r f=f x r)
theorem zqE{C:RC}{W:World}{r:RS}(h:RI C W r)(t:T)(v:Value)(hv:NV C.w Any t v):Calls prog 154 #[.pointer (some ⟨C.rb,0,none⟩),v] W (ValP C W t r):=by
 have HV:=zh hv;obtain⟨A,c,rfl,-⟩:=hv.open_;have yM:∀(fn:Fn) (first cap:Array Value) (w:World),(Instr.makeFunc fn first cap).run prog w=.ok (.func fn first cap) w:=fun _ _ _ _=>rfl;have hb0:=zkb (zs W) (.cells #[zj t.k,zi t.n,.string t.s,.slice A t.ks.length c] 28);have hbx:=box4 (heap_alloc_new W (.cells #[zj t.k,zi t.n,.string t.s,.slice A t.ks.length c] 28));obtain⟨y6,-⟩:=(h.later hb0).cells;have HR:=zh (h.later hb0);have HB0:=zh hb0;obtain⟨w1,hW1⟩:=zX (W.alloc (.cells #[zj t.k,zi t.n,.string t.s,.slice A t.ks.length c] 28));rw[hW1]at hbx HR HB0 y6;obtain⟨x0,x1,x2,x3⟩:=hbx;have uD:=zh (fun w' (hb:zw w1 w')=>zqA (zLo C.w C.n0 C.sb _ r.S HR.out.ks.wf) t _ w' (HV.out.later (zka HR.out.below hb)) (HR.out.ks.later hb));obtain⟨⟨x,y⟩,hx⟩:=zX (zli r.S.look t);rw[hx]at uD;have lQ:=zh hx
 have az:=zh (show ∀w',zw w1 w'->(fun w':World=>zv w' W.heap.size 0 (zj t.k)/\zv w' W.heap.size 1 (zi t.n)/\zv w' W.heap.size 2 (.string t.s)/\zv w' W.heap.size 3 (.slice A t.ks.length c)/\zv w' C.rb 6 (.pointer (some ⟨C.sb,0,none⟩))) w' from fun w' hb=>⟨zb hb x0,zb hb x1,zb hb x2,zb hb x3,zb hb y6⟩);have ig:=zh (az.out _ zr.drew);clear hv hb0 hx x0 x1 x2 x3 y6 h;go_enter func154,ntmps154;go_upto_region 1 with fail;clear hW1
 go_region_held3 (fun w':World=>zv w' W.heap.size 0 (zj t.k)/\zv w' W.heap.size 1 (zi t.n)/\zv w' W.heap.size 2 (.string t.s)/\zv w' W.heap.size 3 (.slice A t.ks.length c)/\zv w' C.rb 6 (.pointer (some ⟨C.sb,0,none⟩)))
  (first|with_reducible exact bI.out|with_reducible exact ig.out)
  (first
   | (go_at_call 168;refine(uD.out _ zr.drew).mono ?_;rintro e y1 ⟨rfl,bE⟩;have b1:=zka (zs w1).drew bE;have bI:=zh (az.out _ b1))
   | fail)
 have HB2:=zh (zka HB0.out b1);clear b1 bE bI;go_wp2_with fail;refine(zlk _ y _).mono ?_;rintro e w3 ⟨rfl,hcs⟩;rcases hcs with⟨rfl,u2,rfl⟩|⟨hy,rfl⟩
 ·go_wp2_with fail;go_ret;refine⟨HB2.out,.inr ⟨x,rfl,?_,fun f=>?_⟩⟩
  ·have:=zx6 HR.out.ks.wf HV.out;rw[lQ.out]at this;exact this
  ·unfold valO;rw[lQ.out];simp
 ·refine⟨rfl,HB2.out,.inl ⟨y,rfl,fun f=>?_⟩⟩;unfold valO;rw[lQ.out,if_pos hy]
theorem zm9{C:RC}(hC:C.Ok){W:World}{r:RS}(h:RI C W r)(t:T)(v:Value)(hv:NV C.w Any t v)(b:Bool):Calls prog 153 #[.pointer (some ⟨C.rb,0,none⟩),v,.bool b] W (RunP C W (zkp C.F t b r)):=by
 have HV:=zh hv;obtain⟨A,c,rfl,-⟩:=hv.open_;have hb0:=zkb (zs W) (.cells #[zj t.k,zi t.n,.string t.s,.slice A t.ks.length c] 28);obtain⟨x0,x1,x2,x3⟩:=box4 (heap_alloc_new W (.cells #[zj t.k,zi t.n,.string t.s,.slice A t.ks.length c] 28));have aG:=zh (Kpt.of_below (n0:=C.n0) (kb:=C.kb) hb0);have iN:=zh (zoT hC (h.later hb0) t _ hv);clear hv hb0 h;go_enter func153,ntmps153;go_wp2_with fail;refine iN.out.mono ?_;rintro e w1 ⟨hk1,hb1,ho⟩;have aC:=zh (aG.out.trans hk1);have HB1:=zh hb1;clear hk1 hb1 iN x0 x1 x2 x3 aG;rcases ho with⟨x,rfl,hx⟩|⟨b1,r1,rfl,hr1,hx⟩
 ·refine⟨rfl,aC.out,HB1.out,?_⟩;rw[show zkp C.F t b r=.err x from hx _]
 ·have HX:=zh (show zkp C.F t b r=if b1=b then .ok r1 else .err 15 from hx _);have HR:=zh hr1;clear hr1 hx;by_cases hbb:b1=b
  ·subst hbb;have dP:=zh (show zkp C.F t b1 r=.ok r1 by rw[HX.out,if_pos rfl]);clear HX;go_wp2_with fail;go_end0;refine⟨aC.out,HB1.out,?_⟩;rw[dP.out];exact⟨⟨_,rfl⟩,HR.out⟩
  ·have e1:(b1 != b)=true:=by simpa using hbb
   have e2:(b1==b)=false:=by simpa using hbb
   go_wp2_with fail;refine(zqz 15 zY _).mono ?_;rintro e w2 ⟨rfl,rfl⟩;refine⟨rfl,aC.out,HB1.out,?_⟩;rw[HX.out,if_neg hbb]
def zQS(vs:List VD):SS:=⟨vs.map fun v=>List.replicate (fixE v).toNat 0,[],[]⟩
theorem bMkI(n:Nat)(hn:n<=4096)(w:World):(Instr.makeSlice 42 (zi (n:Int)) (zi (n:Int))).run prog w=.ok (.slice (some ⟨w.heap.size,0,none⟩) n n) (w.alloc (.cells (madeCells #[zi 0] n) 3)):=by
 obtain⟨i,hi,h1,h2,h3⟩:=info_parts zn0;have:=zlf (P:=prog) 42 3 i (zi 0) underlying42 hi h1 .i64 .i64 n n zl (by rw[h3];omega) zO w;rw[h2,Nat.mul_one]at this;exact this
theorem zu6(w:World)(n0 n:Nat)(h:n0<=w.heap.size)(hn:n<=4096):(w.alloc (.cells (madeCells #[zi 0] n) 3)).ownsRow n0 3 1 (.slice (some ⟨w.heap.size,0,none⟩) n n) (List.replicate n (0:Int)).length (zki (List.replicate n 0)) :=
 ⟨by simp[zki],.inr ⟨w.heap.size,n,madeCells #[zi 0] n,zS,h,heap_alloc_new w _,zS,by unfold maxLen;omega,by rw[size_madeCells];simp,by rw[znw];simp[zki]⟩⟩
theorem zrW{W:World}{n0 b3:Nat}{vi:Value}{fc:Nat->Value}{s:SS}(hn:n0<=b3)(h:W.heap[b3]?=some (.cells #[zn,vi,zn] 44 (0,0)))(hv:W.ownsRow n0 3 1 vi 0 [])(hne:vi.ownBlock≠some b3)(h1:s.tin=[])(h2:s.tout=[]) :
  Rws W n0 (zl5 zn vi zn fc b3 s 0):=by
 refine⟨fun i=>?_,fun i j b hij hi hj=>?_⟩
 ·rcases i with _|i
  ·exact zu5 hn h
  ·cases i with
   | all=>exact zr4 _ _ _
   | inp=>simp only[zl5,h1];exact hv
   | out=>simp only[zl5,h2];exact zr4 _ _ _
   | el i=>simp only[zl5,Nat.not_lt_zero,if_false];exact zmb W n0
 ·rcases i with _|i<;>rcases j with _|j
  ·exact hij rfl
  ·cases j<;>simp[zl5,nilR,Value.ownBlock,boxV]at hi hj
   subst hi;exact hne hj
  ·cases i<;>simp[zl5,nilR,Value.ownBlock,boxV]at hi hj
   subst hj;exact hne hi
  ·cases i<;>cases j<;>simp[zl5,nilR,Value.ownBlock]at hi hj hij
theorem zrH{v:VD}(h:vdB v=true):0<=fixE v/\fixE v<=16:=by
 unfold vdB at h;unfold fixE
 split
 ·omega
 ·rename_i h1
  split at h
  ·have:=eq_of_beq h;omega
  ·split at h
   ·have:=of_decide_eq_true h;omega
   ·cases h
theorem zSLim(vs:List VD)(h:svB vs=true):(zQS vs).Lim:=by
 simp only[svB,Bool.and_eq_true,decide_eq_true_eq,List.all_eq_true]at h;refine⟨by simp only[zQS,List.length_map];unfold LI;omega,fun l hl=>?_,Nat.zero_le _,Nat.zero_le _⟩;obtain⟨v,hv,rfl⟩:=List.mem_map.1 hl;have:=zrH (h.2 v hv);rw[List.length_replicate];unfold LI;omega
theorem st3{W:World}{b:Nat}{a0 a1 a2:Value}{ty:TypeId}(v0 v1 v2:Value)(h:W.heap[b]?=some (.cells #[a0,a1,a2] ty (0,0))) :
  ∃W',((W.setCell ⟨b,0,none⟩ v0).setCell ⟨b,1,none⟩ v1).setCell ⟨b,2,none⟩ v2=W'/\Chg (fun q=>q=b) W W'/\W'.heap[b]?=some (.cells #[v0,v1,v2] ty (0,0)):=by
 have hch:Chg (fun q=>q=b) W (((W.setCell ⟨b,0,none⟩ v0).setCell ⟨b,1,none⟩ v1).setCell ⟨b,2,none⟩ v2) :=
  (((Chg.refl (fun q=>q=b) W).setCell (p:=⟨b,0,none⟩) (.inl rfl) _).setCell (p:=⟨b,1,none⟩) (.inl rfl) _).setCell (p:=⟨b,2,none⟩) (.inl rfl) _
 have hh:=heap_setCell_same _ b 2 _ _ v2 (heap_setCell_same _ b 1 _ _ v1 (heap_setCell_same W b 0 _ _ v0 h));exact⟨_,rfl,hch,by simpa using hh⟩
def zMa(vs:List VD)(w:World)(e:Ending)(w':World):Prop:=zw w w'/\∃v er,e=.returned (.tuple #[v,zi er])/\(svB vs=false->er=3/\v=.agg #[zn,zn,zn])/\(svB vs=true->er=0/\OwnS w' w.heap.size (zQS vs) v)
theorem zz1:IsFn prog 79 f79:=⟨func79,zK,zK⟩
theorem zyC(vs:List VD)(A:Option Addr)(c:Nat)(w:World)(hrow:RowV w Any A vs)(hl:vs.length<=LV):Calls prog 69 #[.slice A vs.length c,zn] w (zMa vs w):=by
 have hb1:=zkb (zs w) (.cells #[zn,zn,zn] 44);have hk1:=heap_alloc_new w (.cells #[zn,zn,zn] 44);have h1:=bS12;have ae:=zh hrow;obtain⟨b0,hb0⟩:=zX (svB vs);have HB0:=zh hb0;have dG:=zh (fun w' (hb:zw w w')=>hb0▸zps vs A c w' (hrow.later hb) hl);clear hrow hl hb0;go_enter func69,ntmps69;go_upto_region 1 with fail;obtain⟨w1,hw1⟩:=zX (w.alloc (.cells #[zn,zn,zn] 44));rw[hw1]at hb1 hk1 ⊢;have HB1:=zh hb1;have aC:=zh hk1;clear hw1 hb1 hk1;go_wp2_with fail;refine(dG.out _ HB1.out).mono ?_;rintro e w2 ⟨rfl,hb2⟩;have HB2:=zh (zka HB1.out hb2);have aQ:=zh (zkc aC.out hb2);have q0:w2.cell? ⟨w.heap.size,0,none⟩=some zn:=zc aQ.out rfl;have q1:w2.cell? ⟨w.heap.size,1,none⟩=some zn:=zc aQ.out rfl
 have q2:w2.cell? ⟨w.heap.size,2,none⟩=some zn:=zc aQ.out rfl;have cf:∀j,w2.frozen? ⟨w.heap.size,j,none⟩=false:=fun j=>zf aQ.out;clear hb2
 cases b0
 ·obtain⟨w9,eD,xB,xy⟩:=st3 zn zn zn aQ.out;have bD:=zh (HB2.out.trans (xB.below HB2.out.size fun q e=>by have e:q=w.heap.size:=e;omega));obtain⟨t0,t1,t2⟩:=zl6 xy;clear xB xy;go_wp2_with fail;refine bodyPost_ret (v:=.tuple #[.agg #[zn,zn,zn],zi 3]) (by simp[results,results69,go_sem,t0,t1,t2]) rfl ?_;exact⟨bD.out,_,_,rfl,fun _=>⟨rfl,rfl⟩,fun h=>by rw[HB0.out]at h;cases h⟩
 ·have dJ:=zh (zkT [] none 0 Any w2 (fun i hi=>absurd hi (Nat.not_lt_zero i)) (Nat.zero_le _));have hsv:=HB0.out;simp only[svB,Bool.and_eq_true,decide_eq_true_eq,List.all_eq_true]at hsv;have nz:=zh hsv;have hln:vs.length<=32:=hsv.1;clear hsv;go_wp2_with fail;refine dJ.out.mono ?_;rintro e w3 ⟨vi,rfl,aT,-,kN⟩;have HB3:=zh (zka HB2.out kN);have bU:=zh aT;clear aT q0 q1 q2 cf dJ;obtain⟨B,d,rfl,-⟩:=zkh bU.out;have hk4:=heap_alloc_new w3 (.cells #[zn,zn,zn] 44);have hb4:=zkb (zs w3) (.cells #[zn,zn,zn] 44);obtain⟨w4,hw4⟩:=zX (w3.alloc (.cells #[zn,zn,zn] 44));rw[hw4]at hk4 hb4;obtain⟨b3,hb3⟩:=zX (w3.heap.size);rw[hb3]at hk4;obtain⟨w5,mi,dB,lJ⟩:=st3 zn (.slice B 0 d) zn hk4
  have aS:=zh (HB3.out.trans (hb4.trans (dB.below hb4.size fun q e=>by have e:q=b3:=e;omega) |>.mono HB3.out.size));have qU:=zh (zrW (n0:=w.heap.size+1) (fc:=fun _=>zn) (s:=zQS vs) (by have:=kN.size;have:=zkf aQ.out;omega) lJ (zlu (znV (zkK bU.out hb4) fun q hq=>dB.block q (Nat.lt_of_lt_of_le (bU.out.lt q hq).2 hb4.size) fun e=>by have e:q=b3:=e;have:=(bU.out.lt q hq).2;omega) (by have:=zkf aQ.out;omega)) (fun e=>by have:=(bU.out.lt _ e).2;omega) rfl rfl);obtain⟨d0,d1,d2⟩:=zl6 hk4;have cf:∀j,w4.frozen? ⟨b3,j,none⟩=false:=fun j=>zf hk4;have HH5:=zh lJ;have fM:=zh ((dB.block _ (Nat.lt_of_lt_of_le (zkf aQ.out) (Nat.le_trans (zka zr kN).size hb4.size)) fun e=>by have e:w.heap.size=b3:=e;have:=zkf aQ.out;have:=kN.size;omega).trans (zkc (zkc aQ.out kN) hb4));clear hb4 hk4 dB lJ kN;go_wp2_with fail
  clear hw4 mi d0 d1 d2 cf h1;obtain⟨vi,rP⟩:=zX (Value.slice B 0 d);rw[rP]at qU;have xV:=zh rP;clear rP bU HH5
  go_loopw [22] (fun i wr=>∃j:Nat,j<=vs.length/\i=zi j/\Hid (zw w wr)/\∃vc fc,Hid (Rws wr (w.heap.size+1) (zl5 vc vi zn fc b3 (zQS vs) j))/\Hid (wr.heap[w.heap.size]?=some (.cells #[zn,zn,zn] 44 (0,0)))) (fun i _=>vs.length-(intOf i).toNat)
  case atStart=>exact⟨0,Nat.zero_le _,rfl,aS,_,_,qU,fM⟩
  case round =>
   clear qU aS fM;obtain⟨j,hj,rfl,ag,vc,fc,HRW,HK⟩:=hrel;by_cases hlt:j<vs.length
   ·have hj1:(j:Int)<(vs.length:Int):=zO
    have hj0:(0:Int)<=(j:Int):=zO
    obtain⟨a,v,rfl,-,Hv,⟨p0,p1,p2⟩,hf⟩:=(ae.out.later ag.out).nd hlt;have hfx:=zrH (nz.out.2 _ (List.getElem_mem hlt));rw[Hv.out]at hfx;obtain⟨m,hm⟩:=zX ((fixE v).toNat);have hm2:fixE v=(m:Int):=zO
    have hm3:m<=4096:=zO
    have vJ:=zh (fun w'=>hm2▸zrj v w');have hgd:(zQS vs).cells.getD j []=List.replicate m 0:=by
     rw[<-hm,<-Hv.out];simp[zQS,List.getD_eq_getElem?_getD,List.getElem?_map,List.getElem?_eq_getElem hlt]
    have HGD:=zh hgd;obtain⟨oL,vk,vn⟩:=v;simp only at p0 p1 p2;have hbx:=zl2 (HRW.out.row none);obtain⟨Av,cv,cZ,-⟩:=zkh (HRW.out.row (some .all));change vc=.slice Av j cv at cZ;subst cZ;have lI:=heap_alloc_new wr (.cells #[.string oL,zj vk,zi vn] 38);have dM:=zkb (zs wr) (.cells #[.string oL,zj vk,zi vn] 38);obtain⟨w9,eD⟩:=zX (wr.alloc (.cells #[.string oL,zj vk,zi vn] 38));rw[eD]at lI dM;have bD:=zh dM;have uJ:=zh (HRW.out.later bD.out);obtain⟨e0,e1,e2⟩:=zl6 lI;have hbx:=zl2 (uJ.out.row none);have x0:w9.cell? ⟨b3,0,none⟩=some (.slice Av j cv):=zc hbx rfl;clear lI dM hgd hm2 hfx hf;go_upto_region 9 with fail;clear eD p0 p1 p2;obtain⟨vb,hvb⟩:=zX (wr.heap.size);have bg:=zh hvb;rw[hvb]at e0 e1 e2 ⊢
    have hS0:(fun w':World=>zN3 w' vb (.string oL) (zj vk) (zi vn)) w9.drew/\(fun w':World=>zv w' b3 0 (.slice Av j cv)) w9.drew:=⟨⟨e0,e1,e2⟩,x0⟩
    have az:=zh (show ∀w',zw w9 w'->(fun w':World=>zN3 w' vb (.string oL) (zj vk) (zi vn)) w'/\(fun w':World=>zv w' b3 0 (.slice Av j cv)) w' from fun w' h=>⟨⟨zb h e0,zb h e1,zb h e2⟩,zb h x0⟩);obtain⟨i0,hi0,hq0,hq1,hq2⟩:=info_parts zuL;refine wp_region_noPanic ?_;refine zkl (fun w':World=>zN3 w' vb (.string oL) (zj vk) (zi vn)) (fun w':World=>zv w' b3 0 (.slice Av j cv)) 8 zK ?_;clear e0 e1 e2 x0 hvb;refine zT 0 hS0 ?_;refine zJ 1 hS0 ?_;refine zT 2 hS0 ?_;refine zo 3 fun K hK=>?_;have had:Calls prog 79 [.agg #[.string oL,zj vk,zi vn]].toArray w9.drew fun e w'=>∃u,e=.returned u/\(u=zi (m:Int)/\zw w9 w') :=
     (vJ.out _).mono fun e w' ⟨h1,h2⟩=>⟨_,h1,rfl,zka (zs w9).drew h2⟩
    refine zke zR (.func 79) [.tmp 28] _ zR 79 _ zz1 zR _ zR _ had ?_;rintro v8 wb ⟨rfl,hbb⟩;have dK:=zh hbb;refine hK.out _ _ (az.out _ hbb) ?_;clear hK K hS0 hbb had;(try simp only[zQ]);have hmk:=bMkI m hm3 wb;refine zo 4 fun K hK=>?_;(try simp only[zA,zB,zC]);go_simp;have hb4:=zka dK.out (zkb (zs wb) (.cells (madeCells #[zi 0] m) 3));have hsz:=ag.out.size;have hd1:=(uJ.out.later dK.out).upd (some (.el j)) (r:=⟨.slice (some ⟨wb.heap.size,0,none⟩) m m,3,1,(List.replicate m (0:Int)).length,zki (List.replicate m 0)⟩) (Chg.of_below (zkb (zs wb) (.cells (madeCells #[zi 0] m) 3))) (zu6 wb (w.heap.size+1) m (by have:=bD.out.size;have:=dK.out.size;have:=zkf HK.out;omega) hm3) (fun b hb=>.inr (by have hb:some wb.heap.size=some b:=hb;injection hb with hb;omega));have HD1:=zh hd1;have ay:=zh hb4
    obtain⟨g,hg⟩:=zX (wb.heap.size);obtain⟨wx,hwx⟩:=zX (wb.alloc (.cells (madeCells #[zi 0] m) 3));rw[hwx]at HD1 ay ⊢;rw[hg]at HD1 ⊢;refine hK.out _ _ (az.out _ ay.out) ?_;clear hK K hmk hd1 hb4 hwx hg uJ;(try simp only[zQ]);have h1:=zLv;refine zo 5 fun K hK=>?_;(try simp only[zA,zB,zC]);go_simp;have kC:=zh (zka ay.out (zkb (zs wx) (.cells #[.slice (some ⟨g,0,none⟩) m m] 42)));have HD2:=zh (HD1.out.later (zkb (zs wx) (.cells #[.slice (some ⟨g,0,none⟩) m m] 42)));have aF:=zh (heap_alloc_new wx (.cells #[.slice (some ⟨g,0,none⟩) m m] 42));obtain⟨wc,hwc⟩:=zX (wx.alloc (.cells #[.slice (some ⟨g,0,none⟩) m m] 42));rw[hwc]at kC HD2 aF ⊢;refine hK.out _ _ (az.out _ kC.out) ?_;clear hK K hwc HD1 h1;(try simp only[zQ]);have hbC:=zka ag.out (zka bD.out kC.out);have oO:=hbC.size;have hrow:=HD2.out.row (some .all);rw[zkm zS]at hrow
    change wc.ownsRow (w.heap.size+1) 42 1 (.slice Av j cv) j ((List.range j).map fc)at hrow;refine zo 6 fun K hK=>?_;refine zkY zR (.tmp 27) (.tmp 31) 41 zR (w.heap.size+1) 42 i0 _ 1 24 underlying41 hi0 hq0 hq1 hq2 rfl zY (.slice Av j cv) j ((List.range j).map fc) zR hrow ⟨wx.heap.size,0,none⟩ 1 1 [.slice (some ⟨g,0,none⟩) m m] zR rfl (fun q u hq=>by
     match q,hq with
     | 0,hq=>injection hq with hq;subst hq;exact zc aF.out rfl) (fun u hu=>by simp at hu;subst hu;rfl) (by unfold maxLen;omega) zO (by have:=bD.out.size;have:=kC.out.size;have:=zkf HK.out;omega) (fun vd wd ho hg aY=>?_)
    have hd3:=HD2.out.upd (some .all) (r:=⟨vd,42,1,j+1,(List.range j).map fc++[.slice (some ⟨g,0,none⟩) m m]⟩) ((Chg.row hg).mono fun b _ hb=>hb) ho (fun b hb=>by
     rcases aY with h5|h5
     ·exact .inl (h5▸hb)
     ·exact .inr (by rw[h5]at hb;injection hb with hb;omega))
    have HD3:=zh hd3;have hlo:∀g,(Value.slice Av j cv).ownBlock=some g->w.heap.size+1<=g:=fun g e=>(HRW.out.lt (some .all) g e).1;have dn:Chg (fun b=>(Value.slice Av j cv).ownBlock=some b) wc wd:=Chg.row hg;have hbD:=hbC.grown hg oO (fun g e=>by have:=hlo g e;omega);have mP:(fun w':World=>zN3 w' vb (.string oL) (zj vk) (zi vn)) wd:=by
     obtain⟨f0,f1,f2⟩:=(az.out _ kC.out).1;have hne:∀b,(Value.slice Av j cv).ownBlock=some b->b≠vb:=fun b h e=>by have:=(HRW.out.lt (some .all) b h).2;have:=bg.out;omega
     have hk:=dn.block vb (World.block_lt_of_cell? wc _ f0) fun h=>hne _ h rfl;exact⟨zkN f0 hk,zkN f1 hk,zkN f2 hk⟩
    have jB:=zl2 (HD3.out.row none);have e0:wd.cell? ⟨b3,0,none⟩=some (.slice Av j cv):=zc jB rfl;have ez:wd.frozen? ⟨b3,0,none⟩=false:=zf jB;have hd4:=HD3.out.set none (g:=b3) (o:=0) zR (by show 0<3;decide) vd;have hd5:Rws (wd.setCell ⟨b3,0,none⟩ vd) (w.heap.size+1) (zl5 vd vi zn (fun i=>if i=j then .slice (some ⟨g,0,none⟩) m m else fc i) b3 (zQS vs) (j+1)):=by
     rw[<-zyX (.slice Av j cv) vd vi zn fc b3 (zQS vs) j (List.replicate m 0) (.slice (some ⟨g,0,none⟩) m m) HGD.out];exact hd4
    have HD5:=zh hd5;have hb3lt:=(HD3.out.lt none b3 rfl)
    have hkd:wd.heap[w.heap.size]?=some (.cells #[zn,zn,zn] 44 (0,0)):=dn.keep (zkc (zkc HK.out bD.out) kC.out) fun h=>by have:=hlo _ h;omega
    have hcs:=((Chg.refl (fun b=>b=b3) wd).setCell (p:=⟨b3,0,none⟩) (.inl rfl) vd)
    have yB:=zh (show zw w (wd.setCell ⟨b3,0,none⟩ vd)from hbD.trans (hcs.below hbD.size fun b e=>zO));have HKE:=zh (hcs.keep hkd fun e=>by have e:w.heap.size=b3:=e;have:=hb3lt;omega);have hS5:(fun w':World=>zN3 w' vb (.string oL) (zj vk) (zi vn)) (wd.setCell ⟨b3,0,none⟩ vd):=by
     obtain⟨f0,f1,f2⟩:=mP;have hk:=hcs.block vb (World.block_lt_of_cell? wd _ f0) fun e=>by have e:vb=b3:=e;have:=(HRW.out.lt none b3 rfl).2;have:=bg.out;omega
     exact⟨zkN f0 hk,zkN f1 hk,zkN f2 hk⟩
    obtain⟨Ad,cd',rfl,-⟩:=zkh ho;refine hK.out _ _ ⟨mP,e0⟩ ?_;clear hK K hd3 hd4 hd5 ho hg aY hrow dn hlo jB hkd hcs hbC hbD az;(try simp only[zQ]);refine zo 7 fun K hK=>?_;(try simp only[zA,zB,zC]);go_simp;refine hK.out _ _ ⟨mP,e0⟩ ?_;clear hK K;(try simp only[zQ]);refine zp 8 fun K hK=>?_;(try simp only[zA,zB,zC]);go_simp;refine hK.out _ _ hS5 ?_;clear hK K;(try simp only[zQ]);refine zd ?_;refine NoPanic.normal ?_;clear mP hS5 e0 ez;go_wp2_with fail
    go_roundw
    case rel=>exact⟨j+1,zO,by go_num,yB,_,_,HD5,HKE⟩
    case measure=>simp[intOf];omega
   ·obtain rfl:j=vs.length:=zO
    have hj1:¬ (vs.length:Int)<(vs.length:Int):=zO
    have hbx:=zl2 (HRW.out.row none);obtain⟨x0,x1,x2⟩:=zl6 hbx;obtain⟨Av,cv,cZ,-⟩:=zkh (HRW.out.row (some .all));change vc=.slice Av vs.length cv at cZ;subst cZ;rw[<-xV.out]at x1;obtain⟨w9,eD,xB,xy⟩:=st3 (.slice Av vs.length cv) (.slice B 0 d) zn HK.out;obtain⟨q0,q1,q2⟩:=zl6 HK.out;have cf:∀j,wr.frozen? ⟨w.heap.size,j,none⟩=false:=fun j=>zf HK.out;obtain⟨t0,t1,t2⟩:=zl6 xy;have bD:=zh (ag.out.trans (xB.below ag.out.size fun q e=>by have e:q=w.heap.size:=e;omega));clear xy hbx;go_wp2_with fail;refine bodyPost_ret (v:=.tuple #[.agg #[.slice Av vs.length cv,.slice B 0 d,zn],zi 0]) (by simp[results,results69,go_sem,t0,t1,t2]) rfl ?_;refine⟨bD.out,_,_,rfl,fun h=>(by rw[HB0.out]at h;cases h),fun _=>⟨rfl,?_⟩⟩;have hre:=zqP (b3:=b3) (s:=zQS vs) (by rw[show(zQS vs).cells.length=vs.length by simp[zQS]];exact HRW.out)
    have hrw:=hre.chg xB (fun i b hb e=>by
     have e:b=w.heap.size:=e;have:=(hre.lt i b hb).1;omega)
    rw[<-xV.out]at hrw;exact⟨_,_,_,_,rfl,hrw.mono zO,⟨fun l hl x hx=>by
     obtain⟨v,_,rfl⟩:=List.mem_map.1 hl;obtain rfl:=List.eq_of_mem_replicate hx;unfold I64;omega,fun x hx=>(by cases hx),fun x hx=>(by cases hx)⟩⟩
def unrk(r:Int):Int:=if r<0 then 0 else if r.tmod 2=1 then r.tdiv 2+1 else -(r.tdiv 2)
abbrev Bn:=Nat×Nat
def wlo(bs:List Bn):Nat:=(bs.map (·.1)).sum
def whi(h:Int)(bs:List Bn):Int:=(bs.map fun b=>(b.2:Int)*h).sum
def ranE(lo hi:Int):List Int:=(List.range (hi-lo+1).toNat).map fun(m:Nat)=>lo+(m:Int)
def hdC(x:Int):List (List Int)->List (List Int)
 | []=>[]
 | l::ls=>(x::l)::ls
def numE(h:Int)(bs:List Bn)(rec:Int->List (List (List Int))):Nat->Int->List (List (List Int))
 | 0,left=>(rec left).map ([] :: ·)
 | k+1,left=>(ranE (max 0 (left-1-k*h-whi h bs)) (min (h-1) (left-1-k-wlo bs))).flatMap fun r=>(numE h bs rec k (left-1-r)).map (hdC (unrk r))
def zk9(h:Int):List Bn->Int->List (List (List Int))
 | [],_=>[[]]
 | (lo,hi)::bs,left=>(ranE (max lo ((left-whi h bs+h-1).tdiv h)) (min hi (left-wlo bs))).flatMap fun m=>numE h bs (zk9 h bs) m.toNat left
def allB(h:Int)(bs:List Bn):List (List (List Int)):=(ranE (wlo bs) (whi h bs)).flatMap (zk9 h bs)
def FitB(v:Int):List Bn->List (List Int)->Prop
 | [],[]=>True
 | (lo,hi)::bs,x::xs=>lo<=x.length/\x.length<=hi/\(∀e∈x,-v<=e/\e<=v)/\FitB v bs xs
 | _,_=>False
theorem znv{lo hi x:Int}(h:x∈ranE lo hi):lo<=x/\x<=hi:=by
 obtain⟨m,hm,rfl⟩:=List.mem_map.1 h;have:=List.mem_range.1 hm;omega
theorem zuz{v r:Int}(h0:0<=r)(h1:r<=2*v) : -v<=unrk r/\unrk r<=v:=by
 unfold unrk;rw[Int.tmod_eq_emod_of_nonneg h0,Int.tdiv_eq_ediv_of_nonneg h0];rw[if_neg zO]
 split<;>omega
theorem zsX{v h:Int}(hh:h=2*v+1){bs:List Bn}{rec:Int->List (List (List Int))}(hr:∀left,∀x∈rec left,FitB v bs x) :
  ∀(k:Nat) (left:Int),∀x∈numE h bs rec k left,∃l ls,x=l::ls/\l.length=k/\(∀e∈l,-v<=e/\e<=v)/\FitB v bs ls
 | 0,left,x,hx=>by
  obtain⟨y,hy,rfl⟩:=List.mem_map.1 hx;exact⟨[],y,rfl,rfl,zS,hr _ _ hy⟩
 | k+1,left,x,hx=>by
  rw[numE]at hx;obtain⟨r,hr1,hx⟩:=List.mem_flatMap.1 hx;obtain⟨y,hy,rfl⟩:=List.mem_map.1 hx;obtain⟨l,ls,rfl,h1,h2,h3⟩:=zsX hh hr k _ y hy;have h4:=znv hr1;refine⟨unrk r::l,ls,rfl,by simp[h1],fun e he=>?_,h3⟩;rcases List.mem_cons.1 he with rfl|he
  ·exact zuz zO zO
  ·exact h2 e he
theorem zrl{v h:Int}(hh:h=2*v+1):∀(bs:List Bn) (left:Int),∀x∈zk9 h bs left,FitB v bs x
 | [],left,x,hx=>by
  simp only[zk9,List.mem_singleton]at hx;subst hx;trivial
 | (lo,hi)::bs,left,x,hx=>by
  rw[zk9]at hx;obtain⟨m,hm,hx⟩:=List.mem_flatMap.1 hx;obtain⟨l,ls,rfl,h1,h2,h3⟩:=zsX hh (zrl hh bs) _ _ x hx;have h4:=znv hm;exact⟨zO,zO,h2,h3⟩
theorem ztr{v h:Int}(hh:h=2*v+1){bs:List Bn}:∀x∈allB h bs,FitB v bs x:=fun x hx=>by
 obtain⟨w,_,hx⟩:=List.mem_flatMap.1 hx;exact zrl hh bs w x hx
theorem FitB.len{v:Int}:∀ {bs:List Bn} {x:List (List Int)},FitB v bs x->x.length=bs.length
 | [],[],_=>rfl
 | _::_,_::_,h=>by simp[FitB.len h.2.2.2]
 | [],_::_,h=>h.elim
 | _::_,[],h=>h.elim
theorem FitB.get{v:Int}:∀ {bs:List Bn} {x:List (List Int)},FitB v bs x->∀i (h1:i<bs.length) (h2:i<x.length),bs[i].1<=x[i].length/\x[i].length<=bs[i].2/\∀e∈x[i],-v<=e/\e<=v
 | b::bs,y::x,h,0,_,_=>⟨h.1,h.2.1,h.2.2.1⟩
 | b::bs,y::x,h,i+1,h1,h2=>FitB.get h.2.2.2 i (by simpa using h1) (by simpa using h2)
def sumZ(f:Int->Nat)(A:Int):Nat->Nat
 | 0=>0
 | n+1=>sumZ f A n+f (A+n)
theorem zuE{f g:Int->Nat}(A:Int)(h:∀x,f x<=g x):∀n,sumZ f A n<=sumZ g A n
 | 0=>zl
 | n+1=>Nat.add_le_add (zuE A h n) (h _)
theorem zsF(f g:Int->Nat)(A:Int):∀n,sumZ (fun x=>f x+g x) A n=sumZ f A n+sumZ g A n
 | 0=>rfl
 | n+1=>by
  rw[sumZ,sumZ,sumZ,zsF f g A n];omega
theorem zqL(A:Int):∀n,sumZ (fun _=>0) A n=0
 | 0=>rfl
 | n+1=>by rw[sumZ,zqL A n]
theorem zpt(f:Int->Nat)(A d:Int):∀n,sumZ (fun x=>f (x-d)) A n=sumZ f (A-d) n
 | 0=>rfl
 | n+1=>by
  rw[sumZ,sumZ,zpt f A d n,show A+(n:Int)-d=A-d+n by omega]
theorem zp6(f:Int->Nat):∀(n:Nat) (A lo hi:Int),A<=lo->hi<A+n->((ranE lo hi).map f).sum<=sumZ f A n:=by
 have key:∀(m:Nat) (lo:Int),(((List.range m).map fun(i:Nat)=>lo+(i:Int)).map f).sum=sumZ f lo m:=by
  intro m lo
  induction m with
  | zero=>rfl
  | succ m ih=>rw[List.range_succ,List.map_append,List.map_append,List.sum_append,ih,sumZ];simp
 have mono:∀(a m:Nat) (A:Int),sumZ f (A+a) m<=sumZ f A (a+m):=by
  intro a m A
  induction m with
  | zero=>exact Nat.zero_le _
  | succ m ih =>
   rw[sumZ,show a+(m+1)=(a+m)+1 by omega,sumZ,show A+(a:Int)+m=A+((a+m:Nat):Int) by omega];omega
 have grow:∀(m k:Nat) (A:Int),sumZ f A m<=sumZ f A (m+k):=by
  intro m k A
  induction k with
  | zero=>exact zl
  | succ k ih=>rw[show m+(k+1)=(m+k)+1 by omega,sumZ];omega
 intro n A lo hi h1 h2;unfold ranE;rw[key];by_cases hm:hi-lo+1<=0
 ·rw[show(hi-lo+1).toNat=0 by omega];exact Nat.zero_le _
 ·obtain⟨a,rfl⟩:∃a:Nat,lo=A+a:=⟨(lo-A).toNat,zO⟩
  refine Nat.le_trans (mono a _ A) ?_;have:=grow (a+(hi-(A+a)+1).toNat) (n-(a+(hi-(A+a)+1).toNat)) A;rwa[show a+(hi-(A+a)+1).toNat+(n-(a+(hi-(A+a)+1).toNat))=n by omega]at this
theorem zol{α β:Type}(f:α->List β):∀l:List α,(l.flatMap f).length=(l.map fun x=>(f x).length).sum
 | []=>rfl
 | x::l=>by rw[List.flatMap_cons,List.length_append,zol f l,List.map_cons,List.sum_cons]
def Tot(f:Int->Nat)(N:Nat):Prop:=∀(A:Int) (n:Nat),sumZ f A n<=N
theorem Tot.shift{f:Int->Nat}{N:Nat}(h:Tot f N)(d:Int):Tot (fun x=>f (x-d)) N:=fun A n=>by rw[zpt];exact h _ _
theorem Tot.le{f g:Int->Nat}{N:Nat}(h:Tot f N)(hg:∀x,g x<=f x):Tot g N:=fun A n=>Nat.le_trans (zuE A hg n) (h A n)
theorem Tot.add{f g:Int->Nat}{N M:Nat}(h:Tot f N)(h':Tot g M):Tot (fun x=>f x+g x) (N+M):=fun A n=>by rw[zsF];exact Nat.add_le_add (h A n) (h' A n)
theorem Tot.many{f:Int->Int->Nat}{F:Nat->Nat}(h:∀i:Nat,Tot (fun x=>f x i) (F i))(lo:Nat):∀m,Tot (fun x=>sumZ (f x) lo m) (((List.range m).map fun i=>F (lo+i)).sum)
 | 0=>fun A n=>by rw[show(fun x=>sumZ (f x) lo 0)=fun _=>0 from rfl,zqL];exact Nat.zero_le _
 | m+1=>by
  rw[List.range_succ,List.map_append,List.sum_append];have:=(Tot.many h lo m).add (h (lo+m));simp only[List.map_cons,List.map_nil,List.sum_cons,List.sum_nil,Nat.add_zero];refine this.le fun x=>?_;rw[sumZ];exact Nat.le_of_eq (by rw[show((lo:Int)+(m:Int))=((lo+m:Nat):Int) by omega])
def nLst(h:Nat)(b:Bn):Nat:=((List.range (b.2+1-b.1)).map fun i=>h ^ (b.1+i)).sum
def nAll(h:Nat):List Bn->Nat
 | []=>1
 | b::bs=>nLst h b*nAll h bs
def fD(h:Int)(bs:List Bn)(w:Int):Nat:=if (wlo bs:Int)<=w/\w<=whi h bs then(zk9 h bs w).length else 0
def fN(h:Int)(bs:List Bn)(k:Nat)(w:Int):Nat:=if (k+wlo bs:Int)<=w/\w<=k*h+whi h bs then(numE h bs (zk9 h bs) k w).length else 0
theorem zmV{f g:Int->Nat}:∀ {l:List Int},(∀x∈l,f x=g x)->(l.map f).sum=(l.map g).sum
 | [],_=>rfl
 | x::l,h=>by
  rw[List.map_cons,List.map_cons,List.sum_cons,List.sum_cons,h x (List.mem_cons_self ..),zmV fun y hy=>h y (List.mem_cons_of_mem _ hy)]
theorem zyZ{h:Nat}{bs:List Bn}{N:Nat}(hr:Tot (fD h bs) N):∀k,Tot (fN h bs k) (h ^ k*N)
 | 0=>by
  refine Tot.le (by simpa using hr) fun x=>?_;unfold fN fD;rw[numE,List.length_map];simp
 | k+1=>by
  have h1:∀i:Nat,Tot (fun w=>(fun(w r:Int)=>fN h bs k (w-1-r)) w i) (h ^ k*N):=fun i=>by
   refine((zyZ hr k).shift (1+(i:Int))).le fun x=>?_;simp only;rw[show x-1-(i:Int)=x-(1+i) by omega];exact zl
  have h2:=Tot.many (f:=fun(w r:Int)=>fN h bs k (w-1-r)) (F:=fun _=>h ^ k*N) h1 0 h;have e:((List.range h).map fun _=>h ^ k*N).sum=h ^ (k+1)*N:=by
   rw[List.map_const',List.sum_replicate_nat,List.length_range,Nat.pow_succ,Nat.mul_comm (h ^ k) h,Nat.mul_assoc]
  rw[e]at h2;refine h2.le fun x=>?_;unfold fN
  split
  ·rw[numE,zol];simp only[List.length_map];rw[zmV (g:=fun r=>fN h bs k (x-1-r)) fun r hr=>by
    have hr:=znv hr;unfold fN;rw[if_pos zO]]
   exact zp6 (fun r=>fN h bs k (x-1-r)) h 0 _ _ zO zO
  ·exact Nat.zero_le _
theorem zu1:Tot (fun w=>if w=0 then 1 else 0) 1:=by
 have key:∀(A:Int) (n:Nat),sumZ (fun w=>if w=0 then 1 else 0) A n=if A<=0/\0<A+n then 1 else 0:=by
  intro A n
  induction n with
  | zero=>rw[sumZ,if_neg zO]
  | succ n ih =>
   rw[sumZ,ih];by_cases h1:A<=0/\0<A+(n:Int)
   ·rw[if_pos h1,if_neg zO,if_pos zO]
   ·rw[if_neg h1];by_cases h2:A+(n:Int)=0
    ·rw[if_pos h2,if_pos zO]
    ·rw[if_neg h2,if_neg zO]
 intro A n;rw[key]
 split<;>omega
theorem zuC{a h m:Int}(hh:0<h)(hm:0<=m)(h1:(a+h-1).tdiv h<=m):a<=m*h:=by
 by_cases ha:0<=a+h-1
 ·rw[Int.tdiv_eq_ediv_of_nonneg ha]at h1;have h2:=Int.emod_lt_of_pos (a+h-1) hh;have h3:=Int.mul_ediv_add_emod (a+h-1) h;have h4:h*((a+h-1) / h)<=h*m:=Int.mul_le_mul_of_nonneg_left h1 zO;rw[Int.mul_comm m h];omega
 ·have:0<=m*h:=Int.mul_nonneg hm zO;omega
theorem zy0{h:Nat}(hh:0<h):∀bs:List Bn,(∀b∈bs,b.1<=b.2)->Tot (fD h bs) (nAll h bs)
 | [],_=>by
  refine zu1.le fun x=>?_;unfold fD;simp only[wlo,whi,zk9,List.map_nil,List.sum_nil,List.length_cons,List.length_nil];by_cases hx:x=0
  ·rw[if_pos hx];split<;>omega
  ·rw[if_neg hx,if_neg zO];exact zl
 | (lo,hi)::bs,hb=>by
  have ih:=zy0 hh bs fun b h=>hb b (List.mem_cons_of_mem _ h);have hlh:lo<=hi:=hb (lo,hi) (List.mem_cons_self ..);have h1:∀i:Nat,Tot (fun w=>(fun(w m:Int)=>fN h bs m.toNat w) w i) (h ^ i*nAll h bs):=fun i=>zyZ ih i;have h2:=Tot.many (f:=fun(w m:Int)=>fN h bs m.toNat w) (F:=fun i=>h ^ i*nAll h bs) h1 lo (hi+1-lo);have e:((List.range (hi+1-lo)).map fun i=>h ^ (lo+i)*nAll h bs).sum=nAll h ((lo,hi)::bs):=by
   rw[nAll,nLst]
   induction List.range (hi+1-lo)with
   | nil=>simp
   | cons x l ih=>rw[List.map_cons,List.sum_cons,ih,List.map_cons,List.sum_cons,Nat.add_mul]
  rw[e]at h2;refine h2.le fun x=>?_;have e1:wlo ((lo,hi)::bs)=lo+wlo bs:=by simp[wlo]
  have e2:whi h ((lo,hi)::bs)=hi*h+whi h bs:=by simp[whi]
  rw[fD,zk9]
  split
  ·rename_i hx;rw[zol,zmV (g:=fun m=>fN h bs m.toNat x) fun m hm=>by
    have hm:=znv hm;have hm0:0<=m:=zO
    have hc:(x-whi h bs+h-1).tdiv h<=m:=zO
    have hc2:=zuC zO hm0 hc;rw[fN,if_pos];rw[show((m.toNat:Nat):Int)=m by omega];omega]
   exact zp6 (fun m=>fN h bs m.toNat x) (hi+1-lo) lo _ _ zO zO
  ·exact Nat.zero_le _
theorem zKy{h:Nat}(hh:0<h){bs:List Bn}(hb:∀b∈bs,b.1<=b.2):(allB h bs).length<=nAll h bs:=by
 unfold allB;rw[zol,zmV (g:=fD h bs) fun w hw=>by
  have hw:=znv hw;rw[fD,if_pos hw]]
 refine Nat.le_trans (zp6 (fD h bs) (whi h bs-wlo bs+1).toNat (wlo bs) _ _ zO zO) (zy0 hh bs hb _ _)
def maxC:Int:=1099511627776
def prdE(x y:Int):Int:=if maxC.tdiv y<x then maxC+1 else x*y
def lcL(lo:Nat)(v:Int):Nat->Int×Int
 | 0=>(0,1)
 | n+1=>(if lo<=n then min ((lcL lo v n).1+(lcL lo v n).2) (maxC+1)else(lcL lo v n).1,prdE (lcL lo v n).2 v)
def lcE(b:Bn)(v:Int):Int:=(lcL b.1 v (b.2+1)).1
def cntE(v:Int)(bs:List Bn):Int:=bs.foldl (fun s b=>prdE s (lcE b v)) 1
structure Sat(c:Int)(n:Nat):Prop where
 le:c<=maxC->(n:Int)<=c
 top:c<=maxC+1
 pos:0<=c
theorem Sat.prd{c d:Int}{n m:Nat}(h:Sat c n)(h':Sat d m)(hc:1<=c)(hd:1<=d):Sat (prdE c d) (n*m)/\1<=prdE c d:=by
 unfold prdE
 split
 ·exact⟨⟨fun h=>zO,Int.le_refl _,by unfold maxC;omega⟩,by unfold maxC;omega⟩
 ·rename_i h1;rw[Int.tdiv_eq_ediv_of_nonneg (by unfold maxC;omega)]at h1;have h2:c<=maxC / d:=zO
  have h3:c*d<=maxC:=by
   have h4:=Int.mul_le_mul_of_nonneg_right h2 (show 0<=d by omega);have h5:=Int.ediv_mul_le maxC (show d≠0 by omega);omega
  have h4:1*1<=c*d:=Int.mul_le_mul hc hd zY zO;have h5:c*1<=c*d:=Int.mul_le_mul_of_nonneg_left hd zO;have h6:1*d<=c*d:=Int.mul_le_mul_of_nonneg_right hc zO;refine⟨⟨fun _=>?_,zO,zO⟩,zO⟩;have a:=h.le zO;have b:=h'.le zO;rw[Int.natCast_mul];exact Int.mul_le_mul a b zO zO
theorem Sat.sum{c d:Int}{n m:Nat}(h:Sat c n)(h':Sat d m):Sat (min (c+d) (maxC+1)) (n+m):=by
 have h0:=h.pos;have h1:=h'.pos;refine⟨fun hle=>?_,zO,by unfold maxC;omega⟩;have a:=h.le zO;have b:=h'.le zO;omega
theorem zsa{v:Nat}(hv:1<=v)(hv2:(v:Int)<=maxC)(lo:Nat):∀n,Sat (lcL lo v n).1 (((List.range (n-lo)).map fun i=>v ^ (lo+i)).sum)/\Sat (lcL lo v n).2 (v ^ n)/\1<=(lcL lo v n).2/\(lo<n->1<=(lcL lo v n).1)
 | 0=>by
  simp only[lcL];refine⟨⟨fun _=>?_,zY,zY⟩,⟨fun _=>zS,zY,zY⟩,zY,fun h=>zO⟩;rw[Nat.zero_sub];exact Int.le_refl _
 | n+1=>by
  obtain⟨h1,h2,h3,h4⟩:=zsa hv hv2 lo n;have hp:=h2.prd (d:=(v:Int)) (m:=v) ⟨fun _=>Int.le_refl _,zO,zO⟩ h3 zO;rw[lcL];refine⟨?_,by rw[Nat.pow_succ];exact hp.1,hp.2,fun hl=>?_⟩
  ·simp only
   split
   ·rename_i hl;rw[show n+1-lo=(n-lo)+1 by omega,List.range_succ,List.map_append,List.sum_append];simp only[List.map_cons,List.map_nil,List.sum_cons,List.sum_nil,Nat.add_zero];rw[show lo+(n-lo)=n by omega];exact h1.sum h2
   ·rename_i hl;rw[show n+1-lo=n-lo by omega];exact h1
  ·have:=h1.pos;simp only;rw[if_pos zO];unfold maxC;omega
theorem zvp{v:Nat}(hv:1<=v)(hv2:(v:Int)<=maxC){b:Bn}(hb:b.1<=b.2):Sat (lcE b v) (nLst v b)/\1<=lcE b v:=by
 obtain⟨h1,-,-,h4⟩:=zsa hv hv2 b.1 (b.2+1);exact⟨h1,h4 zO⟩
theorem zwa{v:Nat}(hv:1<=v)(hv2:(v:Int)<=maxC):∀(bs:List Bn) (c:Int) (n:Nat),(∀b∈bs,b.1<=b.2)->Sat c n->1<=c->Sat (bs.foldl (fun s b=>prdE s (lcE b v)) c) (n*nAll v bs)/\1<=bs.foldl (fun s b=>prdE s (lcE b v)) c
 | [],c,n,_,h,hc=>by rw[nAll,Nat.mul_one];exact⟨h,hc⟩
 | b::bs,c,n,hb,h,hc=>by
  obtain⟨a1,a2⟩:=zvp hv hv2 (hb b (List.mem_cons_self ..));obtain⟨b1,b2⟩:=h.prd a1 hc a2;have:=zwa hv hv2 bs _ _ (fun x hx=>hb x (List.mem_cons_of_mem _ hx)) b1 b2;rw[List.foldl_cons,nAll,<-Nat.mul_assoc];exact this
theorem zoI(x y:Int)(w:World)(hx:0<=x/\x<=maxC+1)(hy:1<=y/\y<=maxC+1):Calls prog 67 #[zi x,zi y] w fun e w'=>e=.returned (zi (prdE x y))/\w'=w:=by
 obtain⟨q,hq⟩:=zX ((1099511627776:Int).tdiv y);have hq1:0<=q/\q<=1099511627776:=by
  rw[<-hq,Int.tdiv_eq_ediv_of_nonneg zY];exact⟨Int.ediv_nonneg zY zO,Int.ediv_le_self _ zY⟩
 have hwq:IntKind.i64.wrap q=q:=IntWalk.i64_in _ zO;have hy0:¬ y=0:=zO
 have HP:=zh (show prdE x y=if q<x then 1099511627777 else x*y by unfold prdE maxC;rw[hq];rfl);by_cases h:q<x
 ·have HN:=zh (HP.out.trans (if_pos h));go_enter func67,ntmps67;go_wp2_with fail;go_ret;exact⟨by rw[HN.out];rfl,rfl⟩
 ·have hm:0<=x*y/\x*y<=1099511627776:=by
   have h1:x<=1099511627776 / y:=by rw[Int.tdiv_eq_ediv_of_nonneg zY]at hq;omega
   have h2:=Int.mul_le_mul_of_nonneg_right h1 (show 0<=y by omega);have h3:=Int.ediv_mul_le 1099511627776 (show y≠0 by omega);exact⟨Int.mul_nonneg hx.1 zO,zO⟩
  have HN:=zh (HP.out.trans (if_neg h));have wh:IntKind.i64.wrap (x*y)=x*y:=IntWalk.i64_in _ zO;go_enter func67,ntmps67;go_wp2_with fail;go_ret;exact⟨by rw[HN.out];rfl,rfl⟩
theorem zua(r:Int)(w:World)(hr:0<=r/\r<=1000000):Calls prog 72 #[zi r] w fun e w'=>e=.returned (zi (unrk r))/\w'=w:=by
 obtain⟨q,hq⟩:=zX (r.tdiv 2);obtain⟨m,hm⟩:=zX (r.tmod 2);have hq1:0<=q/\q<=1000000:=by
  rw[<-hq,Int.tdiv_eq_ediv_of_nonneg hr.1];omega
 have hm1:0<=m/\m<2:=by
  rw[<-hm,Int.tmod_eq_emod_of_nonneg hr.1];omega
 have hwq:IntKind.i64.wrap q=q:=IntWalk.i64_in _ zO;have wh:IntKind.i64.wrap m=m:=IntWalk.i64_in _ zO;have hwq1:IntKind.i64.wrap (q+1)=q+1:=IntWalk.i64_in _ zO;have hwq2:IntKind.i64.wrap (-q) = -q:=IntWalk.i64_in _ zO;have hr0:¬ r<0:=zO
 have HU:=zh (show unrk r=if m=1 then q+1 else -q by unfold unrk;rw[if_neg hr0,hq,hm]);by_cases h:m=1
 ·have e1:(m==1)=true:=by simpa using h
  go_enter func72,ntmps72;go_wp2_with fail;go_ret;exact⟨by rw[HU.out,if_pos h];rfl,rfl⟩
 ·have e1:(m==1)=false:=by simpa using h
  go_enter func72,ntmps72;go_wp2_with fail;go_ret;exact⟨by rw[HU.out,if_neg h];rfl,rfl⟩
theorem zzP{v:Nat}(hv:1<=v)(hv2:(v:Int)<=maxC)(lo n:Nat):0<=(lcL lo v n).1/\(lcL lo v n).1<=maxC+1/\1<=(lcL lo v n).2/\(lcL lo v n).2<=maxC+1:=by
 obtain⟨h1,h2,h3,-⟩:=zsa hv hv2 lo n;exact⟨h1.pos,h1.top,h3,h2.top⟩
theorem zqe(b:Bn)(v:Nat)(w:World)(hb:b.1<=1000000/\b.2<=1000000)(hv:1<=v)(hv2:v<=1000000) :
  Calls prog 68 #[.agg #[zi (b.1:Int),zi (b.2:Int)],zi (v:Int)] w (zu (zi (lcE b v)) w):=by
 obtain⟨lo,hi⟩:=b;simp only at hb;have HTP:=zh (fun n=>zzP hv (by unfold maxC;omega) lo n);have oJ:=zh (show lcE (lo,hi) v=(lcL lo v (hi+1)).1 from rfl);have HV:=zh (And.intro hv hv2);have hb1:=zkb (zs w) (.cells #[zi (lo:Int),zi (hi:Int)] 89);have hk1:=heap_alloc_new w (.cells #[zi (lo:Int),zi (hi:Int)] 89);have hwh:IntKind.i64.wrap ((hi:Int)+1)=(hi:Int)+1:=IntWalk.i64_in _ zO;go_enter func68,ntmps68;go_upto_region 2 with fail;obtain⟨w1,hw1⟩:=zX (w.alloc (.cells #[zi (lo:Int),zi (hi:Int)] 89));rw[hw1]at hb1 hk1 ⊢;have x0:w1.cell? ⟨w.heap.size,0,none⟩=some (zi (lo:Int)):=zc hk1 rfl;have x1:w1.cell? ⟨w.heap.size,1,none⟩=some (zi (hi:Int)):=zc hk1 rfl;have HB1:=zh hb1;clear hw1 hb1 hk1;go_wp2_with fail
 go_loopw [11,5,6] (fun i s p wr=>∃n:Nat,n<=hi+1/\i=zi n/\s=zi (lcL lo v n).1/\p=zi (lcL lo v n).2/\wr=w1) (fun i _ _ _=>hi+1-(intOf i).toNat)
 case atStart=>exact⟨0,Nat.zero_le _,rfl,rfl,rfl,rfl⟩
 case round =>
  obtain⟨n,hn,rfl,rfl,rfl,rfl⟩:=hrel;obtain⟨S,hS⟩:=zX ((lcL lo v n).1);obtain⟨Q,hQ⟩:=zX ((lcL lo v n).2);have HX:=zh (show lcL lo v (n+1)=(if lo<=n then min (S+Q) (maxC+1)else S,prdE Q v) by rw[lcL,hS,hQ]);have hT:=HTP.out n;rw[hS,hQ]at hT;have HT:=zh hT;rw[hS,hQ];have az:=zh hS;clear hT hS hQ;have bV:=zh (zoI Q v wr ⟨by have:=HT.out;omega,HT.out.2.2.2⟩ ⟨by have:=HV.out;omega,by have:=HV.out;unfold maxC;omega⟩);by_cases hlt:n<hi+1
  ·have hn1:(n:Int)<(hi:Int)+1:=zO
   have hwn:IntKind.i64.wrap ((n:Int)+1)=(n:Int)+1:=IntWalk.i64_in _ zO;by_cases hl:lo<=n
   ·have hl1:(lo:Int)<=(n:Int):=zO
    have hws:IntKind.i64.wrap (S+Q)=S+Q:=IntWalk.i64_in _ (by have:=HT.out;unfold maxC at this;omega);go_wp2_with fail
    all_goals
     refine bV.out.mono ?_;rintro e w2 ⟨rfl,hw2⟩;rw[hw2];go_wp2_with fail
     go_roundw
     case rel=>exact⟨n+1,zO,by go_num,by rw[HX.out,if_pos hl];exact congrArg (Value.int .i64) (show _=min (S+Q) (maxC+1) by unfold maxC;omega),by rw[HX.out],trivial⟩
     case measure=>simp[intOf];omega
   ·have hl1:¬ (lo:Int)<=(n:Int):=zO
    go_wp2_with fail;refine bV.out.mono ?_;rintro e w2 ⟨rfl,hw2⟩;rw[hw2];go_wp2_with fail
    go_roundw
    case rel=>exact⟨n+1,zO,by go_num,by rw[HX.out,if_neg hl],by rw[HX.out],trivial⟩
    case measure=>simp[intOf];omega
  ·have hn1:¬ (n:Int)<(hi:Int)+1:=zO
   obtain rfl:n=hi+1:=zO
   have HF:=zh (oJ.out.trans az.out);go_wp2_with fail;go_ret;exact⟨by rw[HF.out];rfl,HB1.out⟩
def RowB(w:World)(S:Nat->Prop)(A:Option Addr)(bs:List Bn):Prop :=
 ∀i (hi:i<bs.length),∃a:Addr,A=some a/\S a.block/\w.cell? (a.add (i*2))=some (zi (bs[i].1:Int))/\w.cell? ⟨(a.add (i*2)).block,(a.add (i*2)).off+1,none⟩=some (zi (bs[i].2:Int))
theorem RowB.keep{w w':World}{S S':Nat->Prop}{A:Option Addr}{bs:List Bn}(h:RowB w S A bs)(hS:∀b,S b->b<w.heap.size->S' b)(hk:∀b,S b->b<w.heap.size->w'.heap[b]?=w.heap[b]?):RowB w' S' A bs:=fun i hi=>by
 obtain⟨a,hA,iF,h0,h1⟩:=h i hi;have hlt:a.block<w.heap.size:=by have:=World.block_lt_of_cell? w _ h0;rwa[zkF]at this
 refine⟨a,hA,hS _ iF hlt,zkN h0 ?_,zkN h1 ?_⟩
 all_goals simp only[zkF];exact hk _ iF hlt
theorem RowB.later{w w':World}{S:Nat->Prop}{A:Option Addr}{bs:List Bn}(h:RowB w S A bs)(hb:zw w w'):RowB w' S A bs:=h.keep (fun _ hb _=>hb) fun b _ hlt=>hb.block b hlt
def zrx(w:World)(b:Nat)(h:Int)(bs:List Bn):Prop :=
 ∀i,i<=bs.length->w.cell? ⟨b,i*2,none⟩=some (zi (wlo (bs.drop i):Int))/\w.cell? ⟨b,i*2+1,none⟩=some (zi (whi h (bs.drop i)))
theorem zrx.keep{w w':World}{b:Nat}{h:Int}{bs:List Bn}(hr:zrx w b h bs)(hk:w'.heap[b]?=w.heap[b]?):zrx w' b h bs:=fun i hi =>
 ⟨zkN (hr i hi).1 hk,zkN (hr i hi).2 hk⟩
theorem zw2{bs:List Bn}{i:Nat}(hi:i<bs.length):wlo (bs.drop i)=wlo (bs.drop (i+1))+bs[i].1:=by
 unfold wlo;rw[List.drop_eq_getElem_cons hi,List.map_cons,List.sum_cons];omega
theorem zw3{h:Int}{bs:List Bn}{i:Nat}(hi:i<bs.length):whi h (bs.drop i)=whi h (bs.drop (i+1))+bs[i].2*h:=by
 unfold whi;rw[List.drop_eq_getElem_cons hi,List.map_cons,List.sum_cons];omega
theorem zwl:(prog.info? 89).map (fun i=>(i.zero,i.size,i.bytes))=some (some (.agg #[zi 0,zi 0]),2,16):=zK
theorem bMkB(n:Nat)(hn:n<=4096)(w:World):(Instr.makeSlice 83 (zi (n:Int)) (zi (n:Int))).run prog w=.ok (.slice (some ⟨w.heap.size,0,none⟩) n n) (w.alloc (.cells (madeCells #[zi 0,zi 0] (n*2)) 89)):=by
 have h:=zwl;obtain⟨i,hi,hz⟩:=Option.map_eq_some_iff.1 h;injection hz with h1 h2;injection h2 with h2 h3;have:=zlf (P:=prog) 83 89 i (.agg #[zi 0,zi 0]) underlying83 hi h1 .i64 .i64 n n zl (by rw[h3];omega) zO w;rw[h2]at this;exact this
def zLC(w:World)(b:Nat)(h:Int)(bs:List Bn)(k:Nat):Prop :=
 ∃us:Array Value,w.heap[b]?=some (.cells us 89 (0,0))/\us.size=(bs.length+1)*2/\∀i,k<=i->i<=bs.length->us[i*2]?=some (zi (wlo (bs.drop i):Int))/\us[i*2+1]?=some (zi (whi h (bs.drop i)))
theorem zKN{bs:List Bn}(hb:∀b∈bs,b.1<=1000/\b.2<=1000):wlo bs<=bs.length*1000:=by
 induction bs with
 | nil=>simp[wlo]
 | cons b bs ih =>
  have h1:=hb b (List.mem_cons_self ..);have h2:=ih fun c hc=>hb c (List.mem_cons_of_mem _ hc);have e:wlo (b::bs)=b.1+wlo bs:=by simp[wlo]
  rw[e,List.length_cons];omega
theorem zKO{bs:List Bn}{h:Nat}(hb:∀b∈bs,b.1<=1000/\b.2<=1000):0<=whi h bs/\whi h bs<=bs.length*(1000*h):=by
 induction bs with
 | nil=>exact⟨Int.le_refl _,by rw[List.length_nil];show(0:Int)<=_;omega⟩
 | cons b bs ih =>
  have h1:=hb b (List.mem_cons_self ..);have h2:=ih fun c hc=>hb c (List.mem_cons_of_mem _ hc);have e:whi h (b::bs)=b.2*h+whi h bs:=by unfold whi;rw[List.map_cons,List.sum_cons]
  rw[e,List.length_cons];have h4:((bs.length+1:Nat):Int)*(1000*(h:Int))=bs.length*(1000*(h:Int))+1000*(h:Int):=by rw[Int.natCast_add,Int.add_mul];omega
  have h5:(0:Int)<=(b.2:Int)*(h:Int):=Int.mul_nonneg zO zO;have h6:(b.2:Int)*(h:Int)<=1000*(h:Int):=Int.mul_le_mul_of_nonneg_right zO zO;omega
theorem zus{bs:List Bn}{h:Nat}(hb:∀b∈bs,b.1<=1000/\b.2<=1000)(hn:bs.length<=1000)(hh:h<=10000):wlo bs<=1000000/\0<=whi h bs/\whi h bs<=10000000000:=by
 have h1:=zKN hb;have h2:=zKO (h:=h) hb;refine⟨zO,h2.1,Int.le_trans h2.2 ?_⟩;have h3:(bs.length:Int)*(1000*(h:Int))<=1000*(1000*(h:Int)):=Int.mul_le_mul_of_nonneg_right zO zO;omega
theorem ztq{bs:List Bn}(hb:∀b∈bs,b.1<=1000/\b.2<=1000)(i:Nat):∀b∈bs.drop i,b.1<=1000/\b.2<=1000:=fun b h=>hb b (List.mem_of_mem_drop h)
theorem zK5(n i:Nat)(hi:i<n):(madeCells #[Value.int .i64 0,zi 0] n)[i]?=some (zi 0):=by
 unfold madeCells;rw[Array.getElem?_map,Array.getElem?_eq_getElem (by simpa using hi)];have h:i % 2<2:=Nat.mod_lt _ zY;rcases Nat.lt_succ_iff_lt_or_eq.1 h with h|h
 ·simp[show i % 2=0 by omega]
 ·simp[h]
theorem setU{W:World}{b o:Nat}{us:Array Value}{ty:TypeId}(v:Value)(h:W.heap[b]?=some (.cells us ty (0,0))):∃W',W.setCell ⟨b,o,none⟩ v=W'/\Chg (fun q=>q=b) W W'/\W'.heap[b]?=some (.cells (us.setIfInBounds o v) ty (0,0)) :=
 ⟨_,rfl,(Chg.refl (fun q=>q=b) W).setCell (p:=⟨b,o,none⟩) (.inl rfl) _,heap_setCell_same W b o us ty v h⟩
theorem zrG(bs:List Bn)(h:Nat)(A:Option Addr)(c:Nat)(w:World)(hr:RowB w Any A bs)(hn:bs.length<=1000)(hb:∀b∈bs,b.1<=1000/\b.2<=1000)(hh:h<=10000) :
  Calls prog 40 #[.slice A bs.length c,zi h] w fun e w'=>∃b,e=.returned (.slice (some ⟨b,0,none⟩) (bs.length+1) (bs.length+1))/\w.heap.size<=b/\zrx w' b h bs/\zw w w':=by
 have HR:=zh (hr.keep (S':=fun q=>q<w.heap.size) (fun _ _ h=>h) fun _ _ _=>rfl);have HB:=zh hb;have HH:=zh hh;have hmk:=bMkB (bs.length+1) zO w;obtain⟨n,hnn⟩:=zX (bs.length);rw[hnn]at hn hmk ⊢;rw[show((n+1:Nat):Int)=(n:Int)+1 from rfl]at hmk;have HN:=zh hnn;have hwn:IntKind.i64.wrap ((n:Int)+1)=(n:Int)+1:=IntWalk.i64_in _ zO;have wh:IntKind.i64.wrap ((n:Int)-1)=(n:Int)-1:=IntWalk.i64_in _ zO;have hk0:=heap_alloc_new w (.cells (madeCells #[zi 0,zi 0] ((n+1)*2)) 89);have hb0:=zkb (zs w) (.cells (madeCells #[zi 0,zi 0] ((n+1)*2)) 89);clear hr hnn hb hh;go_enter func40,ntmps40;go_upto_region 2 with fail;obtain⟨w1,hw1⟩:=zX (w.alloc (.cells (madeCells #[zi 0,zi 0] ((n+1)*2)) 89));rw[hw1]at hb0 hk0 ⊢;have HB0:=zh hb0;have aG:=zh hk0;clear hw1 hb0 hk0 hmk;obtain⟨b,hbb⟩:=zX (w.heap.size);have dK:=zh hbb
 rw[hbb]at aG ⊢;clear hbb;go_wp2_with fail
 go_loopw [6] (fun iv wr=>∃k:Nat,k<=n/\iv=zi ((k:Int)-1)/\Hid (Chg (fun q=>q=b) w1 wr)/\Hid (zLC wr b h bs k)) (fun iv _=>(intOf iv+1).toNat)
 case atStart =>
  refine⟨n,zl,rfl,zh (Chg.refl _ _),zh ⟨_,aG.out,?_,?_⟩⟩
  ·rw[size_madeCells,HN.out]
  ·intro j h1 h2;obtain rfl:j=n:=by have:=HN.out;omega
   rw[List.drop_of_length_le (by rw[HN.out];exact zl),zK5 _ _ zO,zK5 _ _ zO];exact⟨rfl,rfl⟩
 case round =>
  obtain⟨k,hk,rfl,HC,ze⟩:=hrel;by_cases hlt:0<k
  ·obtain⟨i,rfl⟩:∃i,k=i+1:=⟨k-1,zO⟩
   obtain⟨us,hu,iw,jl⟩:=ze.out;have hin:i<bs.length:=by have:=HN.out;omega
   have hin1:i+1<=bs.length:=zO
   obtain⟨a,rfl,has,x0,x1⟩:=(HR.out.later HB0.out).keep (w':=wr) (S':=fun q=>q<w.heap.size) (fun _ h _=>h) (fun q h hq=>HC.out.block q hq (fun e=>by have e:q=b:=e;have h:q<w.heap.size:=h;have:=dK.out;omega)) i hin;have e1:((i+1:Nat):Int)-1=(i:Int):=zO
   rw[e1];have hlt1:(0:Int)<=(i:Int):=zO
   obtain⟨y0,y1⟩:wr.cell? ⟨b,(i+1)*2,none⟩=some (zi (wlo (bs.drop (i+1)):Int))/\wr.cell? ⟨b,(i+1)*2+1,none⟩=some (zi (whi h (bs.drop (i+1)))):=⟨zc hu (jl (i+1) zl hin1).1,zc hu (jl (i+1) zl hin1).2⟩
   obtain⟨z0,hz0⟩:∃u,us[i*2]?=some u:=⟨_,Array.getElem?_eq_getElem zO⟩
   obtain⟨z1,hz1⟩:∃u,us[i*2+1]?=some u:=⟨_,Array.getElem?_eq_getElem zO⟩
   have y2:wr.cell? ⟨b,i*2,none⟩=some z0:=zc hu hz0;have cf:∀o,wr.frozen? ⟨b,o,none⟩=false:=fun o=>zf hu;have hw1:=zus (ztq HB.out i) (by rw[List.length_drop,HN.out];omega) HH.out;have hw2:=zus (ztq HB.out (i+1)) (by rw[List.length_drop,HN.out];omega) HH.out;obtain⟨w5,mi,dB,lJ⟩:=setU (o:=i*2) (zi (wlo (bs.drop i):Int)) hu;have mH:w5.drew.heap[b]?=some (.cells (us.setIfInBounds (i*2) (zi (wlo (bs.drop i):Int))) 89 (0,0)):=lJ;obtain⟨w6,mh,hc6,oo⟩:=setU (o:=i*2+1) (zi (whi h (bs.drop i))) mH;have fG:=zh ((HC.out.trans dB.drew).trans hc6.drew);have yt:=zh (show zLC w6.drew b h bs i from⟨_,oo,by simpa using iw,fun j h1 h2=>by
    by_cases e:j=i
    ·subst e;refine⟨?_,?_⟩
     ·rw[Array.getElem?_setIfInBounds_ne zO,Array.getElem?_setIfInBounds_self_of_lt zO]
     ·rw[Array.getElem?_setIfInBounds_self_of_lt (by rw[Array.size_setIfInBounds];omega)]
    ·rw[Array.getElem?_setIfInBounds_ne zO,Array.getElem?_setIfInBounds_ne zO,Array.getElem?_setIfInBounds_ne zO,Array.getElem?_setIfInBounds_ne zO];exact jl j zO h2⟩)
   have hwi1:IntKind.i64.wrap ((i:Int)-1)=(i:Int)-1:=IntWalk.i64_in _ zO;have hl0:=zw2 hin;have hl1:=zw3 (h:=h) hin;have hwl:IntKind.i64.wrap ((wlo (bs.drop (i+1)):Int)+(bs[i].1:Int))=(wlo (bs.drop i):Int):=by rw[hl0];exact IntWalk.i64_in _ zO
   have hwm1:IntKind.i64.wrap ((bs[i].2:Int)*(h:Int))=(bs[i].2:Int)*(h:Int):=IntWalk.i64_in _ zO;have hwh:IntKind.i64.wrap (whi h (bs.drop (i+1))+(bs[i].2:Int)*(h:Int))=whi h (bs.drop i):=by rw[hl1];exact IntWalk.i64_in _ zO
   have y3:w5.drew.cell? ⟨b,i*2+1,none⟩=some z1:=zc mH (by rw[Array.getElem?_setIfInBounds_ne zO];exact hz1);have y4:w5.drew.cell? ⟨b,(i+1)*2+1,none⟩=some (zi (whi h (bs.drop (i+1)))):=zc mH (by rw[Array.getElem?_setIfInBounds_ne zO];exact(jl (i+1) zl hin1).2);have cf5:∀o,w5.drew.frozen? ⟨b,o,none⟩=false:=fun o=>zf mH;have x5:w5.drew.cell? ⟨(a.add (i*2)).block,(a.add (i*2)).off+1,none⟩=some (zi (bs[i].2:Int)):=zkN x1 (dB.block _ (World.block_lt_of_cell? wr _ x1) (by rw[zkF];have:=dK.out;have has:a.block<w.heap.size:=has;omega));have HL0:=zh hl0;have lg:=zh hl1;have hwi:IntKind.i64.wrap ((i:Int)+1)=(i:Int)+1:=IntWalk.i64_in _ zO;have hp0:(0:Int)<=(i:Int)+1:=zO
   have hp1:(i:Int)+1<(n:Int)+1:=zO
   have hp2:(i:Int)<(n:Int)+1:=zO
   have hp3:(i:Int)<(n:Int):=zO
   have HU:=zh hu;have HUS:=zh iw;have HUU:=zh jl;generalize bs[i].1=lo,bs[i].2=hi,wlo (bs.drop (i+1))=L1,whi h (bs.drop (i+1))=L2,wlo (bs.drop i)=M1,whi h (bs.drop i)=M2 at *
   clear hu iw jl hl0 hl1 hw1 hw2 mH HB HH;go_upto_region 5 with fail
   go_region
   go_upto_region 6 with fail
   go_region
   clear mi mh;go_wp2_with fail
   go_roundw
   case rel=>exact⟨i,zO,rfl,fG,yt⟩
   case measure=>simp[intOf]
  ·obtain rfl:k=0:=zO
   have hlt1:¬ (0:Int)<=((0:Nat):Int)-1:=zO
   go_wp2_with fail;go_ret;obtain⟨us,hu,iw,jl⟩:=ze.out;refine⟨b,rfl,by rw[dK.out];exact zl,fun j hj=>⟨zc hu (jl j (Nat.zero_le _) hj).1,zc hu (jl j (Nat.zero_le _) hj).2⟩,HB0.out.trans (HC.out.below HB0.out.size fun q e=>by have e:q=b:=e;have:=dK.out;omega)⟩
structure BX where
 v:Int
 l:Int
 i:Int
def okI(x:Int):Bool:=decide (0<=x/\x<=1000)
def BX.ok(b:BX):Bool:=okI b.v&&okI b.l&&okI b.i
def len1(b:BX)(v:VD):Bn:=if v.k=3 then(0,b.l.toNat)else((fixE v).toNat,(fixE v).toNat)
def lenE(vs:List VD)(b:BX):List Bn:=vs.map (len1 b)++[(0,b.i.toNat)]
def zog(bs:List Bn):List Value:=bs.flatMap fun b=>[zi (b.1:Int),zi (b.2:Int)]
theorem zri:∀(bs:List Bn) (i:Nat) (h:i<bs.length),(zog bs)[i*2]?=some (zi (bs[i].1:Int))/\(zog bs)[i*2+1]?=some (zi (bs[i].2:Int))
 | b::bs,0,_=>by simp[zog]
 | b::bs,i+1,h=>by
  have:=zri bs i (by simpa using h);unfold zog at this ⊢;rw[List.flatMap_cons,show(i+1)*2=i*2+2 by omega,show i*2+2+1=i*2+1+2 by omega];simpa using this
theorem RowB.of_own{W:World}{n0 n c:Nat}{A:Option Addr}{bs:List Bn}(h:W.ownsRow n0 89 2 (.slice A n c) n (zog bs))(hn:bs.length=n):RowB W (fun q=>n0<=q) A bs:=fun i hi=>by
 rcases h.2 with⟨e1,e2⟩|⟨g,cap,cur,e,hb,hg,-⟩
 ·omega
 ·injection e with e1 e2 e3;subst e1;obtain⟨h0,h1⟩:=zri bs i hi;refine⟨_,rfl,hb,?_,?_⟩
  ·rw[Addr.add_lit,Nat.zero_add,World.ownsRow.cellAt h (i*2) zO];exact h0
  ·rw[Addr.add_lit,Nat.zero_add,World.ownsRow.cellAt h (i*2+1) zO];exact h1
theorem bB1(x y:Int)(w:World):(Instr.buildSlice 83 1 #[(0,.agg #[zi x,zi y])]).run prog w=.ok (.slice (some ⟨w.heap.size,0,none⟩) 1 1) (w.alloc (.cells #[zi x,zi y] 89)):=zK
theorem zlW{ops:Array Oper}{rest:List Oper}{o:Oper}{a:Act}{W:World}{Q:Exit->Act->World->Prop}(hgd:o.guard=none)(s x:Operand)
  (ho:o.op=.call { callee:=.builtin .append,args := #[s,x],argTypes := #[83,83] })(base:Nat)(v:Value)(n:Nat)(xs:List Value)(hs:a.eval s=v)(hrow:W.ownsRow base 89 2 v n xs)
  (b:Nat)(y0 y1:Int)(hx:a.eval x=.slice (some ⟨b,0,none⟩) 1 1)(hc:W.heap[b]?=some (.cells #[zi y0,zi y1] 89 (0,0)))(hl:n+1<=1000000)(hb:base<=W.heap.size)
  (h:∀v' w',w'.ownsRow base 89 2 v' (n+1) (xs++[zi y0,zi y1])->W.grownBy w' v.ownBlock->wpList prog ops Q rest (a.put o.dst v') w') :
  wpList prog ops Q (o::rest) a W:=by
 obtain⟨i,hi,hz0,hz1,hz2⟩:=info_parts zwl;refine wpList_append_own_at (P:=prog) _ hgd s x 83 ho base 89 i _ 2 16 underlying83 hi hz0 hz1 hz2 rfl zY v n xs hs hrow ⟨b,0,none⟩ 1 1 [zi y0,zi y1] hx zS (fun j u hj=>?_) (fun u hu=>?_) (by unfold maxLen;omega) zO hb (fun v' w' h1 h2 _ _=>h v' w' h1 h2)
 ·rw[Addr.add_lit,Nat.zero_add];exact zc hc (by simpa using hj)
 ·simp only[List.mem_cons,List.not_mem_nil,or_false]at hu;rcases hu with rfl|rfl<;>rfl
theorem zoM{W0 W1 wr:World}{j c9:Nat}{A9:Option Addr}{y0 y1:Nat}{bs:List Bn}(hy:bs[j]?=some (y0,y1))(h1:zw W1 wr)(h0:zw W0 wr)(hn:W0.heap.size<=W1.heap.size)
  (ho:wr.ownsRow W1.heap.size 89 2 (.slice A9 j c9) j (zog (bs.take j)))(v':Value)(w':World)
  (h:w'.ownsRow W1.heap.size 89 2 v' (j+1) (zog (bs.take j)++[zi (y0:Int),zi (y1:Int)]))(hg:(wr.alloc (.cells #[zi (y0:Int),zi (y1:Int)] 89)).grownBy w' (Value.slice A9 j c9).ownBlock) :
  ∃A' c',v'=.slice A' (j+1) c'/\Hid (zw W0 w')/\Hid (zw W1 w')/\Hid (w'.ownsRow W1.heap.size 89 2 (.slice A' (j+1) c') (j+1) (zog (bs.take (j+1)))):=by
 obtain⟨A',c',rfl,-⟩:=zkh h;have hlt:=ho.lt;refine⟨A',c',rfl,zh ?_,zh ?_,zh ?_⟩
 ·have h2:=zkb h0 (.cells #[zi (y0:Int),zi (y1:Int)] 89);exact h2.trans ((Chg.row hg).below h2.size fun q e=>by have:=(hlt q e).1;omega)
 ·have h2:=zkb h1 (.cells #[zi (y0:Int),zi (y1:Int)] 89);exact h2.trans ((Chg.row hg).below h2.size fun q e=>(hlt q e).1)
 ·have e:zog (bs.take (j+1))=zog (bs.take j)++[zi (y0:Int),zi (y1:Int)]:=by
   rw[List.take_add_one,hy];simp[zog]
  rw[e];exact h
def LenP(vs:List VD)(b:BX)(w:World)(e:Ending)(w':World):Prop:=zw w w'/\(((b.ok&&svB vs)=false/\e=.returned (.tuple #[zn,.bool false]))\/((b.ok&&svB vs)=true/\∃A c,e=.returned (.tuple #[.slice A (vs.length+1) c,.bool true])/\RowB w' (fun q=>w.heap.size<=q) A (lenE vs b)))
theorem zoP(vs:List VD)(b:BX)(A:Option Addr)(c:Nat)(w:World)(hrow:RowV w Any A vs)(hl:vs.length<=LV):Calls prog 38 #[.slice A vs.length c,.agg #[zi b.v,zi b.l,zi b.i]] w (LenP vs b w):=by
 obtain⟨bv,bl,bi⟩:=b;simp only;have hb1:=zkb (zs w) (.cells #[zi bv,zi bl,zi bi] 23);have hk1:=heap_alloc_new w (.cells #[zi bv,zi bl,zi bi] 23);have ae:=zh hrow;have HSN:=zh (fun w' (hb:zw w w')=>zyC vs A c w' (hrow.later hb) hl);clear hrow hl;go_enter func38,ntmps38;go_upto_region 1 with fail;obtain⟨w1,hw1⟩:=zX (w.alloc (.cells #[zi bv,zi bl,zi bi] 23));rw[hw1]at hb1 hk1 ⊢;obtain⟨x0,x1,x2⟩:=zl6 hk1;have HB1:=zh hb1;have aC:=zh hk1;clear hw1 hb1 hk1;go_wp2_with fail
 go_loopw [20] (fun i wr=>∃j:Nat,j<=3/\i=zi j/\wr=w1/\Hid (∀k,k<j->okI ([bv,bl,bi].getD k 0)=true)) (fun i _=>3-(intOf i).toNat)
 case atStart=>exact⟨0,zO,rfl,rfl,zh fun k hk=>zO⟩
 case round =>
  obtain⟨j,hj,rfl,rfl,fw⟩:=hrel;by_cases hlt:j<3
  ·have key:∃x,x=[bv,bl,bi].getD j 0:=⟨_,rfl⟩
   obtain⟨x,hx⟩:=key;have hj1:(j:Int)<3:=zO
   have hj0:(0:Int)<=(j:Int):=zO
   obtain⟨x,hx⟩:=zX ([bv,bl,bi].getD j 0);have hix:(Instr.index 116 (.agg #[zi bv,zi bl,zi bi]) (zi (j:Int))).run prog wr=.ok (zi x) wr:=by
    rw[<-hx];rcases j with _|_|_|j
    ·kernel_rfl
    ·kernel_rfl
    ·kernel_rfl
    ·omega
   have HX:=zh hx;clear hx;have hno:okI x=false->(BX.ok ⟨bv,bl,bi⟩&&svB vs)=false:=fun h=>by
    rw[<-HX.out]at h;unfold BX.ok;rcases j with _|_|_|j
    ·have h:okI bv=false:=h;simp[h]
    ·have h:okI bl=false:=h;simp[h]
    ·have h:okI bi=false:=h;simp[h]
    ·omega
   have bS:=zh hno;clear hno;by_cases h1:x<0
   ·have HF:=zh (bS.out (decide_eq_false zO));go_wp2_with fail;go_ret2;exact⟨HB1.out,.inl ⟨HF.out,rfl⟩⟩
   ·by_cases h2:1000<x
    ·have HF:=zh (bS.out (decide_eq_false zO));go_wp2_with fail;go_ret2;exact⟨HB1.out,.inl ⟨HF.out,rfl⟩⟩
    ·have HT:=zh (show okI x=true from decide_eq_true zO);go_wp2_with fail
     go_roundw
     case rel=>exact⟨j+1,zO,by go_num,trivial,zh fun k hk=>by
      by_cases e:k=j
      ·subst e;rw[HX.out];exact HT.out
      ·exact fw.out k zO⟩
     case measure=>simp[intOf];omega
  ·obtain rfl:j=3:=zO
   have vU:=zh (show BX.ok ⟨bv,bl,bi⟩=true by
    have h0:okI bv=true:=fw.out 0 zO;have h1:okI bl=true:=fw.out 1 zO;have h2:okI bi=true:=fw.out 2 zO;simp[BX.ok,h0,h1,h2])
   clear fw;go_wp2_with fail;refine(HSN.out _ HB1.out).mono ?_;rintro e w2 ⟨hb2,v,er,rfl,hs0,hs1⟩;have HB2:=zh (zka HB1.out hb2);have aQ:=zh (zkc aC.out hb2);obtain⟨sv,hsv⟩:=zX (svB vs);have nz:=zh hsv;rw[hsv]at hs0 hs1;clear hsv hb2
   cases sv
   ·obtain⟨rfl,rfl⟩:=hs0 rfl;have HF:=zh (show(BX.ok ⟨bv,bl,bi⟩&&svB vs)=false by rw[nz.out];simp);clear hs0 hs1 x0 x1 x2;go_wp2_with fail;go_ret2;exact⟨zkb HB2.out _,.inl ⟨HF.out,rfl⟩⟩
   ·obtain⟨rfl,hos⟩:=hs1 rfl;have HT:=zh (show(BX.ok ⟨bv,bl,bi⟩&&svB vs)=true by rw[nz.out,vU.out];rfl);have hsv2:=hos.svR (zSLim vs nz.out);obtain⟨A2,c2,B2,d2,D2,e2,rfl,hr2,-⟩:=hsv2;clear hs0 hs1 x0 x1 x2;obtain⟨nv,kI⟩:=zX (vs.length);have hzn:(zQS vs).cells.length=nv:=by rw[<-kI];simp[zQS]
    have oP:=nz.out;simp only[svB,Bool.and_eq_true,decide_eq_true_eq,List.all_eq_true]at oP;have HS3:=zh oP;have hn32:nv<=32:=by rw[<-kI];exact oP.1
    rw[hzn]at hos ⊢;have jc:=zh kI;have hb3:=zkb HB2.out (.cells #[.slice A2 nv c2,.slice B2 (zQS vs).tin.length d2,.slice D2 (zQS vs).tout.length e2] 44);obtain⟨w3,hw3⟩:=zX (w2.alloc (.cells #[.slice A2 nv c2,.slice B2 (zQS vs).tin.length d2,.slice D2 (zQS vs).tout.length e2] 44));have tL:zw w2 w3:=by rw[<-hw3];exact zkb zr _
    have hk3:=heap_alloc_new w2 (.cells #[.slice A2 nv c2,.slice B2 (zQS vs).tin.length d2,.slice D2 (zQS vs).tout.length e2] 44);rw[hw3]at hb3 hk3;have x3:w3.cell? ⟨w2.heap.size,0,none⟩=some (.slice A2 nv c2):=zc hk3 rfl;have HB3:=zh hb3;have HR3:=zh ((hr2.keep (S':=Any) (fun _ _ _=>trivial) fun _ _ _=>rfl).later tL);have fF:=zh (zkc aQ.out tL);clear hb3 tL hk3 hr2 hos kI oP hzn HSN;rw[jc.out];go_wp2_with fail;clear hw3 x3
    go_loopw [40,10] (fun i lv wr=>∃j:Nat,j<=nv/\i=zi j/\∃A9 c9,lv=.slice A9 j c9/\Hid (zw w wr)/\Hid (zw w3 wr)/\Hid (wr.ownsRow w3.heap.size 89 2 (.slice A9 j c9) j (zog ((lenE vs ⟨bv,bl,bi⟩).take j)))) (fun i _ _=>nv-(intOf i).toNat)
    case atStart=>exact⟨0,Nat.zero_le _,rfl,none,0,rfl,HB3,zh zr,zh ⟨rfl,.inl ⟨rfl,rfl⟩⟩⟩
    case round =>
     obtain⟨j,hj,rfl,A9,c9,rfl,ag,lD,wP⟩:=hrel;have hkb:=zkc fF.out lD.out;obtain⟨x0,x1,x2⟩:=zl6 hkb;by_cases hlt:j<nv
     ·have hj1:(j:Int)<(nv:Int):=zO
      have hj0:(0:Int)<=(j:Int):=zO
      obtain⟨a,v,rfl,-,Hv,⟨p0,p1,p2⟩,hf⟩:=(ae.out.later ag.out).nd (show j<vs.length by rw[jc.out];exact hlt);obtain⟨a2,q,A3,c3,rfl,Hq,hcq,-,-⟩:=(HR3.out.later lD.out).nd (i:=j) (by simp[zQS];rw[jc.out];exact hlt);have hle:(lenE vs ⟨bv,bl,bi⟩)[j]?=some (len1 ⟨bv,bl,bi⟩ v):=by
       have h9:j<vs.length:=by rw[jc.out];exact hlt
       simp only[lenE];rw[List.getElem?_append_left (by simpa using h9),List.getElem?_map,List.getElem?_eq_getElem h9,Hv.out];rfl
      have lG:q.length=(fixE v).toNat:=by rw[<-Hq.out,<-Hv.out];simp[zQS]
      have HQL:=zh lG;have oJ:=zh hle;have dm:w.heap.size<=w3.heap.size:=HB3.out.size;have hl4:j+1<=1000000:=zO
      have hwi:IntKind.i64.wrap ((j:Int)+1)=(j:Int)+1:=IntWalk.i64_in _ zO;obtain⟨s9,k9,n9⟩:=v;simp only at p0 p1 p2;clear lG hle hf;by_cases h3:k9=3
      ·obtain⟨L,rfl⟩:∃L:Nat,bl=(L:Int):=⟨bl.toNat,by
        have:=vU.out;simp only[BX.ok,okI,Bool.and_eq_true,decide_eq_true_eq]at this;omega⟩
       have hrow:=zkK wP.out (zkb (zs wr) (.cells #[zi 0,zi (L:Int)] 89));have hk4:=heap_alloc_new wr (.cells #[zi 0,zi (L:Int)] 89);have HX:=zh (zoM (y0:=0) (y1:=L) (by rw[oJ.out];simp[len1,h3]) lD.out ag.out dm wP.out);have hbb:=bB1 0 (L:Int) wr;have hs4:w3.heap.size<=(wr.alloc (.cells #[zi 0,zi (L:Int)] 89)).heap.size:=by have:=lD.out.size;simp;omega
       subst h3;go_wp2_with (at_builtin;refine zlW rfl (.tmp 51) (.tmp 55) rfl w3.heap.size (.slice A9 j c9) j _ rfl hrow wr.heap.size _ _ rfl hk4 hl4 hs4 ?_;intro v' w' ho hg;obtain⟨A',c',rfl,aS,nH,iJ⟩:=HX.out _ _ ho hg;clear ho hg)
       go_roundw
       case rel=>exact⟨j+1,zO,by go_num,A',c',rfl,aS,nH,iJ⟩
       case measure=>simp[intOf];omega
      ·have e3:(k9==3)=false:=by simpa using h3
       obtain⟨L,hL⟩:∃L:Nat,(fixE ⟨s9,k9,n9⟩).toNat=L:=⟨_,rfl⟩
       have AZ:=HQL.out;rw[hL]at AZ;rw[AZ]at hcq;have hrow:=zkK wP.out (zkb (zs wr) (.cells #[zi (L:Int),zi (L:Int)] 89));have hk4:=heap_alloc_new wr (.cells #[zi (L:Int),zi (L:Int)] 89);have HX:=zh (zoM (y0:=L) (y1:=L) (by rw[oJ.out];simp[len1,h3,hL]) lD.out ag.out dm wP.out);have hbb:=bB1 (L:Int) (L:Int) wr;have hs4:w3.heap.size<=(wr.alloc (.cells #[zi (L:Int),zi (L:Int)] 89)).heap.size:=by have:=lD.out.size;simp;omega
       clear hL AZ h3;go_wp2_with (at_builtin;refine zlW rfl (.tmp 57) (.tmp 63) rfl w3.heap.size (.slice A9 j c9) j _ rfl hrow wr.heap.size _ _ rfl hk4 hl4 hs4 ?_;intro v' w' ho hg;obtain⟨A',c',rfl,aS,nH,iJ⟩:=HX.out _ _ ho hg;clear ho hg)
       go_roundw
       case rel=>exact⟨j+1,zO,by go_num,A',c',rfl,aS,nH,iJ⟩
       case measure=>simp[intOf];omega
     ·obtain rfl:j=nv:=zO
      have hj1:¬ (j:Int)<(j:Int):=zO
      obtain⟨L,rfl⟩:∃L:Nat,bi=(L:Int):=⟨bi.toNat,by
       have:=vU.out;simp only[BX.ok,okI,Bool.and_eq_true,decide_eq_true_eq]at this;omega⟩
      have hrow:=zkK wP.out (zkb (zs wr) (.cells #[zi 0,zi (L:Int)] 89));have hk4:=heap_alloc_new wr (.cells #[zi 0,zi (L:Int)] 89);have HX:=zh (zoM (y0:=0) (y1:=L) (by simp only[lenE];rw[List.getElem?_append_right (by simp[jc.out])];simp[jc.out]) lD.out ag.out (show w.heap.size<=w3.heap.size from HB3.out.size) wP.out);have hbb:=bB1 0 (L:Int) wr;have hl4:j+1<=1000000:=zO
      have hs4:w3.heap.size<=(wr.alloc (.cells #[zi 0,zi (L:Int)] 89)).heap.size:=by have:=lD.out.size;simp;omega
      go_wp2_with (at_builtin;refine zlW rfl (.tmp 66) (.tmp 70) rfl w3.heap.size (.slice A9 j c9) j _ rfl hrow wr.heap.size _ _ rfl hk4 hl4 hs4 ?_;intro v' w' ho hg;obtain⟨A',c',rfl,aS,nH,iJ⟩:=HX.out _ _ ho hg;clear ho hg)
      go_ret2;refine⟨aS.out,.inr ⟨HT.out,A',c',by rw[jc.out];rfl,?_⟩⟩;have hlen:(lenE vs ⟨bv,bl,(L:Int)⟩).length=j+1:=by simp[lenE,jc.out]
      have h5:=iJ.out;rw[List.take_of_length_le (by rw[hlen];exact zl)]at h5;exact(RowB.of_own h5 hlen).keep (fun q h _=>Nat.le_trans HB3.out.size h) fun _ _ _=>rfl
def cntR(vs:List VD)(b:BX):Int×Int:=if (b.ok&&svB vs)=true then(if maxC<cntE (2*b.v+1) (lenE vs b)then(0,5)else(cntE (2*b.v+1) (lenE vs b),0))else(0,1)
theorem zmZ{vs:List VD}{b:BX}(h:(b.ok&&svB vs)=true):(lenE vs b).length=vs.length+1/\vs.length<=32/\(∀q∈lenE vs b,q.1<=q.2/\q.1<=1000/\q.2<=1000)/\0<=b.v/\b.v<=1000:=by
 simp only[BX.ok,okI,svB,Bool.and_eq_true,decide_eq_true_eq,List.all_eq_true]at h;obtain⟨⟨⟨h1,h2⟩,h3⟩,h4,h5⟩:=h;refine⟨by simp[lenE],h4,fun q hq=>?_,h1.1,h1.2⟩;rcases List.mem_append.1 hq with hq|hq
 ·obtain⟨v,hv,rfl⟩:=List.mem_map.1 hq;have:=zrH (h5 v hv);unfold len1
  split
  ·exact⟨Nat.zero_le _,zO,zO⟩
  ·exact⟨zl,zO,zO⟩
 ·obtain rfl:=List.mem_singleton.1 hq;exact⟨Nat.zero_le _,zO,zO⟩
theorem zwS(vs:List VD)(b:BX)(A:Option Addr)(c:Nat)(w:World)(hrow:RowV w Any A vs)(hl:vs.length<=LV):Calls prog 37 #[.slice A vs.length c,.agg #[zi b.v,zi b.l,zi b.i]] w (NumE (cntR vs b) w):=by
 obtain⟨bv,bl,bi⟩:=b;simp only;have hb1:=zkb (zs w) (.cells #[zi bv,zi bl,zi bi] 23);have hk1:=heap_alloc_new w (.cells #[zi bv,zi bl,zi bi] 23);have ym:=zh (fun w' (hb:zw w w')=>zoP vs ⟨bv,bl,bi⟩ A c w' (hrow.later hb) hl);clear hrow hl;go_enter func37,ntmps37;go_upto_region 1 with fail;obtain⟨w1,hw1⟩:=zX (w.alloc (.cells #[zi bv,zi bl,zi bi] 23));rw[hw1]at hb1 hk1 ⊢;obtain⟨x0,x1,x2⟩:=zl6 hk1;have HB1:=zh hb1;have aC:=zh hk1;clear hw1 hb1 hk1;go_wp2_with fail;refine(ym.out _ HB1.out).mono ?_;rintro e w2 ⟨hb2,⟨hok,rfl⟩|⟨hok,A2,c2,rfl,hrb⟩⟩
 ·have HF:=zh (show cntR vs ⟨bv,bl,bi⟩=(0,1) by unfold cntR;rw[hok];rfl);have HB2:=zh (zka HB1.out hb2);clear hok x0 x1 x2 hb2;go_wp2_with fail;go_ret2;rw[HF.out];exact⟨rfl,HB2.out⟩
 ·obtain⟨l1,l2,l3,l4,l5⟩:=zmZ hok;simp only at l4 l5;have hR:cntR vs ⟨bv,bl,bi⟩=if maxC<cntE (2*bv+1) (lenE vs ⟨bv,bl,bi⟩)then(0,5)else(cntE (2*bv+1) (lenE vs ⟨bv,bl,bi⟩),0):=by unfold cntR;rw[hok];rfl
  obtain⟨bs,hbs⟩:=zX (lenE vs ⟨bv,bl,bi⟩);rw[hbs]at l1 l3 hrb hR;rw[<-l1];obtain⟨n,hn⟩:=zX (bs.length);rw[hn]at l1 ⊢;obtain⟨h,rfl⟩:∃h:Nat,bv=(h:Int):=⟨bv.toNat,zO⟩
  have HR:=zh hR;have cB:=zh hrb;have yn:=zh l3;have HN:=zh hn;have HB2:=zh (zka HB1.out hb2);have HKB2:=zh (zkc aC.out hb2);have hn33:n<=33:=zO
  have hh:h<=1000:=zO
  have wh:IntKind.i64.wrap (2*(h:Int))=2*(h:Int):=IntWalk.i64_in _ zO;have hwp:IntKind.i64.wrap (2*(h:Int)+1)=2*(h:Int)+1:=IntWalk.i64_in _ zO;clear hR hrb hbs hn l1 l2 l3 l4 l5 hok x0 x1 x2 hb2 ym;go_wp2_with fail
  go_loopw [21,8] (fun i s wr=>∃j:Nat,j<=n/\i=zi j/\s=zi (cntE (2*(h:Int)+1) (bs.take j))/\Hid (zw w2 wr)) (fun i _ _=>n-(intOf i).toNat)
  case atStart=>exact⟨0,Nat.zero_le _,rfl,rfl,zh zr⟩
  case round =>
   obtain⟨j,hj,rfl,rfl,ag⟩:=hrel;obtain⟨x0,x1,x2⟩:=zl6 (zkc HKB2.out ag.out);have rU:=zwa (v:=2*h+1) zO (by unfold maxC;omega) (bs.take j) 1 1 (fun q hq=>(yn.out q (List.mem_of_mem_take hq)).1) ⟨fun _=>Int.le_refl _,zY,zY⟩ zY;have hS:bs.foldl (fun s b=>prdE s (lcE b (2*(h:Int)+1))) 1=cntE (2*(h:Int)+1) bs:=rfl;obtain⟨S,hSS⟩:=zX (cntE (2*(h:Int)+1) (bs.take j));have hs1:1<=S/\S<=maxC+1:=by
    rw[<-hSS];exact⟨rU.2,rU.1.top⟩
   rw[hSS];clear rU hS;by_cases hlt:j<n
   ·have hj1:(j:Int)<(n:Int):=zO
    have hj0:(0:Int)<=(j:Int):=zO
    have hlb:j<bs.length:=by rw[HN.out];exact hlt
    obtain⟨a,rfl,-,p0,p1⟩:=(cB.out.later ag.out) j hlb;obtain⟨q1,q2,q3⟩:=yn.out bs[j] (List.getElem_mem hlb);have hstep:cntE (2*(h:Int)+1) (bs.take (j+1))=prdE S (lcE bs[j] (2*(h:Int)+1)):=by
     rw[List.take_succ_eq_append_getElem hlb,<-hSS];unfold cntE;rw[List.foldl_append];rfl
    have hlc:=zvp (v:=2*h+1) zO (by unfold maxC;omega) q1;have jf:=zh (fun w'=>zqe bs[j] (2*h+1) w' zO zO zO);obtain⟨⟨lo,hi⟩,hq⟩:=zX (bs[j]);rw[hq]at p0 p1 hstep hlc jf;simp only at p0 p1 jf;have HST:=zh hstep;obtain⟨M,hM⟩:=zX (lcE (lo,hi) (2*(h:Int)+1));have hcast:(((2*h+1:Nat):Int))=2*(h:Int)+1:=zO
    rw[hcast,hM]at jf hlc;rw[hM]at HST;have bV:=zh (fun w'=>zoI S M w' ⟨zO,hs1.2⟩ ⟨hlc.2,hlc.1.top⟩);have hb4:=zkb (zs wr) (.cells #[zi (lo:Int),zi (hi:Int)] 89);have hk4:=heap_alloc_new wr (.cells #[zi (lo:Int),zi (hi:Int)] 89);obtain⟨w4,hw4⟩:=zX (wr.alloc (.cells #[zi (lo:Int),zi (hi:Int)] 89));rw[hw4]at hb4 hk4;have ay:=zh (zka ag.out hb4);have y0:=zb hb4 x0;have z0:w4.cell? ⟨wr.heap.size,0,none⟩=some (zi (lo:Int)):=zc hk4 rfl;have z1:w4.cell? ⟨wr.heap.size,1,none⟩=some (zi (hi:Int)):=zc hk4 rfl;clear hstep hlc hM hq q1 q2 q3 hcast x0 x1 x2 hb4 hk4;go_wp2_with fail;refine(jf.out _).mono ?_;rintro e w5 ⟨rfl,hb5⟩;have aS:=zh (zka ay.out hb5);clear hb5 y0 z0 z1 hw4;go_wp2_with fail;refine(bV.out _).mono ?_;rintro e w6 ⟨rfl,rfl⟩;go_wp2_with fail
    go_roundw
    case rel=>exact⟨j+1,zO,by go_num,by rw[HST.out],aS⟩
    case measure=>simp[intOf];omega
   ·obtain rfl:j=n:=zO
    have hj1:¬ (j:Int)<(j:Int):=zO
    have hfin:cntE (2*(h:Int)+1) bs=S:=by rw[<-hSS,List.take_of_length_le (by rw[HN.out];exact zl)]
    have hR:=HR.out;rw[hfin]at hR;by_cases hbig:(1099511627776:Int)<S
    ·have HF:=zh (hR.trans (if_pos (show maxC<S from hbig)));clear hR hfin hSS;go_wp2_with fail;go_ret2;exact⟨by rw[HF.out];rfl,zka HB2.out ag.out⟩
    ·have HF:=zh (hR.trans (if_neg (show ¬ maxC<S from hbig)));clear hR hfin hSS;go_wp2_with fail;go_ret2;exact⟨by rw[HF.out];rfl,zka HB2.out ag.out⟩
def zLz{α:Type}(Y:Nat->α->Array Value->Nat->World->Prop)(n:Nat)(P:Program)(gf:FuncId)(lb:Array Value)(xs:List α)(R:Nat->Prop)(W:World):Prop :=
 ∀(l:Nat) (J Jx:List α->(Nat->Prop)->World->Prop) (C:Nat->Prop) (W1:World),l<W1.heap.size->(∀b,C b->¬ R b)->Chg C W W1 ->
  (∀pre C W W',J pre C W->Chg (fun b=>¬ C b) W W'->J pre C W')->(∀pre C W,J pre C W->∀b,C b->b<W.heap.size) ->
  (∀pre x C W vs g,J pre C W->(∀b,C b->b<g)->(pre++[x]) <+: xs->Y l x vs g W ->
   YieldAt (Fw none) (n-1) P l vs W fun e W' =>
    (e=.returned (.bool true)/\∃C',J (pre++[x]) C' W'/\(∀b,C' b->C b\/g<=b)/\Chg C W W') \/
    (e=.returned (.bool false)/\∃C',Jx (pre++[x]) C' W'/\Chg C W W')) ->
  J [] C W1 ->
  CallsIn (Fw none) n P gf (#[.func (.yield l) #[] #[]]++lb) W1 fun e W'=>(∃v,e=.returned v)/\((∃C',J xs C' W'/\Chg C W1 W')\/(∃pre C',Jx pre C' W'/\Chg C W1 W'))
def zK0{α:Type}(I Ix:List α->(Nat->Prop)->World->Prop)(pre:List α)(C:Nat->Prop)(g:Nat)(W:World):Exit->Act->World->Prop
 | .normal,_,W'=>∃C',I pre C' W'/\(∀b,C' b->C b\/g<=b)/\Chg C W W'
 | .ret,_,W'=>∃C',Ix pre C' W'/\(∀b,C' b->C b\/g<=b)/\Chg C W W'
 | _,_,_=>False
theorem ztK{α:Type}{Y:Nat->α->Array Value->Nat->World->Prop}{n:Nat}{P:Program}{g:Operand}{ps:Array Tmp}{assign body:Code}{Q:Exit->Act->World->Prop}{a:Act}{w:World}{gf:FuncId}{lb:Array Value}{xs:List α}{R:Nat->Prop}
  (hg:a.eval g=.func (.func gf) #[] lb)(eg:∀args w,(callFunc gf args).run P w=.ok (.enter gf args) w)(hseq:zLz Y (n-1) P gf lb xs R w)(hps:∀l x vs g W,Y l x vs g W->vs.size=ps.size/\l<g)
  (I Ix:List α->(Nat->Prop)->World->Prop)(C0:Nat->Prop)(hI:∀pre C W W',I pre C W->Chg (fun b=>¬ C b) W W'->I pre C W')(hIx:∀pre C W W',Ix pre C W->Chg (fun b=>¬ C b) W W'->Ix pre C W')
  (hIlt:∀pre C W,I pre C W->∀b,C b->b<W.heap.size)(hIxlt:∀pre C W,Ix pre C W->∀b,C b->b<W.heap.size)(hC:∀b,C0 b->¬ R b)(hRlt:∀b,R b->b<w.heap.size)(h0:I [] C0 w)
  (jo:∀l pre x C W vs g,I pre C W->(∀b,C b->b<g)->¬ C l->w.heap.size<l->l<W.heap.size->(pre++[x]) <+: xs->Y l x vs g W ->
   assign.wpIn (Fw (some l)) (n-1-1) P (Exit.then (fun a1 W1=>Chg C W W1/\∀W2,Chg (· = l) W1 W2->body.wpIn (Fw (some l)) (n-1-1) P (zK0 I Ix (pre++[x]) C g W2) a1 W2) (fun _ _ _=>False))
    { tmps:=(ps.zip vs).foldl (fun t (p,v)=>t.setIfInBounds p v) a.tmps,defers:=[] } W)
  (hdone:∀D C W',D=w.heap.size->I xs C W'->Chg C0 w W'->W'.heap[D]?=some (.deferred (some []))->Q .normal { a with defers:={ target:=.collected D,args := #[] }::a.defers } W')
  (hstop:∀D pre C W',D=w.heap.size->Ix pre C W'->Chg C0 w W'->W'.heap[D]?=some (.deferred (some []))->Code.ret.wpIn (Fw none) n P Q { a with defers:={ target:=.collected D,args := #[] }::a.defers } W') :
  (Code.rangeFunc g ps assign body).wpIn (Fw none) n P Q a w:=by
 refine wpIn_rangeFunc ?_;intro fn hfn;obtain⟨rec,hrec⟩:∃rec:LoopState->Option Code->Loop,rec=fun st pe=>{ state:=st,pending:=pe,fn,tmps:=a.tmps,params:=ps,assign,body,defers:=w.heap.size }:=⟨_,rfl⟩
 obtain⟨W1,hW1⟩:=zX ((w.alloc (.deferred (some []))).alloc (.loop (rec .ready none)));have hL1:W1.heap[w.heap.size+1]?=some (.loop (rec .ready none)):=by
  rw[<-hW1];have:=World.alloc_heap_new (w.alloc (.deferred (some []))) (.loop (rec .ready none));rwa[World.size_alloc]at this
 have hK1:W1.heap[w.heap.size]?=some (.deferred (some [])):=by
  rw[<-hW1];exact(Below.heap_alloc _ _ _ zS).trans (World.alloc_heap_new w _)
 have hb1:zw w W1:=by rw[<-hW1];exact((Below.refl _ w).alloc zl _).alloc zS _
 have hI1:I [] C0 W1:=hI _ _ _ _ h0 (Chg.of_below hb1);have iI:∀b,C0 b->b<w.heap.size:=hIlt _ _ _ h0;refine⟨w.heap.size+1,[{ target:=.collected w.heap.size,args := #[] }],W1,{ target:=.fn (.func gf) lb,args := #[.func (.yield (w.heap.size+1)) #[] #[]] },W1,gf,
  #[.func (.yield (w.heap.size+1)) #[] #[]]++lb,W1,?_,?_,(fun _ _=>trivial),?_,(fun e=>by cases e),?_⟩
 ·rw[<-hW1,hrec];exact run_enterLoop_outer _ _ _ _ _
 ·simp only[resolve,hg];simp[go_sem]
 ·simp[invoke,go_sem,eg]
 ·refine(hseq (w.heap.size+1)
   (fun pre C' W=>∃C,(∀b,C' b↔C b\/b=w.heap.size+1\/b=w.heap.size)/\I pre C W/\¬ C (w.heap.size+1)/\¬ C w.heap.size/\(∀b,C b->b<w.heap.size->C0 b)/\W.heap[w.heap.size+1]?=some (.loop (rec .ready none))/\W.heap[w.heap.size]?=some (.deferred (some [])))
   (fun pre C' W=>∃C,Ix pre C W/\¬ C (w.heap.size+1)/\W.heap[w.heap.size+1]?=some (.loop (rec .done (some .ret)))/\W.heap[w.heap.size]?=some (.deferred (some [])))
   (fun b=>C0 b\/b=w.heap.size+1\/b=w.heap.size) W1 (Array.getElem?_eq_some_iff.1 hL1).1 ?_ (Chg.of_below hb1) ?_ ?_ ?_ ⟨C0,fun _=>Iff.rfl,hI1,(fun h=>by have:=iI _ h;omega),(fun h=>by have:=iI _ h;omega),(fun _ h _=>h),hL1,hK1⟩).mono ?_
  ·intro b hb hr;have:=hRlt b hr;rcases hb with hb|hb|hb
   ·exact hC b hb hr
   ·omega
   ·omega
  ·rintro pre C' W W' ⟨C,hC',hi,h1,h2,h3,hl,hk⟩ hch;refine⟨C,hC',hI _ _ _ _ hi (hch.mono fun b _ hb hc=>hb ((hC' b).2 (.inl hc))),h1,h2,h3,hch.keep hl (fun h=>h ((hC' _).2 (.inr (.inl rfl)))),hch.keep hk (fun h=>h ((hC' _).2 (.inr (.inr rfl))))⟩
  ·rintro pre C' W ⟨C,hC',hi,h1,h2,h3,hl,hk⟩ b hb;rcases(hC' b).1 hb with hb|rfl|rfl
   ·exact hIlt _ _ _ hi b hb
   ·exact(Array.getElem?_eq_some_iff.1 hl).1
   ·exact(Array.getElem?_eq_some_iff.1 hk).1
  ·rintro pre x C' W vs g ⟨C,hC',hi,h1,h2,h3,hl,hk⟩ wJ hpre hpv;have Bf:=(hps _ _ _ _ _ hpv).2;have hlt:w.heap.size+1<W.heap.size:=(Array.getElem?_eq_some_iff.1 hl).1;have hy:=run_yield (P:=P) (args:=vs) hl (by rw[hrec];exact(hps _ _ _ _ _ hpv).1);rw[hrec]at hy;refine⟨fn,_,assign,body,hy,roundIn_of_wpIn hfn (wpIn_mono (jo (w.heap.size+1) pre x C W vs g hi (fun b hb=>wJ b ((hC' b).2 (.inl hb))) h1 zO hlt hpre hpv) ?_)⟩;rintro e a1 Wa kK
   cases e with
   | normal =>
    obtain⟨tu,hbody⟩:=kK;have hl1:=tu.keep hl h1;have hk1:=tu.keep hk h2;have hlt1:w.heap.size+1<Wa.heap.size:=(Array.getElem?_eq_some_iff.1 hl1).1;refine⟨_,run_beginRound hl1 (by rw[hrec]),?_⟩;have hl2:(Wa.putObj (w.heap.size+1) (.loop { rec .ready none with state:=.busy })).heap[w.heap.size+1]?=some (.loop { rec .ready none with state:=.busy }):=World.putObj_heap_same hlt1;have hk2:(Wa.putObj (w.heap.size+1) (.loop { rec .ready none with state:=.busy })).heap[w.heap.size]?=some (.deferred (some [])):=(World.putObj_heap_other zO).trans hk1;have hc2:Chg (fun b=>C b\/b=w.heap.size+1) W (Wa.putObj (w.heap.size+1) (.loop { rec .ready none with state:=.busy })) :=
     (tu.mono fun _ _ h=>.inl h).trans2 (Chg.putObj Wa (w.heap.size+1) _) (fun b _ h=>.inr h)
    refine wpIn_mono (hbody _ (Chg.putObj _ _ _)) ?_;have fin:∀(jump:Option Code) (W3:World),Chg C (Wa.putObj (w.heap.size+1) (.loop { rec .ready none with state:=.busy })) W3 ->
      (Instr.endRound (w.heap.size+1) jump).run P W3=.ok (.bool jump.isNone) (W3.putObj (w.heap.size+1) (.loop (rec (if jump.isNone then .ready else .done) jump))) /\
      (W3.putObj (w.heap.size+1) (.loop (rec (if jump.isNone then .ready else .done) jump))).heap[w.heap.size+1]?=some (.loop (rec (if jump.isNone then .ready else .done) jump)) /\
      (W3.putObj (w.heap.size+1) (.loop (rec (if jump.isNone then .ready else .done) jump))).heap[w.heap.size]?=some (.deferred (some [])) /\
      Chg C' W (W3.putObj (w.heap.size+1) (.loop (rec (if jump.isNone then .ready else .done) jump))):=fun jump W3 hk3=>by
     have hl3:=hk3.keep hl2 h1;have:=run_endRound (P:=P) jump hl3;rw[hrec]at this ⊢;refine⟨this,World.putObj_heap_same (Array.getElem?_eq_some_iff.1 hl3).1,(World.putObj_heap_other zO).trans (hk3.keep hk2 h2),?_⟩;have hA:Chg (fun b=>C b\/b=w.heap.size+1) W W3:=by
      have:=hc2;rw[hrec]at this hk3;exact this.trans2 hk3 (fun b _ h=>.inl h)
     exact(hA.trans2 (Chg.putObj W3 (w.heap.size+1) _) (fun b _ h=>.inr h)).mono fun b _ hb=>(hC' b).2 (by rcases hb with hb|hb;exact .inl hb;exact .inr (.inl hb))
    rintro e3 a3 W3 hp;have hsz:W.heap.size<=(Wa.putObj (w.heap.size+1) (.loop { rec .ready none with state:=.busy })).heap.size:=hc2.size
    cases e3 with
    | normal =>
     obtain⟨C3,hi3,jG,jA⟩:=hp;have dh:∀b,C3 b->C b\/g<=b:=jG;obtain⟨hr,hl4,hk4,dn⟩:=fin none W3 jA;have dm:¬ C3 (w.heap.size+1):=fun h=>by rcases dh _ h with h|h;exact h1 h;omega
     have sF:¬ C3 w.heap.size:=fun h=>by rcases dh _ h with h|h;exact h2 h;omega
     refine⟨_,_,hr,.inl ⟨rfl,fun b=>C3 b\/b=w.heap.size+1\/b=w.heap.size,⟨C3,fun _=>Iff.rfl,hI _ _ _ _ hi3 ((Chg.putObj _ _ _).mono fun b _ hb hc=>dm (hb▸hc)),dm,sF,?_,hl4,hk4⟩,?_,dn⟩⟩
     ·intro b hb hlt';rcases dh b hb with hb|hb
      ·exact h3 b hb hlt'
      ·omega
     ·intro b hb;rcases hb with hb|hb
      ·rcases dh b hb with hb|hb
       ·exact .inl ((hC' b).2 (.inl hb))
       ·exact .inr zO
      ·exact .inl ((hC' b).2 (.inr hb))
    | ret =>
     obtain⟨C3,hi3,jG,jA⟩:=hp;have dh:∀b,C3 b->C b\/g<=b:=jG;obtain⟨hr,hl4,hk4,dn⟩:=fin (some .ret) W3 jA;have dm:¬ C3 (w.heap.size+1):=fun h=>by rcases dh _ h with h|h;exact h1 h;omega
     exact⟨_,_,hr,.inr ⟨rfl,fun _=>True,⟨C3,hIx _ _ _ _ hi3 ((Chg.putObj _ _ _).mono fun b _ hb hc=>dm (hb▸hc)),dm,hl4,hk4⟩,dn⟩⟩
    | exit id=>exact hp.elim
    | goto t=>exact hp.elim
    | panic ch=>exact hp.elim
    | outgrown=>exact hp.elim
   | exit id=>exact kK.elim
   | goto t=>exact kK.elim
   | ret=>exact kK.elim
   | panic ch=>exact kK.elim
   | outgrown=>exact kK.elim
  ·rintro e W2 ⟨⟨v,rfl⟩,(⟨C',⟨C,hC',hi,h1,h2,h3,hl,hk⟩,hch⟩|⟨pre,C',⟨C,hi,h1,hl,hk⟩,hch⟩)⟩
   all_goals
    have hw2:Chg C0 w W2:=((Chg.of_below hb1).trans2 hch fun b hb hc=>by rcases hc with hc|hc|hc;exact hc;omega;omega)
    have hfin:∀o,Chg C0 w (W2.putObj (w.heap.size+1) o):=fun o=>hw2.trans2 (Chg.putObj W2 (w.heap.size+1) o) fun b hb hc=>zO
   ·exact⟨none,_,by have:=run_endLoop (P:=P) hl (by rw[hrec];simp);rw[hrec]at this;exact this,hdone _ C _ rfl (hI _ _ _ _ hi ((Chg.putObj W2 (w.heap.size+1) _).mono fun b _ (hb:b=w.heap.size+1) hc=>h1 (hb▸hc))) (hfin _) ((World.putObj_heap_other zO).trans hk)⟩
   ·exact⟨some .ret,_,by have:=run_endLoop (P:=P) hl (by rw[hrec];simp);rw[hrec]at this;exact this,hstop _ pre C _ rfl (hIx _ _ _ _ hi ((Chg.putObj W2 (w.heap.size+1) _).mono fun b _ (hb:b=w.heap.size+1) hc=>h1 (hb▸hc))) (hfin _) ((World.putObj_heap_other zO).trans hk)⟩
structure DK where
 l:Nat
 lb:Nat
 yb:Nat
 bb:Nat
 tb:Nat
 hb:Nat
 nb:Nat
 sb:Nat
 rb:Nat
 tr:Nat
 A:Option Addr
 c:Nat
 tc:Nat
abbrev ptr0(b:Nat):Value:=.pointer (some ⟨b,0,none⟩)
abbrev DK.cap1(Z:DK):Array Value := #[ptr0 Z.lb,ptr0 Z.yb,ptr0 Z.bb,ptr0 Z.tb,ptr0 Z.hb,ptr0 Z.nb]
abbrev DK.cap2(Z:DK):Array Value := #[ptr0 Z.lb,ptr0 Z.sb,ptr0 Z.hb,ptr0 Z.tb,ptr0 Z.nb]
structure DW(Z:DK)(bs:List Bn)(h:Nat)(B:Nat->Prop)(W:World):Prop where
 lists:W.heap[Z.lb]?=some (.cells #[.slice (some ⟨Z.rb,0,none⟩) bs.length bs.length] 41 (0,0))
 yld:W.heap[Z.yb]?=some (.cells #[.func (.yield Z.l) #[] #[]] 86 (0,0))
 ls:W.heap[Z.bb]?=some (.cells #[.slice Z.A bs.length Z.c] 83 (0,0))
 rest:W.heap[Z.tb]?=some (.cells #[.slice (some ⟨Z.tr,0,none⟩) (bs.length+1) Z.tc] 83 (0,0))
 hv:W.heap[Z.hb]?=some (.cells #[.int .i64 (h:Int)] 3 (0,0))
 num:W.heap[Z.nb]?=some (.cells #[.func (.func 71) #[] Z.cap2] 120 (0,0))
 slf:W.heap[Z.sb]?=some (.cells #[.func (.func 70) #[] Z.cap1] 119 (0,0))
 row:RowB W B Z.A bs
 rst:zrx W Z.tr h bs
 kb:B Z.lb/\B Z.yb/\B Z.bb/\B Z.tb/\B Z.hb/\B Z.nb/\B Z.sb/\B Z.tr
 lt:∀b,B b->b<W.heap.size
theorem DW.chg{Z:DK}{bs:List Bn}{h:Nat}{B D:Nat->Prop}{W W':World}(hd:DW Z bs h B W)(hc:Chg D W W')(hD:∀b,B b->¬ D b):DW Z bs h B W':=by
 obtain⟨h1,h2,h3,h4,h5,h6,h7,h8,h9,hk,hl⟩:=hd;obtain⟨k1,k2,k3,k4,k5,k6,k7,k8⟩:=hk;exact⟨hc.keep h1 (hD _ k1),hc.keep h2 (hD _ k2),hc.keep h3 (hD _ k3),hc.keep h4 (hD _ k4),hc.keep h5 (hD _ k5),hc.keep h6 (hD _ k6),hc.keep h7 (hD _ k7),h8.keep (fun _ h _=>h) fun b hb hlt=>hc.block b hlt (hD b hb),h9.keep (hc.block _ (hl _ k8) (hD _ k8)),⟨k1,k2,k3,k4,k5,k6,k7,k8⟩,fun b hb=>Nat.lt_of_lt_of_le (hl b hb) hc.size⟩
structure RowQ(Z:DK)(n:Nat)(W:World)(p:List (List Int))(m f:Nat->Nat):Prop where
 row:∃us:Array Value,W.heap[Z.rb]?=some (.cells us 42 (0,0))/\us.size=n/\∀j,j<p.length->us[j]?=some (.slice (some ⟨f j,0,none⟩) (m j) (m j))
 el:∀j (hj:j<p.length),∃vs:Array Value,W.heap[f j]?=some (.cells vs 3 (0,0))/\vs.size=m j/\p[j].length<=m j/\∀i (hi:i<p[j].length),vs[i]?=some (.int .i64 p[j][i])
 ne:∀j,j<p.length->f j≠Z.rb
 inj:∀i j,i<p.length->j<p.length->f i=f j->i=j
 fits:∀x∈p,∀e∈x,I64 e
theorem RowQ.lt{Z:DK}{n:Nat}{W:World}{p:List (List Int)}{m f:Nat->Nat}(h:RowQ Z n W p m f):Z.rb<W.heap.size/\∀j,j<p.length->f j<W.heap.size:=by
 obtain⟨us,hu,-⟩:=h.row;exact⟨zkf hu,fun j hj=>by obtain⟨vs,hv,-⟩:=h.el j hj;exact zkf hv⟩
theorem RowQ.chg{Z:DK}{n:Nat}{W W':World}{p:List (List Int)}{m f:Nat->Nat}{D:Nat->Prop}(h:RowQ Z n W p m f)(hc:Chg D W W')(h1:¬ D Z.rb)(h2:∀j,j<p.length->¬ D (f j)):RowQ Z n W' p m f:=by
 obtain⟨us,hu,hs,hr⟩:=h.row;refine⟨⟨us,hc.keep hu h1,hs,hr⟩,fun j hj=>?_,h.ne,h.inj,h.fits⟩;obtain⟨vs,hv,h3⟩:=h.el j hj;exact⟨vs,hc.keep hv (h2 j hj),h3⟩
structure SepQ(Z:DK)(B:Nat->Prop)(n:Nat)(f:Nat->Nat)(C:Nat->Prop):Prop where
 b:∀q,B q->¬ C q
 r:¬ C Z.rb
 fc:∀j,j<n->¬ C (f j)
 br:¬ B Z.rb
 bf:∀j,j<n->¬ B (f j)
theorem SepQ.grow{Z:DK}{bs:List Bn}{h:Nat}{B C C':Nat->Prop}{W:World}{p:List (List Int)}{m f:Nat->Nat}(hs:SepQ Z B p.length f C)(hd:DW Z bs h B W)(hq:RowQ Z bs.length W p m f)(hC:∀b,C' b->C b\/W.heap.size<=b):SepQ Z B p.length f C' :=
 ⟨fun q hq' h=>(hC q h).elim (hs.b q hq') fun h=>by have:=hd.lt q hq';omega,fun h=>(hC _ h).elim hs.r fun h=>by have:=hq.lt.1;omega,fun j hj h=>(hC _ h).elim (hs.fc j hj) fun h=>by have:=hq.lt.2 j hj;omega,hs.br,hs.bf⟩
def stOf(x:List (List Int)):SS:=⟨x.dropLast,x.getLastD [],[]⟩
def zue(J Jx:List SS->(Nat->Prop)->World->Prop)(Z:DK)(n:Nat)(D:Nat->Prop)(pre xs:List SS)(p:List (List Int))(m f:Nat->Nat)(C:Nat->Prop)(W:World)(e:Ending)(W':World):Prop :=
 (e=.returned (.bool true)/\∃C',J (pre++xs) C' W'/\(∀b,C' b->C b\/W.heap.size<=b)/\Chg (fun b=>C b\/D b) W W'/\RowQ Z n W' p m f) \/
 (e=.returned (.bool false)/\∃pre' C',Jx pre' C' W'/\Chg (fun b=>C b\/D b) W W')
def YS(l:Nat)(s:SS)(vs:Array Value)(g:Nat)(W:World):Prop:=∃v,vs = #[v]/\SV W (fun q=>g<=q) s v/\l<g/\g<=W.heap.size
structure DB(bs:List Bn)(h:Nat):Prop where
 n:bs.length<=100
 b:∀b∈bs,b.1<=1000/\b.2<=1000
 hm:h<=10000
 h1:1<=h
 ne:1<=bs.length
theorem zn9{p:List (List Int)}{n:Nat}(hn:p.length=n)(h1:1<=n):p.getLastD []=p[n-1]:=by
 have hne:p≠[]:=by rintro rfl;simp at hn;omega
 subst hn;rw[<-List.getLast_eq_getElem hne]
 cases p with
 | nil=>exact(hne rfl).elim
 | cons a p=>rfl
theorem RowQ.sv{Z:DK}{n:Nat}{W:World}{p:List (List Int)}{m f:Nat->Nat}(h:RowQ Z n W p m f)(hn:p.length=n)(h1:1<=n)(hn2:n<=100)(hf:∀j (hj:j<p.length),m j=p[j].length)(hm:∀j,j<p.length->m j<=1000) :
  SV W Any (stOf p) (.agg #[.slice (some ⟨Z.rb,0,none⟩) (n-1) n,.slice (some ⟨f (n-1),0,none⟩) (m (n-1)) (m (n-1)),zn]):=by
 obtain⟨us,hu,iw,hr⟩:=h.row;have hrow:∀j (hj:j<p.length),RowI W Any (some ⟨f j,0,none⟩) p[j]:=fun j hj i hi=>by
  obtain⟨vs,hv,h3,h4,h5⟩:=h.el j hj;refine⟨_,rfl,trivial,?_,h.fits _ (List.getElem_mem hj) _ (List.getElem_mem hi)⟩;rw[Addr.add_lit,Nat.zero_add];exact zc hv (h5 i hi)
 have hcl:(stOf p).cells.length=n-1:=by simp[stOf,hn]
 have htl:(stOf p).tin=p[n-1]:=zn9 hn h1;have hti:(stOf p).tin.length=m (n-1):=by rw[htl,hf (n-1) zO]
 have hcg:∀i (hi:i<(stOf p).cells.length),(stOf p).cells[i]=p[i]'(by rw[hcl]at hi;omega):=fun i hi=>by simp[stOf]
 refine⟨some ⟨Z.rb,0,none⟩,n,some ⟨f (n-1),0,none⟩,m (n-1),none,0,by rw[hcl,hti];rfl,fun i hi=>?_,?_,fun i hi=>absurd hi (Nat.not_lt_zero i),by rw[hcl];omega,by rw[hti];exact zl,zl,?_⟩
 ·have wo:i<p.length:=by rw[hcl]at hi;omega
  have hl:(stOf p).cells[i].length=m i:=by rw[hcg i hi,hf i wo]
  refine⟨⟨Z.rb,0,none⟩,some ⟨f i,0,none⟩,m i,rfl,trivial,?_,by rw[hl];exact zl,?_⟩
  ·rw[Addr.add_lit,Nat.zero_add,hl];exact zc hu (hr i wo)
  ·rw[hcg i hi];exact hrow i wo
 ·rw[htl];exact hrow (n-1) zO
 ·refine⟨by rw[hcl];unfold LI;omega,fun l hl=>?_,by rw[hti];have:=hm (n-1) zO;unfold LI;omega,Nat.zero_le _⟩;obtain⟨i,hi,rfl⟩:=List.mem_iff_getElem.1 hl;have wo:i<p.length:=by rw[hcl]at hi;omega
  rw[hcg i hi,<-hf i wo];have:=hm i wo;unfold LI;omega
def zyF(J Jx:List SS->(Nat->Prop)->World->Prop)(Z:DK)(bs:List Bn)(h:Nat)(B:Nat->Prop)(tot:List SS)(rs:List Bn):Prop :=
 ∀(p:List (List Int)) (m f:Nat->Nat) (pre:List SS) (C:Nat->Prop) (W:World) (left:Int),bs.drop p.length=rs->p.length<=bs.length->J pre C W->DW Z bs h B W->RowQ Z bs.length W p m f->SepQ Z B p.length f C ->
  (∀j (hj:j<p.length),m j=p[j].length)->(∀j,j<p.length->m j<=1000)->(0<=left/\left<=100000000000)->(pre++(zk9 h rs left).map fun ls=>stOf (p++ls)) <+: tot ->
  Calls prog 70 (#[zi (p.length:Int),zi left]++Z.cap1) W (zue J Jx Z bs.length (fun b=>b=Z.rb) pre ((zk9 h rs left).map fun ls=>stOf (p++ls)) p m f C W)
def hdA(q:List Int):List (List Int)->List (List Int)
 | []=>[]
 | l::ls=>(q++l)::ls
def NumC(J Jx:List SS->(Nat->Prop)->World->Prop)(Z:DK)(bs:List Bn)(h:Nat)(B:Nat->Prop)(tot:List SS)(rs:List Bn)(k:Nat):Prop :=
 ∀(p:List (List Int)) (q:List Int) (m f:Nat->Nat) (pre:List SS) (C:Nat->Prop) (W:World) (left:Int),bs.drop (p.length+1)=rs->p.length+1<=bs.length->J pre C W->DW Z bs h B W->RowQ Z bs.length W (p++[q]) m f->SepQ Z B (p.length+1) f C ->
  (∀j (hj:j<p.length),m j=p[j].length)->(∀j,j<p.length+1->m j<=1000)->m p.length=q.length+k->(0<=left/\left<=100000000000)->(pre++(numE h rs (zk9 h rs) k left).map fun z=>stOf (p++hdA q z)) <+: tot ->
  Calls prog 71 (#[zi (p.length:Int),zi (q.length:Int),zi left]++Z.cap2) W (zue J Jx Z bs.length (fun b=>b=Z.rb\/b=f p.length) pre ((numE h rs (zk9 h rs) k left).map fun z=>stOf (p++hdA q z)) (p++[q]) m f C W)
structure JC(J Jx:List SS->(Nat->Prop)->World->Prop)(n l:Nat)(tot:List SS):Prop where
 keep:∀pre C W W',J pre C W->Chg (fun b=>¬ C b) W W'->J pre C W'
 lt:∀pre C W,J pre C W->∀b,C b->b<W.heap.size
 y:∀pre x C W vs g,J pre C W->(∀b,C b->b<g)->(pre++[x]) <+: tot->YS l x vs g W->YieldAt (Fw none) (n-1) prog l vs W fun e W' =>
    (e=.returned (.bool true)/\∃C',J (pre++[x]) C' W'/\(∀b,C' b->C b\/g<=b)/\Chg C W W') \/
    (e=.returned (.bool false)/\∃C',Jx (pre++[x]) C' W'/\Chg C W W')
theorem ztX:IsFn prog 31 f31:=⟨func31,zK,zK⟩
theorem bSt2(A B:Option Addr)(m d n e:Nat)(w:World):(Instr.build 44 #[(0,.slice A m d),(1,.slice B n e)]).run prog w=.ok (.agg #[.slice A m d,.slice B n e,zn]) w:=zK
theorem zxG{J Jx:List SS->(Nat->Prop)->World->Prop}{Z:DK}{bs:List Bn}{h nf:Nat}{B:Nat->Prop}{tot:List SS}(hj:JC J Jx nf Z.l tot)(hb:DB bs h)(hl:∀W,DW Z bs h B W->Z.l<W.heap.size):zyF J Jx Z bs h B tot []:=by
 intro p m f pre C W left hrs hpl hJ hD hQ hS hm hm2 hleft hpre;have hpn:p.length=bs.length:=by have:=congrArg List.length hrs;rw[List.length_drop]at this;simp at this;omega
 have hn1:=hb.ne;have hn2:=hb.n;obtain⟨n,hn⟩:=zX (bs.length);have hx:(zk9 h [] left).map (fun ls=>stOf (p++ls))=[stOf p]:=by simp[zk9]
 rw[hx]at hpre ⊢;have hsv:=hQ.sv hpn hn1 hn2 hm hm2;obtain⟨us,hu,iw,hur⟩:=hQ.row;have x0:W.cell? ⟨Z.lb,0,none⟩=some (.slice (some ⟨Z.rb,0,none⟩) bs.length bs.length):=zc hD.lists rfl;have x1:W.cell? ⟨Z.yb,0,none⟩=some (.func (.yield Z.l) #[] #[]):=zc hD.yld rfl;have x2:W.cell? ⟨Z.rb,bs.length-1,none⟩=some (.slice (some ⟨f (bs.length-1),0,none⟩) (m (bs.length-1)) (m (bs.length-1))):=zc hu (hur _ zO);rw[hpn];rw[hn]at hpn hn1 hn2 x0 x2 hsv ⊢;have HJ:=zh hj;have lh:=zh hJ;have HD:=zh hD;have HQ:=zh hQ;have HS:=zh hS;have dH:=zh hpre;have nz:=zh hsv;have HN:=zh hn;have oH:=zh (show(stOf p).Lim from by obtain⟨_,_,_,_,_,_,_,_,_,_,_,_,_,h⟩:=hsv;exact h);have gQ:=zh (hl W hD);have hwn:IntKind.i64.wrap ((n:Int)-1)=((n-1:Nat):Int):=by rw[show((n-1:Nat):Int)=(n:Int)-1 by omega];exact IntWalk.i64_in _ zO
 clear hj hJ hD hQ hS hpre hsv hu hur hrs hm hm2 hleft hx hb hl hpl;obtain⟨F,hF⟩:=zX (f (n-1));obtain⟨M,hM⟩:=zX (m (n-1));rw[hF,hM]at x2 nz;go_enter func70,ntmps70;go_upto_region 2 with fail;have hp0:(0:Int)<=((n-1:Nat):Int):=zO
 have hp1:((n-1:Nat):Int)<(n:Int):=zO
 have hp2:((n-1:Nat):Int)<=(n:Int):=zO
 go_quiet (fail)
 have hb2:=zkM (zs W) nq;obtain⟨w2,hw2⟩:=zX (W.drewN nq);rw[hw2]at hb2;rw[hw2]
 replace x1:=zb hb2 x1
 have HB2:=zh hb2;clear hw2 hb2 x0 x2 hp0 hp1 hp2;go_upto_region 3 with fail;have hbs:=bSt2;have hSS:(fun w':World=>zv w' Z.yb 0 (.func (.yield Z.l) #[] #[])) w2.drew:=x1;refine wp_region_noPanic ?_;refine(wpIn_wide (n:=nf)).1 ?_;refine zms (ro:=none) (fun w':World=>zv w' Z.yb 0 (.func (.yield Z.l) #[] #[])) zK ?_;clear x1;refine zI 0 hSS ?_;refine zI 1 hSS ?_;refine zI 2 hSS ?_;refine zI 3 hSS ?_;have hcl:=zqB (stOf p) _ w2.drew ((nz.out.later HB2.out).later zr.drew) (by simp only[stOf,List.length_dropLast];omega);have had:Calls prog 31 [.agg #[.slice (some ⟨Z.rb,0,none⟩) (n-1) n,.slice (some ⟨F,0,none⟩) M M,zn]].toArray w2.drew fun e w'=>∃u,e=.returned u/\(SV w' (fun q=>w2.heap.size<=q) (stOf p) u/\zw w2 w') :=
  hcl.mono fun e w' ⟨v,h1,h2,h3⟩=>⟨v,h1,h2.svR oH.out,zka (zs w2).drew h3⟩
 refine znM (i:=4) zK rfl zK zR (fun K hK=>?_);refine zke zR (.func 31) [.tmp 32] _ zR 31 _ ztX zR _ zR _ had ?_;rintro v3 w3 ⟨hs3,hb3⟩;have aV:(fun w':World=>zv w' Z.yb 0 (.func (.yield Z.l) #[] #[])) w3:=zb hb3 hSS;refine hK.out _ _ aV ?_;clear hK K had hcl hSS;(try simp only[zQ]);have ow:=zka HB2.out hb3;have qI:=HJ.out.keep _ _ _ _ lh.out (Chg.of_below ow);obtain⟨zN,lX,zP,zO,Ao,wX⟩:=HJ.out.y pre (stOf p) C w3 #[v3] w2.heap.size qI (fun b hb=>Nat.lt_of_lt_of_le (HJ.out.lt _ _ _ lh.out b hb) HB2.out.size) dH.out ⟨v3,rfl,hs3,(by have:=gQ.out;have:=HB2.out.size;omega),hb3.size⟩;refine zqC (i:=5) zK rfl zK zR (l:=Z.l) (f:=zN) (tmps:=lX) (assign:=zP) (body:=zO) ?_ wX ?_
 ·(try simp only[zA,zB,zC]);go_simp
 ·clear Ao wX;have HB3:=zh ow;have ny:=zh (show W.heap.size<=w2.heap.size from HB2.out.size);rintro e W1 hR;have hy1:W1.heap[Z.yb]?=w3.heap[Z.yb]?:=by
   have hlt:=HD.out.lt _ HD.out.kb.2.1;have hnc:=HS.out.b _ HD.out.kb.2.1;rcases hR with⟨_,C1,_,_,hch⟩|⟨_,C1,_,hch⟩<;>exact hch.block _ (Nat.lt_of_lt_of_le hlt HB3.out.size) hnc
  have dY:(fun w':World=>zv w' Z.yb 0 (.func (.yield Z.l) #[] #[])) W1:=zkN aV hy1;have hfin:∃b:Bool,e=.returned (.bool b)/\zue J Jx Z n (fun b=>b=Z.rb) pre [stOf p] p m f C W (.returned (.bool b)) W1:=by
   have hch':Chg C w3 W1->Chg (fun b=>C b\/b=Z.rb) W W1:=fun h=>(Chg.of_below HB3.out).trans2 h fun b _ h=>.inl h;rcases hR with⟨rfl,C1,hj1,bz,hch⟩|⟨rfl,C1,o9,hch⟩
   ·refine⟨true,rfl,.inl ⟨rfl,C1,hj1,fun b h=>(bz b h).imp id fun h=>Nat.le_trans ny.out h,hch' hch,?_⟩⟩;have h3:=HQ.out.chg (D:=C) ((Chg.of_below HB3.out).trans2 hch fun b _ h=>h) HS.out.r HS.out.fc;have:=HN.out;rwa[this]at h3
   ·exact⟨false,rfl,.inr ⟨rfl,_,C1,o9,hch' hch⟩⟩
  obtain⟨b,rfl,hP⟩:=hfin;have HP:=zh hP;refine⟨_,rfl,dY,?_⟩;(try simp only[zQ]);refine zI 6 dY ?_;refine zoh zK ?_;refine NoPanic.normal ?_;clear hP hR hy1 dY qI hb3 hs3 ow aV;go_wp2_with fail;go_ret;exact HP.out
section
variable {Z:DK} {n:Nat} {W W':World} {p:List (List Int)} {q:List Int} {m f:Nat->Nat}
theorem zqt{p:List (List Int)}{q:List Int}{j:Nat}(hj:j<(p++[q]).length):(j<p.length/\∃h:j<p.length,(p++[q])[j]=p[j])\/(j=p.length/\(p++[q])[j]=q):=by
 by_cases h:j<p.length
 ·exact .inl ⟨h,h,List.getElem_append_left h⟩
 ·have:j=p.length:=by simp at hj;omega
  subst this;exact .inr ⟨rfl,zS⟩
theorem RowQ.pop{q':List Int}(h:RowQ Z n W (p++[q']) m f)(hq:q <+: q'):RowQ Z n W (p++[q]) m f:=by
 have hl:(p++[q']).length=(p++[q]).length:=zS
 refine⟨by rw[<-hl];exact h.row,fun j hj=>?_,fun j hj=>h.ne j (by rw[hl];exact hj),fun i j hi hj=>h.inj i j (by rw[hl];exact hi) (by rw[hl];exact hj),fun x hx e he=>?_⟩
 ·obtain⟨vs,h1,h2,h3,h4⟩:=h.el j (by rw[hl];exact hj);rcases zqt hj with⟨hjp,_,e⟩|⟨rfl,e⟩
  ·have e2:(p++[q'])[j]'(by rw[hl];exact hj)=p[j]:=List.getElem_append_left hjp;simp only[e,e2]at h3 h4 ⊢;exact⟨vs,h1,h2,h3,h4⟩
  ·have e2:(p++[q'])[p.length]'zS=q':=zS
   simp only[e,e2]at h3 h4 ⊢;exact⟨vs,h1,h2,Nat.le_trans hq.length_le h3,fun i hi=>by rw[h4 i (Nat.lt_of_lt_of_le hi hq.length_le)];congr 2;exact(hq.getElem hi).symm⟩
 ·rcases List.mem_append.1 hx with hx|hx
  ·exact h.fits x (List.mem_append.2 (.inl hx)) e he
  ·obtain rfl:=List.mem_singleton.1 hx;exact h.fits q' zS e (hq.subset he)
theorem RowQ.dropL(h:RowQ Z n W (p++[q]) m f):RowQ Z n W p m f:=by
 obtain⟨us,h1,h2,h3⟩:=h.row;refine⟨⟨us,h1,h2,fun j hj=>h3 j (by simp;omega)⟩,fun j hj=>?_,fun j hj=>h.ne j (by simp;omega),fun i j hi hj=>h.inj i j (by simp;omega) (by simp;omega),fun x hx=>h.fits x (List.mem_append.2 (.inl hx))⟩;obtain⟨vs,h1,h2,h3⟩:=h.el j (by simp;omega);simp only[List.getElem_append_left hj]at h3;exact⟨vs,h1,h2,h3⟩
theorem RowQ.put{x:Int}(h:RowQ Z n W (p++[q]) m f)(hm:q.length<m p.length)(hx:I64 x)(hc:Chg (fun b=>b=f p.length) W W')
  (hk:∀vs,W.heap[f p.length]?=some (.cells vs 3 (0,0))->W'.heap[f p.length]?=some (.cells (vs.setIfInBounds q.length (zi x)) 3 (0,0))):RowQ Z n W' (p++[q++[x]]) m f:=by
 have hl:(p++[q++[x]]).length=(p++[q]).length:=zS
 have hpl:p.length<(p++[q]).length:=zS
 obtain⟨us,h1,h2,h3⟩:=h.row;refine⟨⟨us,hc.keep h1 fun e=>h.ne _ hpl e.symm,h2,by rw[hl];exact h3⟩,fun j hj=>?_,fun j hj=>h.ne j (by rw[<-hl];exact hj),fun i j hi hj=>h.inj i j (by rw[<-hl];exact hi) (by rw[<-hl];exact hj),fun y hy e he=>?_⟩
 ·obtain⟨vs,v1,v2,v3,v4⟩:=h.el j (by rw[<-hl];exact hj);rcases zqt hj with⟨hjp,_,e⟩|⟨rfl,e⟩
  ·have e2:(p++[q])[j]'(by rw[<-hl];exact hj)=p[j]:=List.getElem_append_left hjp;simp only[e,e2]at v3 v4 ⊢;exact⟨vs,hc.keep v1 fun e=>by have:=h.inj _ _ (by rw[<-hl];exact hj) hpl e;omega,v2,v3,v4⟩
  ·have e2:(p++[q])[p.length]'zS=q:=zS
   simp only[e,e2]at v3 v4 ⊢;refine⟨_,hk vs v1,by simpa using v2,by rw[List.length_append];simp;omega,fun i hi=>?_⟩;by_cases hiq:i=q.length
   ·subst hiq;rw[Array.getElem?_setIfInBounds_self_of_lt zO];simp
   ·have hi2:i<q.length:=by simp at hi;omega
    rw[Array.getElem?_setIfInBounds_ne zO,List.getElem_append_left hi2];exact v4 i hi2
 ·rcases List.mem_append.1 hy with hy|hy
  ·exact h.fits y (List.mem_append.2 (.inl hy)) e he
  ·obtain rfl:=List.mem_singleton.1 hy;rcases List.mem_append.1 he with he|he
   ·exact h.fits q zS e he
   ·obtain rfl:=List.mem_singleton.1 he;exact hx
end
theorem zzU(q:List Int)(x:Int)(z:List (List Int)):hdA q (hdC x z)=hdA (q++[x]) z:=by
 cases z with
 | nil=>rfl
 | cons l ls=>simp[hdA,hdC]
theorem zzT(q:List Int)(ls:List (List Int))(p:List (List Int)):p++hdA q ([]::ls)=(p++[q])++ls:=by simp[hdA]
theorem zxw{J Jx:List SS->(Nat->Prop)->World->Prop}{Z:DK}{bs rs:List Bn}{h:Nat}{B:Nat->Prop}{tot:List SS}(hb:DB bs h)(hL:zyF J Jx Z bs h B tot rs):NumC J Jx Z bs h B tot rs 0:=by
 intro p q m f pre C W left hrs hpl hJ hD hQ hS hm hm2 hmk hleft hpre;have hx:(numE h rs (zk9 h rs) 0 left).map (fun z=>stOf (p++hdA q z))=(zk9 h rs left).map fun ls=>stOf ((p++[q])++ls):=by
  simp only[numE,List.map_map,Function.comp_def,zzT]
 rw[hx]at hpre ⊢;have hlen:(p++[q]).length=p.length+1:=zS
 have hC:=hL (p++[q]) m f pre C W left (by rw[hlen];exact hrs) (by rw[hlen];exact hpl) hJ hD hQ (by rw[hlen];exact hS) (fun j hj=>by
  rcases zqt hj with⟨hjp,_,e⟩|⟨rfl,e⟩
  ·rw[e];exact hm j hjp
  ·rw[e];omega) (fun j hj=>hm2 j (by rw[<-hlen];exact hj)) hleft hpre
 rw[hlen]at hC;have HC:=zh hC;obtain⟨us,hu,iw,hur⟩:=hQ.row;have x0:W.cell? ⟨Z.lb,0,none⟩=some (.slice (some ⟨Z.rb,0,none⟩) bs.length bs.length):=zc hD.lists rfl;have x1:W.cell? ⟨Z.rb,p.length,none⟩=some (.slice (some ⟨f p.length,0,none⟩) (m p.length) (m p.length)):=zc hu (hur _ zS);have x2:W.cell? ⟨Z.sb,0,none⟩=some (.func (.func 70) #[] Z.cap1):=zc hD.slf rfl;rw[hmk,Nat.add_zero]at x1;have hbn:=hb.n;obtain⟨n,hn⟩:=zX (bs.length);rw[hn]at x0 hpl hbn;obtain⟨c,hc⟩:=zX (p.length);rw[hc]at x1 hpl ⊢;have hp1:(c:Int)<(n:Int):=zO
 have hwc:IntKind.i64.wrap ((c:Int)+1)=((c+1:Nat):Int):=IntWalk.i64_in _ zO;have HN:=zh hn;have aI:=zh hc;obtain⟨R,hR⟩:=zX (zue J Jx Z bs.length (fun b=>b=Z.rb) pre ((zk9 h rs left).map fun ls=>stOf (p++[q]++ls)) (p++[q]) m f C W);have HR:=zh (show ∀e w',R e w'->zue J Jx Z bs.length (fun b=>b=Z.rb\/b=f c) pre ((zk9 h rs left).map fun ls=>stOf (p++[q]++ls)) (p++[q]) m f C W e w'/\∃b,e=.returned (.bool b)from fun e w' hr=>by
  rw[<-hR]at hr;rcases hr with⟨rfl,C',h1,h2,h3,h4⟩|⟨rfl,pre',C',h1,h2⟩
  ·exact⟨.inl ⟨rfl,C',h1,h2,h3.mono fun b _ h=>h.imp id .inl,h4⟩,_,rfl⟩
  ·exact⟨.inr ⟨rfl,pre',C',h1,h2.mono fun b _ h=>h.imp id .inl⟩,_,rfl⟩)
 rw[hR,hc]at HC;rw[HN.out]at HR ⊢;clear hJ hD hQ hS hpre hu hur iw hrs hm hm2 hmk hleft hx hb hL hlen hC hn hc hR;go_enter func71,ntmps71;go_wp2_with fail;refine HC.out.mono ?_;rintro e w2 hr;obtain⟨h1,b,rfl⟩:=HR.out e w2 hr;have H1:=zh h1;clear h1 hr;go_wp2_with fail;go_ret;exact H1.out
theorem zoY{α β:Type}(F:α->List β)(g:Nat->α){j n:Nat}(hj:j<n):(List.range j).flatMap (fun i=>F (g i))++F (g j) <+: (List.range n).flatMap (fun i=>F (g i)):=by
 have e:(List.range j).flatMap (fun i=>F (g i))++F (g j)=(List.range (j+1)).flatMap (fun i=>F (g i)):=by rw[List.range_succ,List.flatMap_append];simp
 rw[e];obtain⟨d,rfl⟩:∃d,n=(j+1)+d:=⟨n-(j+1),zO⟩
 rw[List.range_add (n:=j+1) (m:=d),List.flatMap_append];exact List.prefix_append _ _
theorem zoH{β:Type}(F:Int->List β)(lo hi:Int):(ranE lo hi).flatMap F=(List.range (hi-lo+1).toNat).flatMap fun(i:Nat)=>F (lo+(i:Int)):=by
 unfold ranE;rw[List.flatMap_map]
theorem zw7{r:Int}(h0:0<=r)(h1:r<=1000000):I64 (unrk r):=by
 have:=zuz (v:=500000) h0 zO;unfold I64;omega
theorem zxx{J Jx:List SS->(Nat->Prop)->World->Prop}{Z:DK}{bs rs:List Bn}{h nf:Nat}{B:Nat->Prop}{tot:List SS}(hj:JC J Jx nf Z.l tot)(hb:DB bs h){k:Nat}(hN:NumC J Jx Z bs h B tot rs k):NumC J Jx Z bs h B tot rs (k+1):=by
 intro p q m f pre C W left hrs hpl hJ hD hQ hS hm hm2 hmk hleft hpre;obtain⟨us,hu,iw,hur⟩:=hQ.row;have hwb:=zus (bs:=rs) (h:=h) (by rw[<-hrs];exact ztq hb.b _) (by rw[<-hrs,List.length_drop];have:=hb.n;omega) hb.hm;have x0:W.cell? ⟨Z.lb,0,none⟩=some (.slice (some ⟨Z.rb,0,none⟩) bs.length bs.length):=zc hD.lists rfl;have x1:W.cell? ⟨Z.rb,p.length,none⟩=some (.slice (some ⟨f p.length,0,none⟩) (m p.length) (m p.length)):=zc hu (hur _ zS);have x2:W.cell? ⟨Z.hb,0,none⟩=some (zi (h:Int)):=zc hD.hv rfl;have x3:W.cell? ⟨Z.tb,0,none⟩=some (.slice (some ⟨Z.tr,0,none⟩) (bs.length+1) Z.tc):=zc hD.rest rfl;obtain⟨x4,x5⟩:=hD.rst (p.length+1) hpl;rw[hrs]at x4 x5;have hM:m p.length<=1000:=hm2 p.length zO;have hbn:=hb.n;have wD:=hb.hm;have kM:=hb.h1;obtain⟨n,hn⟩:=zX (bs.length);obtain⟨c,hc⟩:=zX (p.length);obtain⟨i,hi⟩:=zX (q.length);obtain⟨M,xI⟩:=zX (m p.length)
 obtain⟨F,hF⟩:=zX (f p.length);obtain⟨w0,hw0⟩:=zX (wlo rs);obtain⟨w1,hw1⟩:=zX (whi h rs);have hmk2:=hmk;rw[xI,hi]at hmk;rw[xI]at hM;rw[hw0,hw1]at hwb;rw[hn]at x0 x3 hpl hbn;rw[xI,hF,hc]at x1;rw[hc,hw0]at x4;rw[hc,hw1]at x5;rw[hc]at hpl;obtain⟨lo,hlo⟩:=zX (max 0 (left-1-(k:Int)*(h:Int)-w1));obtain⟨hi',hhi⟩:=zX (min ((h:Int)-1) (left-1-(k:Int)-(w0:Int)));have hkh:(0:Int)<=(k:Int)*(h:Int)/\(k:Int)*(h:Int)<=1000*10000:=⟨Int.mul_nonneg zO zO,Int.mul_le_mul zO zO zO zO⟩
 have hlo0:0<=lo:=zO
 have hlo1:lo<=100000000000:=zO
 have hhi1:hi'<=10000:=zO
 have hhi2 : -100000000000<=hi':=zO
 obtain⟨G,hG⟩:∃G:Int->List SS,G=fun r=>(numE h rs (zk9 h rs) k (left-1-r)).map fun z=>stOf (p++hdA (q++[unrk r]) z):=⟨_,rfl⟩
 have hX:(numE h rs (zk9 h rs) (k+1) left).map (fun z=>stOf (p++hdA q z))=(List.range (hi'-lo+1).toNat).flatMap fun(j:Nat)=>G (lo+(j:Int)):=by
  rw[<-zoH,numE,List.map_flatMap,hw0,hw1,hlo,hhi,hG];simp only[List.map_map,Function.comp_def,zzU]
 rw[hX]at hpre ⊢;obtain⟨T,hT⟩:∃T:Nat,(hi'-lo+1).toNat=T:=⟨_,rfl⟩
 rw[hT]at hpre ⊢;have HJ:=zh hj;have lh:=zh hJ;have HD:=zh hD;have HQ:=zh hQ;have HS:=zh hS;have dH:=zh hpre;have HN:=zh hN;have HM:=zh hm;have yl:=zh hm2;have HMK:=zh hmk2;have fJ:=zh hrs;have xZ:=zh (show p.length+1<=bs.length by rw[hc,hn];exact hpl);have HG:=zh hG;have ik:=zh (show bs.length=n/\p.length=c/\q.length=i/\m p.length=M/\f p.length=F from⟨hn,hc,hi,xI,hF⟩);rw[hn,hF,hc,hi];clear hj hJ hD hQ hS hpre hu hur iw hrs hm hm2 hmk2 hX hb hN hn hc hi xI hF hw0 hw1 hG;have hp1:(c:Int)<(n:Int):=zO
 have hp2:(0:Int)<=(c:Int)+1:=zO
 have hp3:(c:Int)+1<(n:Int)+1:=zO
 have hwc:IntKind.i64.wrap ((c:Int)+1)=(c:Int)+1:=IntWalk.i64_in _ zO;have hne:((i:Int)==(M:Int))=false:=by simp;omega
 have e1:IntKind.i64.wrap ((M:Int)-1)=(M:Int)-1:=IntWalk.i64_in _ zO;have e2:IntKind.i64.wrap ((M:Int)-1-(i:Int))=(k:Int):=by rw[show(M:Int)-1-(i:Int)=(k:Int) by omega];exact IntWalk.i64_in _ zO
 have zk:=zh hmk;clear hmk;go_enter func71,ntmps71;go_upto_region 4 with fail;have e3:IntKind.i64.wrap (left-1)=left-1:=IntWalk.i64_in _ zO;have e4:IntKind.i64.wrap ((k:Int)*(h:Int))=(k:Int)*(h:Int):=IntWalk.i64_in _ zO;have e5:IntKind.i64.wrap (left-1-(k:Int)*(h:Int))=left-1-(k:Int)*(h:Int):=IntWalk.i64_in _ zO;have e6:IntKind.i64.wrap (left-1-(k:Int)*(h:Int)-w1)=left-1-(k:Int)*(h:Int)-w1:=IntWalk.i64_in _ zO
 go_region
 have hbd:=(zs W).drew;obtain⟨wA,xc⟩:=zX (W.drew);rw[xc]at hbd ⊢
 replace x0:=zb hbd x0
 replace x1:=zb hbd x1
 replace x2:=zb hbd x2
 replace x3:=zb hbd x3
 replace x4:=zb hbd x4
 clear xc x5 e4 e5 e6;go_upto_region 5 with fail;have e4:IntKind.i64.wrap ((h:Int)-1)=(h:Int)-1:=IntWalk.i64_in _ zO;have e5:IntKind.i64.wrap (left-1-(k:Int))=left-1-(k:Int):=IntWalk.i64_in _ zO;have e6:IntKind.i64.wrap (left-1-(k:Int)-(w0:Int))=left-1-(k:Int)-(w0:Int):=IntWalk.i64_in _ zO
 go_region
 have jC:=hbd.trans (Below.refl W.heap.size wA |>.mono zl |>.drew);obtain⟨wB,wZ⟩:=zX (wA.drew);rw[wZ]at jC ⊢;have bW:=zh jC;clear wZ x0 x1 x2 x3 x4 e4 e5 e6 hbd jC hwc e1 e2 e3 hp2 hp3;have e1:IntKind.i64.wrap (hi'-lo)=hi'-lo:=IntWalk.i64_in _ zO;have e2:IntKind.i64.wrap (hi'-lo+1)=hi'-lo+1:=IntWalk.i64_in _ zO;go_wp2_with fail
 go_loopw [68] (fun iv wr=>∃(j:Nat) (C':Nat->Prop),j<=T/\iv=zi j/\Hid (J (pre++(List.range j).flatMap fun(i:Nat)=>G (lo+(i:Int))) C' wr/\(∀b,C' b->C b\/W.heap.size<=b)/\Chg (fun b=>C b\/b=Z.rb\/b=F) W wr/\RowQ Z bs.length wr (p++[q]) m f)) (fun iv _=>T-(intOf iv).toNat)
 case atStart=>exact⟨0,C,Nat.zero_le _,rfl,zh ⟨by rw[List.range_zero,List.flatMap_nil,List.append_nil];exact HJ.out.keep _ _ _ _ lh.out (Chg.of_below bW.out),fun b h=>.inl h,Chg.of_below bW.out,HQ.out.chg (Chg.of_below (C:=fun _=>False) bW.out) id fun _ _=>id⟩⟩
 case round =>
  obtain⟨j,C',hjT,rfl,HI⟩:=hrel;by_cases hlt:j<T
  ·obtain⟨i1,i2,i3,i4⟩:=HI.out;have hDn:∀b,B b->¬ (C b\/b=Z.rb\/b=F):=fun b hb h=>by
    rcases h with h|rfl|rfl
    ·exact HS.out.b _ hb h
    ·exact HS.out.br hb
    ·have:=ik.out.2.2.2.2;subst this;exact HS.out.bf _ (Nat.lt_succ_self _) hb
   have hD2:=HD.out.chg i3 hDn;have hS2:=SepQ.grow (p:=p++[q]) (by rw[show(p++[q]).length=p.length+1 by simp];exact HS.out) HD.out HQ.out i2;obtain⟨us,hu,iw,hur⟩:=i4.row;obtain⟨vs,hv,hvs,hv3,hv4⟩:=i4.el p.length zS;obtain⟨g1,g2,g3,g4,g5⟩:=ik.out;rw[g4]at hvs;rw[g5]at hv;have x0:wr.cell? ⟨Z.lb,0,none⟩=some (.slice (some ⟨Z.rb,0,none⟩) n n):=by rw[<-g1];exact zc hD2.lists rfl
   have x1:wr.cell? ⟨Z.rb,c,none⟩=some (.slice (some ⟨F,0,none⟩) M M):=by have h:=hur p.length zS;rw[g4,g5]at h;rw[<-g2];exact zc hu h
   obtain⟨z,hz⟩:∃z,vs[i]?=some z:=⟨_,Array.getElem?_eq_getElem (by have:=zk.out;omega)⟩
   have x2:wr.cell? ⟨F,i,none⟩=some z:=zc hv hz;have cf:∀o,wr.frozen? ⟨F,o,none⟩=false:=fun o=>zf hv;obtain⟨r,hr⟩:=zX (lo+(j:Int));have hr0:0<=r/\r<=10000:=zO
   have hwr:IntKind.i64.wrap (lo+(j:Int))=r:=by rw[hr];exact IntWalk.i64_in _ zO
   obtain⟨x,hx⟩:=zX (unrk r);have rO:I64 x:=by rw[<-hx];exact zw7 hr0.1 zO
   have HU:=zh (fun w'=>hx▸zua r w' zO);have hj1:(j:Int)<hi'-lo+1:=zO
   have hi0:(0:Int)<=(i:Int):=zO
   have hiM:(i:Int)<(M:Int):=by have:=zk.out;omega
   obtain⟨w5,mi,dB,lJ⟩:=setU (o:=i) (zi x) hv;have hD5:=hD2.chg dB.drew fun b hb (e:b=F)=>by rw[<-g5]at e;rw[e]at hb;exact HS.out.bf _ (Nat.lt_succ_self _) hb
   have wF:RowQ Z bs.length w5.drew (p++[q++[x]]) m f:=i4.put (by rw[g3,g4];have:=zk.out;omega) rO (by rw[g5];exact dB.drew) (fun vs' h'=>by
    rw[g5]at h' ⊢;rw[g3];rw[hv]at h';injection h' with h';injection h' with h';subst h';exact lJ)
   have xJ:=HJ.out.keep _ _ _ _ i1 (dB.drew.mono fun b _ (e:b=F) hb=>by rw[<-g5]at e;rw[e]at hb;exact hS2.fc p.length zS hb);have hin:(pre++(List.range j).flatMap fun(i:Nat)=>G (lo+(i:Int)))++G r <+: tot:=by
    refine List.IsPrefix.trans ?_ dH.out;rw[List.append_assoc,<-hr];exact(List.prefix_append_right_inj pre).2 (zoY (F:=G) (g:=fun(i:Nat)=>lo+(i:Int)) hlt)
   have ug:G r=(numE h rs (zk9 h rs) k (left-1-r)).map fun z=>stOf (p++hdA (q++[x]) z):=by rw[HG.out,<-hx]
   have hcall:=HN.out p (q++[x]) m f _ C' w5.drew (left-1-r) fJ.out xZ.out xJ hD5 wF (by rw[show(p++[q]).length=p.length+1 by simp]at hS2;exact hS2) HM.out yl.out (by rw[HMK.out,List.length_append];simp;omega) zO (by rw[<-ug];exact hin);rw[<-ug]at hcall;have hlq:(q++[x]).length=i+1:=by rw[List.length_append,g3];rfl
   rw[hlq,g5,g2]at hcall;have nR:=zh hcall;have y0:w5.drew.cell? ⟨Z.nb,0,none⟩=some (.func (.func 71) #[] Z.cap2):=zc hD5.num rfl;have hwi:IntKind.i64.wrap ((i:Int)+1)=((i+1:Nat):Int):=IntWalk.i64_in _ (by have:=zk.out;omega);have hwl0:IntKind.i64.wrap (left-1)=left-1:=IntWalk.i64_in _ zO;have hwl:IntKind.i64.wrap (left-1-lo)=left-1-lo:=IntWalk.i64_in _ zO;have hwl2:IntKind.i64.wrap (left-1-lo-(j:Int))=left-1-r:=by rw[show left-1-lo-(j:Int)=left-1-r by omega];exact IntWalk.i64_in _ zO
   have hwj:IntKind.i64.wrap ((j:Int)+1)=(j:Int)+1:=IntWalk.i64_in _ zO;have hstep:(List.range (j+1)).flatMap (fun(i:Nat)=>G (lo+(i:Int)))=((List.range j).flatMap fun(i:Nat)=>G (lo+(i:Int)))++G r:=by rw[List.range_succ,List.flatMap_append,<-hr];simp
   have HST:=zh hstep;have fP:=zh (show Chg (fun b=>C b\/b=Z.rb\/b=F) W w5.drew/\W.heap.size<=w5.drew.heap.size from⟨i3.trans2 dB.drew fun b _ e=>.inr (.inr e),Nat.le_trans i3.size dB.drew.size⟩);have HR:=zh hr;have HX:=zh hx;have HX64:=zh rO;have HD2:=zh hD2;have HS2:=zh hS2;have HVS:=zh (And.intro hv hvs);have bK:=zh dB;have HH5:=zh lJ;clear i1 i2 i3 i4 hDn hD2 hS2 hu iw hur hv hvs hv3 hv4 g1 g2 g3 g4 g5 hz hr hx rO dB lJ hD5 wF xJ hin ug hcall hlq hstep;go_upto_region 9 with fail
   go_region_with (refine(HU.out _).mono ?_;rintro e w9 ⟨rfl,rfl⟩)
   all_goals
    clear x0 x1 x2 cf mi;go_wp2_with fail;refine nR.out.mono ?_;rintro e w6 (⟨rfl,C6,j6,c6,h6,q6⟩|⟨rfl,pre6,C6,j6,h6⟩)
    ·have iL:=zh (show J (pre++(List.range (j+1)).flatMap fun(i:Nat)=>G (lo+(i:Int))) C6 w6/\(∀b,C6 b->C b\/W.heap.size<=b)/\Chg (fun b=>C b\/b=Z.rb\/b=F) W w6/\RowQ Z bs.length w6 (p++[q]) m f from
      ⟨by rw[HST.out,<-List.append_assoc];exact j6,fun b hb=>(c6 b hb).elim (HI.out.2.1 b) fun h=>.inr (Nat.le_trans fP.out.2 h),fP.out.1.trans2 h6 fun b hb h=>h.elim (fun h=>(HI.out.2.1 b h).elim .inl fun h=>zO) .inr,q6.pop (List.prefix_append _ _)⟩)
     clear j6 c6 h6 q6 y0;go_wp2_with fail
     go_roundw
     case rel=>exact⟨j+1,C6,zO,by go_num,iL⟩
     case measure=>simp[intOf];omega
    ·have iL:=zh (show Jx pre6 C6 w6/\Chg (fun b=>C b\/b=Z.rb\/b=F) W w6 from⟨j6,fP.out.1.trans2 h6 fun b hb h=>h.elim (fun h=>(HI.out.2.1 b h).elim .inl fun h=>zO) .inr⟩);clear j6 h6 y0;go_wp2_with fail;go_ret;exact .inr ⟨rfl,pre6,C6,iL.out.1,iL.out.2⟩
  ·obtain rfl:j=T:=zO
   have hj1:¬ (j:Int)<hi'-lo+1:=zO
   go_wp2_with fail;go_ret;obtain⟨i1,i2,i3,i4⟩:=HI.out;have:=ik.out.1;rw[this]at i4;exact .inl ⟨rfl,C',i1,i2,i3,i4⟩
section
variable {Z:DK} {n:Nat} {W W':World} {p:List (List Int)} {m f m' f':Nat->Nat}
theorem RowQ.congr(h:RowQ Z n W p m' f')(he:∀j,j<p.length->m' j=m j/\f' j=f j):RowQ Z n W p m f:=by
 obtain⟨us,h1,h2,h3⟩:=h.row;refine⟨⟨us,h1,h2,fun j hj=>by rw[h3 j hj,(he j hj).1,(he j hj).2]⟩,fun j hj=>?_,fun j hj=>by rw[<-(he j hj).2];exact h.ne j hj,fun i j hi hj e=>h.inj i j hi hj (by rw[(he i hi).2,(he j hj).2];exact e),h.fits⟩;have:=h.el j hj;rwa[(he j hj).1,(he j hj).2]at this
theorem RowQ.new{M:Nat}{W1 W2:World}(h:RowQ Z n W p m f)(hp:p.length<n)(h1:W1=W.alloc (.cells (madeCells #[zi 0] M) 3))(hc:Chg (fun b=>b=Z.rb) W1 W2)
  (hk:∀us,W1.heap[Z.rb]?=some (.cells us 42 (0,0))->W2.heap[Z.rb]?=some (.cells (us.setIfInBounds p.length (.slice (some ⟨W.heap.size,0,none⟩) M M)) 42 (0,0))) :
  RowQ Z n W2 (p++[[]]) (fun j=>if j=p.length then M else m j) (fun j=>if j=p.length then W.heap.size else f j):=by
 have hb:zw W W1:=by rw[h1];exact zkb zr _
 have hn:W1.heap[W.heap.size]?=some (.cells (madeCells #[zi 0] M) 3 (0,0)):=by rw[h1];exact heap_alloc_new W _
 obtain⟨us,u1,u2,u3⟩:=h.row;have hl:=h.lt;have hlen:(p++[[]]).length=p.length+1:=zS
 refine⟨⟨_,hk us (zkc u1 hb),by simpa using u2,fun j hj=>?_⟩,fun j hj=>?_,fun j hj=>?_,fun i j hi hj e=>?_,fun x hx e he=>?_⟩
 ·by_cases e:j=p.length
  ·subst e;simp only[if_true];rw[Array.getElem?_setIfInBounds_self_of_lt zO]
  ·simp only[e,if_false];rw[Array.getElem?_setIfInBounds_ne zO];exact u3 j zO
 ·rcases zqt hj with⟨hjp,_,e⟩|⟨rfl,e⟩
  ·have hne:j≠p.length:=zO
   simp only[e,hne,if_false];obtain⟨vs,v1,v2⟩:=h.el j hjp;exact⟨vs,hc.keep (zkc v1 hb) (h.ne j hjp),v2⟩
  ·simp only[e,if_true];exact⟨_,hc.keep hn fun e=>by have e:W.heap.size=Z.rb:=e;omega,by rw[size_madeCells],Nat.zero_le _,fun i hi=>absurd hi (Nat.not_lt_zero i)⟩
 ·by_cases e:j=p.length
  ·simp only[e,if_true];omega
  ·simp only[e,if_false];exact h.ne j zO
 ·split at e<;>split at e
  ·omega
  ·have:=hl.2 j zO;omega
  ·have:=hl.2 i zO;omega
  ·exact h.inj i j zO zO e
 ·rcases List.mem_append.1 hx with hx|hx
  ·exact h.fits x hx e he
  ·obtain rfl:=List.mem_singleton.1 hx;cases he
end
theorem zvi{J Jx:List SS->(Nat->Prop)->World->Prop}{Z:DK}{bs rs:List Bn}{h nf:Nat}{B:Nat->Prop}{tot:List SS}{p:List (List Int)}{m f:Nat->Nat}{pre:List SS}{C:Nat->Prop}{W:World}{left:Int}{n c l0 l1 w0 T:Nat}{w1 Q lo hi':Int}{a:Addr}{G:Int->List SS}
  (x0:W.cell? ⟨Z.lb,0,none⟩=some (.slice (some ⟨Z.rb,0,none⟩) n n))(x2:W.cell? ⟨Z.hb,0,none⟩=some (zi (h:Int)))(x3:W.cell? ⟨Z.tb,0,none⟩=some (.slice (some ⟨Z.tr,0,none⟩) (n+1) Z.tc))(x1:W.cell? ⟨Z.bb,0,none⟩=some (.slice (some a) n Z.c))
  (x4:W.cell? ⟨Z.tr,(c+1)*2,none⟩=some (zi (w0:Int)))(x5:W.cell? ⟨Z.tr,(c+1)*2+1,none⟩=some (zi w1))(x6:W.cell? (a.add (c*2))=some (zi (l0:Int)))(x7:W.cell? ⟨(a.add (c*2)).block,(a.add (c*2)).off+1,none⟩=some (zi (l1:Int)))
  (hwb:w0<=1000000/\0<=w1/\w1<=10000000000)(hbb:l0<=1000/\l1<=1000)(hbn:n<=100)(wD:h<=10000)(kM:1<=h)(hcn:c<n)(hleft:0<=left/\left<=100000000000)
  (xH:(left-w1+(h:Int)-1).tdiv (h:Int)=Q)(xG : -100000010000<=Q/\Q<=100000010000)(hlo:max (l0:Int) Q=lo)(hhi:min (l1:Int) (left-(w0:Int))=hi')(hlo0:0<=lo)(hlo1:lo<=100000010000)(hhi1:hi'<=1000)(hhi2 : -100000000000<=hi')(hT:(hi'-lo+1).toNat=T)
  (HJ:Hid (JC J Jx nf Z.l tot))(lh:Hid (J pre C W))(HD:Hid (DW Z bs h B W))(HQ:Hid (RowQ Z bs.length W p m f))(HS:Hid (SepQ Z B p.length f C))(dH:Hid ((pre++(List.range T).flatMap fun(j:Nat)=>G (lo+(j:Int))) <+: tot))(HN:Hid (∀k,NumC J Jx Z bs h B tot rs k))
  (HM:Hid (∀j (hj:j<p.length),m j=p[j].length))(yl:Hid (∀j,j<p.length->m j<=1000))(fJ:Hid (bs.drop (p.length+1)=rs))(HG:Hid (G=fun r=>(numE h rs (zk9 h rs) r.toNat left).map fun z=>stOf (p++hdA [] z)))(ik:Hid (bs.length=n/\p.length=c/\p.length+1<=bs.length)) :
  Calls prog 70 (#[zi (c:Int),zi left]++Z.cap1) W (zue J Jx Z n (fun b=>b=Z.rb) pre ((List.range T).flatMap fun(j:Nat)=>G (lo+(j:Int))) p m f C W):=by
 have hp1:(c:Int)<(n:Int):=zO
 have hp2:(0:Int)<=(c:Int)+1:=zO
 have hp3:(c:Int)+1<(n:Int)+1:=zO
 have hwc:IntKind.i64.wrap ((c:Int)+1)=(c:Int)+1:=IntWalk.i64_in _ zO;have hne:((c:Int)==(n:Int))=false:=by simp;omega
 have hh0:¬ (h:Int)=0:=zO
 have e3:IntKind.i64.wrap (left-w1)=left-w1:=IntWalk.i64_in _ zO;have e4:IntKind.i64.wrap (left-w1+(h:Int))=left-w1+(h:Int):=IntWalk.i64_in _ zO;have e5:IntKind.i64.wrap (left-w1+(h:Int)-1)=left-w1+(h:Int)-1:=IntWalk.i64_in _ zO;have e6:IntKind.i64.wrap Q=Q:=IntWalk.i64_in _ zO;have rE:=zh (And.intro hwb (And.intro hbb (And.intro hlo0 (And.intro hlo1 (And.intro hhi1 (And.intro hhi2 (And.intro xG (And.intro hleft (And.intro hbn (And.intro wD (And.intro kM hcn)))))))))));have HHI:=zh hhi;have uC:=zh hT;clear hwb hbb hlo0 hlo1 hhi1 hhi2 xG hleft hbn wD kM hcn hhi hT;go_enter func70,ntmps70;go_upto_region 4 with fail
 go_region
 have hbd:=(zs W).drew;obtain⟨wA,xc⟩:=zX (W.drew);rw[xc]at hbd ⊢
 replace x0:=zb hbd x0
 replace x1:=zb hbd x1
 replace x3:=zb hbd x3
 replace x4:=zb hbd x4
 replace x7:=zb hbd x7
 clear xc x2 x5 x6 e3 e4 e5 e6 hlo xH;have hhi:=HHI.out;have e4:IntKind.i64.wrap (left-(w0:Int))=left-(w0:Int):=IntWalk.i64_in _ (by have:=rE.out;omega);go_upto_region 5 with fail
 go_region
 have jC:=hbd.trans (Below.refl W.heap.size wA |>.mono zl |>.drew);obtain⟨wB,wZ⟩:=zX (wA.drew);rw[wZ]at jC ⊢;have bW:=zh jC;clear wZ x0 x1 x3 x4 x7 e4 hbd jC hwc hp2 hp3;clear hhi;obtain⟨hwb,hbb,hlo0,hlo1,hhi1,hhi2,xG,hleft,hbn,wD,kM,hcn⟩:=rE.out;have hT:=uC.out;have e1:IntKind.i64.wrap (hi'-lo)=hi'-lo:=IntWalk.i64_in _ zO;have e2:IntKind.i64.wrap (hi'-lo+1)=hi'-lo+1:=IntWalk.i64_in _ zO;go_wp2_with fail
 go_loopw [72] (fun iv wr=>∃(j:Nat) (C':Nat->Prop),j<=T/\iv=zi j/\Hid (J (pre++(List.range j).flatMap fun(i:Nat)=>G (lo+(i:Int))) C' wr/\(∀b,C' b->C b\/W.heap.size<=b)/\Chg (fun b=>C b\/b=Z.rb) W wr/\RowQ Z bs.length wr p m f)) (fun iv _=>T-(intOf iv).toNat)
 case atStart=>exact⟨0,C,Nat.zero_le _,rfl,zh ⟨by rw[List.range_zero,List.flatMap_nil,List.append_nil];exact HJ.out.keep _ _ _ _ lh.out (Chg.of_below bW.out),fun b h=>.inl h,Chg.of_below bW.out,HQ.out.chg (Chg.of_below (C:=fun _=>False) bW.out) id fun _ _=>id⟩⟩
 case round =>
  obtain⟨j,C',hjT,rfl,HI⟩:=hrel;by_cases hlt:j<T
  ·obtain⟨i1,i2,i3,i4⟩:=HI.out;have hDn:∀b,B b->¬ (C b\/b=Z.rb):=fun b hb h=>by
    rcases h with h|rfl
    ·exact HS.out.b _ hb h
    ·exact HS.out.br hb
   have hD2:=HD.out.chg i3 hDn;have hS2:=SepQ.grow HS.out HD.out HQ.out i2;obtain⟨us,hu,iw,hur⟩:=i4.row;obtain⟨g1,g2,g4⟩:=ik.out;have x0:wr.cell? ⟨Z.lb,0,none⟩=some (.slice (some ⟨Z.rb,0,none⟩) n n):=by rw[<-g1];exact zc hD2.lists rfl
   obtain⟨M,hM⟩:∃M:Nat,lo+(j:Int)=(M:Int):=⟨(lo+(j:Int)).toNat,zO⟩
   have hM1:M<=1000:=zO
   have hwr:IntKind.i64.wrap (M:Int)=(M:Int):=IntWalk.i64_in _ zO;have hmk:=bMkI M zO wr.drew;have hj1:(j:Int)<hi'-lo+1:=zO
   have aP:zw wr (wr.drew.alloc (.cells (madeCells #[zi 0] M) 3)):=zkb (zs wr).drew _;obtain⟨w9,eD⟩:=zX (wr.drew.alloc (.cells (madeCells #[zi 0] M) 3));rw[eD]at aP hmk;have xg:=zkc hu aP;obtain⟨g,hg⟩:=zX (wr.drew.heap.size);rw[hg]at hmk;obtain⟨w5,mi,dB,lJ⟩:=setU (o:=c) (.slice (some ⟨g,0,none⟩) M M) xg;obtain⟨z,hz⟩:∃z,us[c]?=some z:=⟨_,Array.getElem?_eq_getElem zO⟩
   have x2:w9.cell? ⟨Z.rb,c,none⟩=some z:=zc xg hz;have cf:∀o,w9.frozen? ⟨Z.rb,o,none⟩=false:=fun o=>zf xg;have hD5:=(hD2.chg (Chg.of_below aP (C:=fun _=>False)) fun _ _=>id).chg dB fun b hb (e:b=Z.rb)=>by rw[e]at hb;exact HS.out.br hb
   have wF:=RowQ.new (W:=wr.drew) (M:=M) (W2:=w5) (i4.chg (Chg.of_below (zs wr).drew (C:=fun _=>False)) id fun _ _=>id) zO eD.symm dB (fun us' h'=>by
    rw[xg]at h';injection h' with h';injection h' with h';subst h';rw[hg,g2];exact lJ)
   rw[hg]at wF;have xJ:=HJ.out.keep _ _ _ _ i1 (((Chg.of_below aP).trans (dB.mono fun b _ (e:b=Z.rb) hb=>by rw[e]at hb;exact hS2.r hb):Chg (fun b=>¬ C' b) wr w5));have hgw:g=wr.heap.size:=hg.symm;have wJ:∀b,C' b->b<g:=fun b hb=>by rw[hgw];exact HJ.out.lt _ _ _ i1 b hb
   have hBg:∀b,B b->b<g:=fun b hb=>by rw[hgw];exact hD2.lt b hb
   have hS5:SepQ Z B (p.length+1) (fun j=>if j=p.length then g else f j) C':=⟨hS2.b,hS2.r,fun j hj=>by
    by_cases e:j=p.length
    ·simp only[e,if_true];intro h;have:=wJ _ h;omega
    ·simp only[e,if_false];exact hS2.fc j zO,hS2.br,fun j hj=>by
    by_cases e:j=p.length
    ·simp only[e,if_true];intro h;have:=hBg _ h;omega
    ·simp only[e,if_false];exact hS2.bf j zO⟩
   have hin:(pre++(List.range j).flatMap fun(i:Nat)=>G (lo+(i:Int)))++G M <+: tot:=by
    refine List.IsPrefix.trans ?_ dH.out;rw[List.append_assoc,<-hM];exact(List.prefix_append_right_inj pre).2 (zoY (F:=G) (g:=fun(i:Nat)=>lo+(i:Int)) hlt)
   have ug:G M=(numE h rs (zk9 h rs) M left).map fun z=>stOf (p++hdA [] z):=by rw[HG.out];simp
   have hcall:=HN.out M p [] _ _ _ C' w5 left fJ.out g4 xJ hD5 wF hS5 (fun j hj=>by simp only[Nat.ne_of_lt hj,if_false];exact HM.out j hj) (fun j hj=>by
    by_cases e:j=p.length
    ·simp only[e,if_true];omega
    ·simp only[e,if_false];exact yl.out j zO) zS hleft (by rw[<-ug];exact hin)
   rw[<-ug]at hcall;simp only[if_true,List.length_nil]at hcall;rw[g2]at hcall;have nR:=zh hcall;have y0:w5.cell? ⟨Z.nb,0,none⟩=some (.func (.func 71) #[] Z.cap2):=zc hD5.num rfl;have y1:w5.cell? ⟨Z.lb,0,none⟩=some (.slice (some ⟨Z.rb,0,none⟩) n n):=by rw[<-g1];exact zc hD5.lists rfl
   have hwj:IntKind.i64.wrap ((j:Int)+1)=(j:Int)+1:=IntWalk.i64_in _ zO;have hstep:(List.range (j+1)).flatMap (fun(i:Nat)=>G (lo+(i:Int)))=((List.range j).flatMap fun(i:Nat)=>G (lo+(i:Int)))++G M:=by rw[List.range_succ,List.flatMap_append,<-hM];simp
   have HST:=zh hstep;have fP:=zh (show Chg (fun b=>C b\/b=Z.rb) W w5/\W.heap.size<=w5.heap.size/\W.heap.size<=g from⟨(i3.trans2 (Chg.of_below aP (C:=fun _=>False)) fun b _ h=>h.elim).trans2 dB fun b _ e=>.inr e,Nat.le_trans i3.size (Nat.le_trans aP.size dB.size),by rw[hgw];exact i3.size⟩);have z9:w9.cell? ⟨Z.lb,0,none⟩=some (.slice (some ⟨Z.rb,0,none⟩) n n):=zb aP x0;have hj0:(0:Int)<=(c:Int):=zO
   clear i1 i2 i3 i4 hDn hD2 hS2 hu iw hur g1 g2 g4 hz xg aP dB lJ hD5 wF xJ hgw wJ hBg hS5 hin ug hcall hstep eD hg;go_upto_region 9 with fail;have hS0:zW (fun w':World=>zv w' Z.lb 0 (.slice (some ⟨Z.rb,0,none⟩) n n)) zU wr.drew:=⟨x0,trivial⟩
   refine wp_region_noPanic ?_;refine zG hS0 7 ?_;refine zT 0 hS0 ?_;refine zT 1 hS0 ?_;refine zT 2 hS0 ?_;refine zT 3 hS0 ?_;refine zT 4 hS0 ?_;refine zo 5 fun K hK=>?_;(try simp only[zA,zB,zC]);go_simp;refine hK.out _ _ ⟨z9,trivial⟩ ?_;clear hK K hS0 hmk;(try simp only[zQ]);refine zo 6 fun K hK=>?_;(try simp only[zA,zB,zC]);go_simp;refine hK.out _ _ ⟨z9,trivial⟩ ?_;clear hK K;(try simp only[zQ]);refine zp 7 fun K hK=>?_;(try simp only[zA,zB,zC]);go_simp;refine hK.out _ _ y1 ?_;clear hK K;(try simp only[zQ]);refine zd ?_;refine NoPanic.normal ?_;clear x0 x2 cf mi z9 y1;go_wp2_with fail;refine nR.out.mono ?_;rintro e w6 (⟨rfl,C6,j6,c6,h6,q6⟩|⟨rfl,pre6,C6,j6,h6⟩)
   ·have iL:=zh (show J (pre++(List.range (j+1)).flatMap fun(i:Nat)=>G (lo+(i:Int))) C6 w6/\(∀b,C6 b->C b\/W.heap.size<=b)/\Chg (fun b=>C b\/b=Z.rb) W w6/\RowQ Z bs.length w6 p m f from
     ⟨by rw[HST.out,<-List.append_assoc];exact j6,fun b hb=>(c6 b hb).elim (HI.out.2.1 b) fun h=>.inr (Nat.le_trans fP.out.2.1 h),fP.out.1.trans2 h6 fun b hb h=>by
      rcases h with h|h|h
      ·exact(HI.out.2.1 b h).elim .inl fun h=>zO
      ·exact .inr h
      ·have:=fP.out.2.2;have h:b=g:=h;omega,q6.dropL.congr fun j hj=>by
       have hj':j≠c:=by have:=ik.out.2.1;omega
       exact⟨if_neg hj',if_neg hj'⟩⟩)
    clear j6 c6 h6 q6 y0;go_wp2_with fail
    go_roundw
    case rel=>exact⟨j+1,C6,zO,by go_num,iL⟩
    case measure=>simp[intOf];omega
   ·have iL:=zh (show Jx pre6 C6 w6/\Chg (fun b=>C b\/b=Z.rb) W w6 from⟨j6,fP.out.1.trans2 h6 fun b hb h=>by
      rcases h with h|h|h
      ·exact(HI.out.2.1 b h).elim .inl fun h=>zO
      ·exact .inr h
      ·have:=fP.out.2.2;have h:b=g:=h;omega⟩)
    clear j6 h6 y0;go_wp2_with fail;go_ret;exact .inr ⟨rfl,pre6,C6,iL.out.1,iL.out.2⟩
  ·obtain rfl:j=T:=zO
   have hj1:¬ (j:Int)<hi'-lo+1:=zO
   go_wp2_with fail;go_ret;obtain⟨i1,i2,i3,i4⟩:=HI.out;have:=ik.out.1;rw[this]at i4;exact .inl ⟨rfl,C',i1,i2,i3,i4⟩
theorem zvj{J Jx:List SS->(Nat->Prop)->World->Prop}{Z:DK}{bs rs:List Bn}{b0:Bn}{h nf:Nat}{B:Nat->Prop}{tot:List SS}(hj:JC J Jx nf Z.l tot)(hb:DB bs h)(hN:∀k,NumC J Jx Z bs h B tot rs k):zyF J Jx Z bs h B tot (b0::rs):=by
 intro p m f pre C W left hrs hpl hJ hD hQ hS hm hm2 hleft hpre;have mq:p.length<bs.length:=by have:=congrArg List.length hrs;rw[List.length_drop]at this;simp at this;omega
 have jm:bs.drop (p.length+1)=rs:=by rw[<-List.drop_drop,hrs];rfl
 have hb0:bs[p.length]=b0:=by have:=List.drop_eq_getElem_cons mq;rw[hrs]at this;injection this with h1 _;exact h1.symm
 have hwb:=zus (bs:=rs) (h:=h) (by rw[<-jm];exact ztq hb.b _) (by rw[<-jm,List.length_drop];have:=hb.n;omega) hb.hm;have hbb:=hb.b b0 (by rw[<-hb0];exact List.getElem_mem mq);have x0:W.cell? ⟨Z.lb,0,none⟩=some (.slice (some ⟨Z.rb,0,none⟩) bs.length bs.length):=zc hD.lists rfl;have x2:W.cell? ⟨Z.hb,0,none⟩=some (zi (h:Int)):=zc hD.hv rfl;have x3:W.cell? ⟨Z.tb,0,none⟩=some (.slice (some ⟨Z.tr,0,none⟩) (bs.length+1) Z.tc):=zc hD.rest rfl;have x1:W.cell? ⟨Z.bb,0,none⟩=some (.slice Z.A bs.length Z.c):=zc hD.ls rfl;obtain⟨x4,x5⟩:=hD.rst (p.length+1) mq;obtain⟨a,hA,-,x6,x7⟩:=hD.row p.length mq;rw[hA]at x1;rw[hb0]at x6 x7;rw[jm]at x4 x5;obtain⟨l0,l1⟩:=b0;simp only at hbb x6 x7;have hbn:=hb.n;have wD:=hb.hm;have kM:=hb.h1;obtain⟨n,hn⟩:=zX (bs.length);obtain⟨c,hc⟩:=zX (p.length);obtain⟨w0,hw0⟩:=zX (wlo rs);obtain⟨w1,hw1⟩:=zX (whi h rs);rw[hw0,hw1]at hwb
 rw[hn]at x0 x1 x3 hbn;rw[hc,hw0]at x4;rw[hc,hw1]at x5;rw[hc]at x6 x7;have hcn:c<n:=zO
 obtain⟨Q,xH⟩:=zX ((left-w1+(h:Int)-1).tdiv (h:Int));have xG : -100000010000<=Q/\Q<=100000010000:=by
  have h1:=Int.natAbs_tdiv_le_natAbs (left-w1+(h:Int)-1) (h:Int);rw[xH]at h1;omega
 obtain⟨lo,hlo⟩:=zX (max (l0:Int) Q);obtain⟨hi',hhi⟩:=zX (min (l1:Int) (left-(w0:Int)));have hlo0:0<=lo:=zO
 have hlo1:lo<=100000010000:=zO
 have hhi1:hi'<=1000:=zO
 have hhi2 : -100000000000<=hi':=zO
 obtain⟨G,hG⟩:∃G:Int->List SS,G=fun r=>(numE h rs (zk9 h rs) r.toNat left).map fun z=>stOf (p++hdA [] z):=⟨_,rfl⟩
 have hX:(zk9 h ((l0,l1)::rs) left).map (fun ls=>stOf (p++ls))=(List.range (hi'-lo+1).toNat).flatMap fun(j:Nat)=>G (lo+(j:Int)):=by
  have e:∀z:List (List Int),hdA [] z=z:=fun z=>by cases z<;>rfl
  rw[<-zoH,zk9,List.map_flatMap,hw0,hw1,xH,hlo,hhi,hG];simp only[e]
 rw[hX]at hpre ⊢;obtain⟨T,hT⟩:∃T:Nat,(hi'-lo+1).toNat=T:=⟨_,rfl⟩
 rw[hT]at hpre ⊢;have HJ:=zh hj;have lh:=zh hJ;have HD:=zh hD;have HQ:=zh hQ;have HS:=zh hS;have dH:=zh hpre;have HN:=zh hN;have HM:=zh hm;have yl:=zh hm2;have fJ:=zh jm;have HG:=zh hG;have ik:=zh (show bs.length=n/\p.length=c/\p.length+1<=bs.length from⟨hn,hc,mq⟩);rw[hn,hc];exact zvi x0 x2 x3 x1 x4 x5 x6 x7 hwb hbb hbn wD kM hcn hleft xH xG hlo hhi hlo0 hlo1 hhi1 hhi2 hT HJ lh HD HQ HS dH HN HM yl fJ HG ik
theorem zs5{J Jx:List SS->(Nat->Prop)->World->Prop}{Z:DK}{bs:List Bn}{h nf:Nat}{B:Nat->Prop}{tot:List SS}(hj:JC J Jx nf Z.l tot)(hb:DB bs h)(hl:∀W,DW Z bs h B W->Z.l<W.heap.size):∀rs,zyF J Jx Z bs h B tot rs
 | []=>zxG hj hb hl
 | b::rs=>zvj hj hb fun k=>by
  induction k with
  | zero=>exact zxw hb (zs5 hj hb hl rs)
  | succ k ih=>exact zxx hj hb ih
theorem zzt:(prog.info? 42).map (fun i=>(i.zero,i.size,i.bytes))=some (some zn,1,24):=zK
theorem zL8(n:Nat)(hn:n<=4096)(w:World):(Instr.makeSlice 41 (zi (n:Int)) (zi (n:Int))).run prog w=.ok (.slice (some ⟨w.heap.size,0,none⟩) n n) (w.alloc (.cells (madeCells #[zn] n) 42)):=by
 obtain⟨i,hi,h1,h2,h3⟩:=info_parts zzt;have:=zlf (P:=prog) 41 42 i zn underlying41 hi h1 .i64 .i64 n n zl (by rw[h3];omega) zO w;rw[h2,Nat.mul_one]at this;exact this
theorem znc{w:World}{n:Nat}(hn:w.heap.size=n)(o:Obj):(w.alloc o).heap[n]?=some o:=by rw[<-hn];exact World.alloc_heap_new w o
theorem al8(W:World)(o0 o1 o2 o3 o4 o5 o6 o7:Obj) :
  zw W ((((((((W.alloc o0).alloc o1).alloc o2).alloc o3).alloc o4).alloc o5).alloc o6).alloc o7)/\((((((((W.alloc o0).alloc o1).alloc o2).alloc o3).alloc o4).alloc o5).alloc o6).alloc o7).heap.size=W.heap.size+8 /\
  ∀k,k<8->((((((((W.alloc o0).alloc o1).alloc o2).alloc o3).alloc o4).alloc o5).alloc o6).alloc o7).heap[W.heap.size+k]?=[o0,o1,o2,o3,o4,o5,o6,o7][k]?:=by
 refine⟨zkb (zkb (zkb (zkb (zkb (zkb (zkb (zkb zr _) _) _) _) _) _) _) _,zS,fun k hk=>?_⟩;have h:k=0\/k=1\/k=2\/k=3\/k=4\/k=5\/k=6\/k=7:=zO
 rcases h with rfl|rfl|rfl|rfl|rfl|rfl|rfl|rfl
 ·exact zkd (zkd (zkd (zkd (zkd (zkd (zkd (znc rfl _) _) _) _) _) _) _) _
 ·exact zkd (zkd (zkd (zkd (zkd (zkd (znc zS _) _) _) _) _) _) _
 ·exact zkd (zkd (zkd (zkd (zkd (znc zS _) _) _) _) _) _
 ·exact zkd (zkd (zkd (zkd (znc zS _) _) _) _) _
 ·exact zkd (zkd (zkd (znc zS _) _) _) _
 ·exact zkd (zkd (znc zS _) _) _
 ·exact zkd (znc zS _) _
 ·exact znc zS _
theorem zpj{J Jx:List SS->(Nat->Prop)->World->Prop}{bs:List Bn}{h nf l tr c ct:Nat}{A:Option Addr}{R:Nat->Prop}{tot pre:List SS}{C:Nat->Prop}{W:World}{weight:Int}(hj:JC J Jx nf l tot)(hb:DB bs h)(hl:l<W.heap.size)
  (hJ:J pre C W)(hrb:RowB W R A bs)(hrt:zrx W tr h bs)(hR:∀b,R b->¬ C b)(htr:¬ C tr)(htl:tr<W.heap.size)(hw:0<=weight/\weight<=100000000000)(hpre:(pre++(zk9 h bs weight).map stOf) <+: tot) :
  Calls prog 41 #[.slice A bs.length c,.slice (some ⟨tr,0,none⟩) (bs.length+1) ct,zi (h:Int),zi weight,.func (.yield l) #[] #[]] W fun e W' =>
   ∃b,e=.returned (.bool b)/\((b=true/\∃C',J (pre++(zk9 h bs weight).map stOf) C' W'/\(∀b,C' b->C b\/W.heap.size<=b)/\Chg C W W')\/(b=false/\∃pre' C',Jx pre' C' W'/\Chg C W W')):=by
 have hmk:=zL8 bs.length (by have:=hb.n;omega);have h8:=fun o0 o1 o2 o3 o4 o5 o6 o7=>al8 W o0 o1 o2 o3 o4 o5 o6 o7;obtain⟨N,hN⟩:=zX (W.heap.size);have H8:=zh (show ∀W',W'=((((((((W.alloc (.cells #[.slice A bs.length c] 83)).alloc (.cells #[.slice (some ⟨tr,0,none⟩) (bs.length+1) ct] 83)).alloc (.cells #[zi (h:Int)] 3)).alloc (.cells #[.func (.yield l) #[] #[]] 86)).alloc (.cells (madeCells #[zn] bs.length) 42)).alloc (.cells #[.slice (some ⟨N+1+1+1+1,0,none⟩) bs.length bs.length] 41)).alloc (.cells #[.func (.func 70) #[] (DK.cap1 ⟨l,N+1+1+1+1+1,N+1+1+1,N,N+1,N+1+1,N+1+1+1+1+1+1+1,N+1+1+1+1+1+1,N+1+1+1+1,tr,A,c,ct⟩)] 119)).alloc (.cells #[.func (.func 71) #[] (DK.cap2 ⟨l,N+1+1+1+1+1,N+1+1+1,N,N+1,N+1+1,N+1+1+1+1+1+1+1,N+1+1+1+1+1+1,N+1+1+1+1,tr,A,c,ct⟩)] 120)) ->
   Calls prog 70 (#[zi (([]:List (List Int)).length:Int),zi weight]++DK.cap1 ⟨l,N+1+1+1+1+1,N+1+1+1,N,N+1,N+1+1,N+1+1+1+1+1+1+1,N+1+1+1+1+1+1,N+1+1+1+1,tr,A,c,ct⟩) W' fun e W'=>∃b,e=.returned (.bool b)/\(
   (b=true/\∃C',J (pre++(zk9 h bs weight).map stOf) C' W'/\(∀b,C' b->C b\/N<=b)/\Chg C W W')\/(b=false/\∃pre' C',Jx pre' C' W'/\Chg C W W'))from fun W' hW'=>by
  obtain⟨hbl,hsz,hat⟩:=h8 (.cells #[.slice A bs.length c] 83) (.cells #[.slice (some ⟨tr,0,none⟩) (bs.length+1) ct] 83) (.cells #[zi (h:Int)] 3) (.cells #[.func (.yield l) #[] #[]] 86) (.cells (madeCells #[zn] bs.length) 42) (.cells #[.slice (some ⟨N+1+1+1+1,0,none⟩) bs.length bs.length] 41) (.cells #[.func (.func 70) #[] (DK.cap1 ⟨l,N+1+1+1+1+1,N+1+1+1,N,N+1,N+1+1,N+1+1+1+1+1+1+1,N+1+1+1+1+1+1,N+1+1+1+1,tr,A,c,ct⟩)] 119) (.cells #[.func (.func 71) #[] (DK.cap2 ⟨l,N+1+1+1+1+1,N+1+1+1,N,N+1,N+1+1,N+1+1+1+1+1+1+1,N+1+1+1+1+1+1,N+1+1+1+1,tr,A,c,ct⟩)] 120);rw[<-hW']at hbl hsz hat
  rw[hN]at hsz hat
  have iH:∀b,C b->b<N:=fun b h=>by rw[<-hN];exact hj.lt _ _ _ hJ b h
  have hlN:l<N:=zO
  have htN:tr<N:=zO
  have ui:∀b,N<=b->b<N+8->b≠N+4->((R b/\b<N)\/b=tr\/(N<=b/\b<N+8/\b≠N+4)):=fun b h1 h2 h3=>.inr (.inr ⟨h1,h2,h3⟩);have hL:=zs5 (Z:=⟨l,N+1+1+1+1+1,N+1+1+1,N,N+1,N+1+1,N+1+1+1+1+1+1+1,N+1+1+1+1+1+1,N+1+1+1+1,tr,A,c,ct⟩) (B:=fun b=>(R b/\b<N)\/b=tr\/(N<=b/\b<N+8/\b≠N+4)) hj hb (fun w hd=>by have:=hd.lt N (.inr (.inr ⟨zO,zO,zO⟩));show l<_;omega) (rs:=bs) [] (fun _=>0) (fun _=>0) pre C W' weight rfl (Nat.zero_le _) (hj.keep _ _ _ _ hJ (Chg.of_below hbl))
   ⟨hat 5 zY,hat 3 zY,hat 0 zY,hat 1 zY,hat 2 zY,hat 7 zY,hat 6 zY,(hrb.keep (S':=fun b=>(R b/\b<N)\/b=tr\/(N<=b/\b<N+8/\b≠N+4)) (fun b h hlt=>.inl ⟨h,zO⟩) fun b _ hlt=>hbl.block b hlt),hrt.keep (hbl.block _ htl),⟨ui (N+1+1+1+1+1) zO zO zO,ui (N+1+1+1) zO zO zO,ui (N) zO zO zO,ui (N+1) zO zO zO,ui (N+1+1) zO zO zO,ui (N+1+1+1+1+1+1+1) zO zO zO,ui (N+1+1+1+1+1+1) zO zO zO,.inr (.inl rfl)⟩,fun b h=>by rw[hsz];rcases h with h|h|h<;>omega⟩
   ⟨⟨_,hat 4 zY,by rw[size_madeCells],fun j hj=>absurd hj (Nat.not_lt_zero j)⟩,fun j hj=>absurd hj (Nat.not_lt_zero j),fun j hj=>absurd hj (Nat.not_lt_zero j),fun i j hi=>absurd hi (Nat.not_lt_zero i),fun x hx=>by cases hx⟩
   ⟨fun b h hc=>by
    have:=iH b hc;rcases h with h|rfl|h
    ·exact hR b h.1 hc
    ·exact htr hc
    ·omega,fun h=>by have:=iH _ h;simp only at this;omega,fun j hj=>absurd hj (Nat.not_lt_zero j),fun h=>by simp only at h;omega,fun j hj=>absurd hj (Nat.not_lt_zero j)⟩
   (fun j hj=>absurd hj (Nat.not_lt_zero j)) (fun j hj=>absurd hj (Nat.not_lt_zero j)) hw (by simpa only[List.nil_append]using hpre)
  refine hL.mono ?_;have hch:∀ {w':World},Chg (fun b=>C b\/b=N+1+1+1+1) W' w'->Chg C W w':=fun h=>(Chg.of_below hbl).trans2 h fun b hb h=>h.elim id fun h=>zO
  rintro e w' (⟨rfl,C',h1,h2,h3,-⟩|⟨rfl,pre',C',h1,h2⟩)
  ·exact⟨_,rfl,.inl ⟨rfl,C',by simpa only[List.nil_append]using h1,fun b h=>(h2 b h).imp id fun h=>zO,hch h3⟩⟩
  ·exact⟨_,rfl,.inr ⟨rfl,pre',C',h1,hch h2⟩⟩)
 clear h8 hj hb hJ hrb hrt hR hpre htr;go_enter func41,ntmps41;rw[hN];go_wp2_with fail;refine(H8.out _ rfl).mono ?_;rintro e w2 ⟨b,rfl,hP⟩;have HP:=zh hP;clear hP H8;go_wp2_with fail;go_ret;exact⟨b,rfl,HP.out⟩
structure AllM(W:World)(S:Nat->Prop)(b:BX)(bs:List Bn)(kF xb lb:Nat)(A:Option Addr)(c:Nat):Prop where
 ok:W.heap[kF]?=some (.cells #[.bool true] 4 (0,0))
 bx:W.heap[xb]?=some (.cells #[.int .i64 b.v,.int .i64 b.l,.int .i64 b.i] 23 (0,0))
 ls:W.heap[lb]?=some (.cells #[.slice A bs.length c] 83 (0,0))
 row:RowB W S A bs
def allS(b:BX)(bs:List Bn):List SS:=(allB (2*b.v+1) bs).map stOf
theorem zwW{W:World}{S:Nat->Prop}{b:BX}{bs:List Bn}{kF xb lb c nf:Nat}{A:Option Addr}(hM:AllM W S b bs kF xb lb A c)(hv:0<=b.v/\b.v<=1000)(hn:1<=bs.length/\bs.length<=100)(hb:∀q∈bs,q.1<=1000/\q.2<=1000) :
  zLz YS nf prog 39 #[ptr0 kF,ptr0 xb,ptr0 lb] (allS b bs) (fun q=>q=kF\/q=xb\/q=lb\/S q) W:=by
 intro l J Jx C W1 hl0 jF hch hJ iG hY h0;refine(callsIn_wide (n:=nf)).2 ?_;obtain⟨v,vl,vi⟩:=b;obtain⟨h,hh⟩:∃h:Nat,2*v+1=(h:Int):=⟨(2*v+1).toNat,by simp only at hv;omega⟩
 simp only at hv;have wC:DB bs h:=⟨hn.2,hb,zO,zO,hn.1⟩
 have hxs:allS ⟨v,vl,vi⟩ bs=(List.range (whi h bs-wlo bs+1).toNat).flatMap fun(j:Nat)=>(zk9 h bs (wlo bs+(j:Int))).map stOf:=by
  unfold allS allB;simp only;rw[hh,List.map_flatMap,zoH (F:=fun w=>(zk9 h bs w).map stOf)]
 obtain⟨xs,hx⟩:=zX (allS ⟨v,vl,vi⟩ bs);rw[hx]at hY hxs ⊢;have zq:=zh (show JC J Jx nf l xs from⟨hJ,iG,hY⟩);have hbd:=zus (h:=h) hb zO zO;have x0:W1.cell? ⟨kF,0,none⟩=some (.bool true):=zc (hch.keep hM.ok fun h=>jF _ h (.inl rfl)) rfl;have x1:W1.cell? ⟨xb,0,none⟩=some (zi v):=zc (hch.keep hM.bx fun h=>jF _ h (.inr (.inl rfl))) rfl;have hk2:=hch.keep hM.ls fun h=>jF _ h (.inr (.inr (.inl rfl)));have x2:W1.cell? ⟨lb,0,none⟩=some (.slice A bs.length c):=zc hk2 rfl;have hnl:¬ C lb:=fun h=>jF _ h (.inr (.inr (.inl rfl)));have hrb:=hM.row.keep (w':=W1) (S':=fun q=>¬ C q/\q<W1.heap.size) (fun q h hlt=>⟨fun hc=>jF q hc (.inr (.inr (.inr h))),Nat.lt_of_lt_of_le hlt hch.size⟩) fun q h hlt=>hch.block q hlt fun hc=>jF q hc (.inr (.inr (.inr h)));have yG:=zrG bs h A c W1 (hrb.keep (S':=Any) (fun _ _ _=>trivial) fun _ _ _=>rfl) zO hb zO
 obtain⟨w0,hw0⟩:=zX (wlo bs);obtain⟨w1,hw1⟩:=zX (whi h bs);rw[hw0,hw1]at hbd hxs;obtain⟨T,hT⟩:=zX ((w1-(w0:Int)+1).toNat);rw[hT]at hxs;have HWE:=zh yG;have cB:=zh hrb;have CL:=zh wC;have yX:=zh hxs;have H0:=zh h0;have aQ:=zh hk2;have yj:=zh hnl;have HW:=zh (show wlo bs=w0/\whi h bs=w1 from⟨hw0,hw1⟩);have HL0:=zh hl0;have hnn:=hn;obtain⟨n,hn'⟩:=zX (bs.length);have HN:=zh hn';rw[hn']at x2 HWE hnn;clear hM hv hn hb hl0 jF hch hJ iG hY h0 wC hxs hrb yG hw0 hw1 hx hk2 hnl hn'
 show Calls prog 39 #[.func (.yield l) #[] #[],ptr0 kF,ptr0 xb,ptr0 lb] W1 _
 have e1:IntKind.i64.wrap (2*v)=2*v:=IntWalk.i64_in _ (by have:=CL.out.hm;omega);have e2:IntKind.i64.wrap (2*v+1)=(h:Int):=by rw[hh];exact IntWalk.i64_in _ (by have:=CL.out.hm;omega)
 have HHH:=zh hh;clear hh;go_enter func39,ntmps39;go_wp2_with fail;refine HWE.out.mono ?_;rintro e w2 ⟨tr,rfl,htr,xh,hb2⟩;obtain⟨y0,y1⟩:=xh 0 (Nat.zero_le _);rw[List.drop_zero,HW.out.1]at y0;rw[List.drop_zero,HW.out.2]at y1;rw[Nat.zero_mul]at y0 y1;have HRP:=zh xh;have HB2:=zh hb2;have y9:=zh htr;have hp0:(0:Int)<(n:Int)+1:=zO
 have e3:IntKind.i64.wrap (w1-(w0:Int))=w1-(w0:Int):=IntWalk.i64_in _ zO;have e4:IntKind.i64.wrap (w1-(w0:Int)+1)=w1-(w0:Int)+1:=IntWalk.i64_in _ zO;clear xh htr x0 x1 x2 e1 e2;go_upto_region 3 with fail
 go_quiet (fail)
 have hb3:=zkM (zs w2) nq;obtain⟨w3,hw3⟩:=zX (w2.drewN nq);rw[hw3]at hb3;rw[hw3];have HB3:=zh (zka hb2 hb3);have HRP3:=zh (HRP.out.keep (hb3.block _ (World.block_lt_of_cell? w2 _ y0)));have HTL:=zh (World.block_lt_of_cell? w2 _ y0);clear hw3 hb3 hb2 y0 y1 e3 e4;go_wp2_with fail;obtain⟨G,hG⟩:∃G:Nat->List SS,G=fun(j:Nat)=>(zk9 h bs (w0+(j:Int))).map stOf:=⟨_,rfl⟩
 have HG:=zh hG;have hxs:=yX.out;rw[show(fun(j:Nat)=>(zk9 h bs (w0+(j:Int))).map stOf)=G from hG.symm]at hxs;have yX:=zh hxs;clear hG hxs
 go_loopw [27] (fun iv wr=>∃(j:Nat) (C':Nat->Prop),j<=T/\iv=zi j/\Hid (J ((List.range j).flatMap G) C' wr/\(∀b,C' b->C b\/W1.heap.size<=b)/\Chg C W1 wr)/\Hid (¬ C' tr/\zrx wr tr h bs)) (fun iv _=>T-(intOf iv).toNat)
 case atStart=>exact⟨0,C,Nat.zero_le _,rfl,zh ⟨zq.out.keep _ _ _ _ H0.out (Chg.of_below HB3.out),fun b h=>.inl h,Chg.of_below HB3.out⟩,zh ⟨fun h=>by have:=zq.out.lt _ _ _ H0.out _ h;have:=y9.out;omega,HRP3.out⟩⟩
 case round =>
  obtain⟨j,C',hjT,rfl,HI,fJ⟩:=hrel;by_cases hlt:j<T
  ·have hj1:(j:Int)<w1-(w0:Int)+1:=zO
   have hsz:=HI.out.2.2.size;have y0:wr.cell? ⟨tr,0,none⟩=some (zi (w0:Int)):=by have:=(fJ.out.2 0 (Nat.zero_le _)).1;rwa[List.drop_zero,HW.out.1,Nat.zero_mul]at this
   have x2:wr.cell? ⟨lb,0,none⟩=some (.slice A n c):=by rw[<-HN.out];exact zc (HI.out.2.2.keep aQ.out yj.out) rfl
   have hpre:(List.range j).flatMap G++(zk9 h bs ((w0:Int)+(j:Int))).map stOf <+: xs:=by
    rw[yX.out];have:=zoY (F:=G) (g:=fun i=>i) hlt;rwa[HG.out]at this ⊢
   have e1:IntKind.i64.wrap ((w0:Int)+(j:Int))=(w0:Int)+(j:Int):=IntWalk.i64_in _ zO;have htl:tr<wr.heap.size:=World.block_lt_of_cell? wr _ y0
   have HDI:=zh (fun w' (hbw:zw wr w')=>show Calls prog 41 #[.slice A bs.length c,.slice (some ⟨tr,0,none⟩) (bs.length+1) (n+1),zi (h:Int),zi ((w0:Int)+(j:Int)),.func (.yield l) #[] #[]] w' (fun e w9=>∃b,e=.returned (.bool b)/\((b=true/\∃C9,J ((List.range (j+1)).flatMap G) C9 w9/\(∀q,C9 q->C q\/W1.heap.size<=q)/\Chg C W1 w9/\¬ C9 tr/\zrx w9 tr h bs)\/(b=false/\∃pre' C9,Jx pre' C9 w9/\Chg C W1 w9)))from(zpj (c:=c) (ct:=n+1) (A:=A) (R:=fun q=>¬ C q/\q<W1.heap.size) (tr:=tr) (pre:=(List.range j).flatMap G) (C:=C') (W:=w') (weight:=(w0:Int)+(j:Int)) zq.out CL.out (by have:=HL0.out;have:=hbw.size;omega) (zq.out.keep _ _ _ _ HI.out.1 (Chg.of_below hbw)) ((cB.out.keep (fun q h _=>h) fun q h hlt=>HI.out.2.2.block q hlt h.1).later hbw) (fJ.out.2.keep (hbw.block _ htl)) (fun q h hc=>(HI.out.2.1 q hc).elim h.1 fun h'=>zO) fJ.out.1 (Nat.lt_of_lt_of_le htl hbw.size) zO hpre).mono
    fun e w9 ⟨b,hb,hr⟩=>⟨b,hb,by
     have hch:∀ {D:World},Chg C' w' D->Chg C W1 D:=fun h=>(HI.out.2.2.trans2 (Chg.of_below hbw (C:=fun _=>False)) fun _ _ h=>h.elim).trans2 h fun q hq h=>(HI.out.2.1 q h).elim id fun h'=>zO
     rcases hr with⟨rfl,C9,h1,h2,h3⟩|⟨rfl,pre',C9,h1,h2⟩
     ·refine .inl ⟨rfl,C9,?_,fun q hq=>(h2 q hq).elim (HI.out.2.1 q) fun h=>.inr (Nat.le_trans hsz (Nat.le_trans hbw.size h)),hch h3,fun h=>(h2 _ h).elim fJ.out.1 fun h=>by have:=hbw.size;omega,fJ.out.2.keep ((h3.block _ (Nat.lt_of_lt_of_le htl hbw.size) fJ.out.1).trans (hbw.block _ htl))⟩;rw[List.range_succ,List.flatMap_append];have e:[j].flatMap G=(zk9 h bs ((w0:Int)+(j:Int))).map stOf:=by rw[HG.out];simp
      rw[e];exact h1
     ·exact .inr ⟨rfl,pre',C9,h1,hch h2⟩⟩)
   rw[HN.out]at HDI;clear hpre htl;go_upto_region 6 with fail
   go_region_with (refine(HDI.out _ (by first|exact zr.drew|exact zkM zr _)).mono ?_;rintro e w9 ⟨b9,rfl,hR9⟩)
   all_goals
    have oC:=zh hR9;clear hR9 y0 x2;try simp only[zQ]
    cases b9
    ·obtain⟨h0,-⟩|⟨-,pre',C9,j9,h9⟩:=oC.out
     ·cases h0
     have HF:=zh (And.intro j9 h9);clear j9 h9;go_wp2_with fail;refine bodyPost_ret (v:=.tuple #[]) (results_none zR _ _ _) rfl ?_;exact⟨⟨_,rfl⟩,.inr ⟨⟨pre',C9,HF.out.1⟩,HF.out.2⟩⟩
    ·obtain⟨-,C9,j9,c9,h9,t9,r9⟩|⟨h0,-⟩:=oC.out;rotate_left 1
     ·cases h0
     have HF:=zh (And.intro j9 (And.intro c9 h9));have vL:=zh (And.intro t9 r9);clear j9 c9 h9 t9 r9;have hwj:IntKind.i64.wrap ((j:Int)+1)=(j:Int)+1:=IntWalk.i64_in _ zO;go_wp2_with fail;exact⟨⟨j+1,C9,zO,by go_num,HF,vL⟩,by simp[intOf];omega⟩
  ·obtain rfl:j=T:=zO
   have hj1:¬ (j:Int)<w1-(w0:Int)+1:=zO
   go_wp2_with fail;go_end0;exact⟨⟨_,rfl⟩,.inl ⟨⟨C',by rw[yX.out];exact HI.out.1⟩,HI.out.2.2⟩⟩
theorem zKM(vs:List VD)(b:BX)(A:Option Addr)(c:Nat)(w:World)(hrow:RowV w Any A vs)(hl:vs.length<=LV)(hok:(b.ok&&svB vs)=true):Calls prog 17 #[.slice A vs.length c,.agg #[zi b.v,zi b.l,zi b.i]] w fun e w' =>
  ∃kF xb lb A2 c2,e=.returned (.func (.func 39) #[] #[ptr0 kF,ptr0 xb,ptr0 lb])/\zw w w'/\w.heap.size<=kF/\w.heap.size<=xb/\w.heap.size<=lb/\AllM w' (fun q=>w.heap.size<=q) b (lenE vs b) kF xb lb A2 c2:=by
 obtain⟨bv,bl,bi⟩:=b;simp only;have hb1:=zkb (zs w) (.cells #[zi bv,zi bl,zi bi] 23);have hk1:=heap_alloc_new w (.cells #[zi bv,zi bl,zi bi] 23);have ym:=zh (fun w' (hb:zw w w')=>zoP vs ⟨bv,bl,bi⟩ A c w' (hrow.later hb) hl);have hlen:=(zmZ hok).1;obtain⟨bs,hbs⟩:=zX (lenE vs ⟨bv,bl,bi⟩);have nT:=zh hbs;rw[hbs]at hlen ⊢;have HLEN:=zh hlen;clear hrow hl hbs hlen;go_enter func17,ntmps17;go_upto_region 1 with fail;obtain⟨w1,hw1⟩:=zX (w.alloc (.cells #[zi bv,zi bl,zi bi] 23));rw[hw1]at hb1 hk1 ⊢;obtain⟨x0,x1,x2⟩:=zl6 hk1;have HB1:=zh hb1;have aC:=zh hk1;clear hw1 hb1 hk1;go_wp2_with fail;refine(ym.out _ HB1.out).mono ?_;rintro e w2 ⟨hb2,⟨h0,rfl⟩|⟨-,A2,c2,rfl,hrb⟩⟩
 ·rw[hok]at h0;cases h0
 have HB2:=zh (zka HB1.out hb2);have aQ:=zh (zkc aC.out hb2);rw[nT.out]at hrb;have cB:=zh (hrb.keep (S':=fun q=>w.heap.size<=q) (fun q h _=>Nat.le_trans HB1.out.size h) fun _ _ _=>rfl);clear hrb hb2 x0 x1 x2 ym;go_wp2_with fail;go_ret;have hb4:=zkb (zkb HB2.out (.cells #[.slice A2 (vs.length+1) c2] 83)) (.cells #[.bool true] 4);have hb24:zw w2 ((w2.alloc (.cells #[.slice A2 (vs.length+1) c2] 83)).alloc (.cells #[.bool true] 4)):=zkb (zkb zr _) _;have hsz:=HB2.out.size;have hl:=HLEN.out;refine⟨w2.heap.size+1,w.heap.size,w2.heap.size,A2,c2,rfl,hb4,zO,zl,hsz,znc zS _,zkc aQ.out hb24,?_,cB.out.later hb24⟩;rw[hl];exact zkd (znc rfl _) _
attribute [local go_sem] Oper.semAt_some
def nilS:SS:=⟨[],[],[]⟩
theorem zpc(w:World){n:Nat}(hn:w.heap.size=n)(o:Obj):(w.alloc o).heap[n]?=some o:=by rw[<-hn];exact World.alloc_heap_new w o
end
section
open Go Go.RowKit
def grE(rel right:SS->Bool)(err:SS->Int):Nat->List SS->Bool×Nat×SS×Int
 | n,[]=>(true,n,nilS,0)
 | n,s::l=>if rel s=true then(if right s=true then grE rel right err (n+1) l else(false,n+1,s,err s))else grE rel right err n l
section
variable {rel right:SS->Bool} {err:SS->Int}
theorem zvC:∀(l:List SS) (n:Nat),n<=(grE rel right err n l).2.1
 | [],n=>Nat.le_refl n
 | s::l,n=>by
  rw[grE]
  split
  ·split
   ·exact Nat.le_of_succ_le (zvC l (n+1))
   ·exact Nat.le_succ n
  ·exact zvC l n
theorem zqk:∀(l:List SS) (n:Nat),
  (∃a s b,l=a++s::b/\(∀x∈a,rel x=true->right x=true)/\rel s=true/\right s=false/\grE rel right err n l=(false,n+(a.filter rel).length+1,s,err s)) \/
  ((∀x∈l,rel x=true->right x=true)/\grE rel right err n l=(true,n+(l.filter rel).length,nilS,0))
 | [],n=>.inr ⟨fun x hx=>(by cases hx),rfl⟩
 | s::l,n=>by
  rw[grE];by_cases h:rel s=true
  ·rw[if_pos h];by_cases h2:right s=true
   ·rw[if_pos h2];rcases zqk l (n+1)with⟨a,t,b,h3,h4,h5,h6,h7⟩|⟨h3,h4⟩
    ·refine .inl ⟨s::a,t,b,by rw[h3];rfl,fun x hx hr=>?_,h5,h6,?_⟩
     ·rcases List.mem_cons.1 hx with rfl|hx
      ·exact h2
      ·exact h4 x hx hr
     ·rw[h7,List.filter_cons_of_pos h,List.length_cons,show n+((a.filter rel).length+1)+1=n+1+(a.filter rel).length+1 by omega]
    ·refine .inr ⟨fun x hx hr=>?_,?_⟩
     ·rcases List.mem_cons.1 hx with rfl|hx
      ·exact h2
      ·exact h3 x hx hr
     ·rw[h4,List.filter_cons_of_pos h,List.length_cons,show n+((l.filter rel).length+1)=n+1+(l.filter rel).length by omega]
   ·rw[if_neg h2];exact .inl ⟨[],s,l,rfl,fun x hx=>(by cases hx),h,by simpa using h2,rfl⟩
  ·rw[if_neg h];rcases zqk l n with⟨a,t,b,h3,h4,h5,h6,h7⟩|⟨h3,h4⟩
   ·refine .inl ⟨s::a,t,b,by rw[h3];rfl,fun x hx hr=>?_,h5,h6,?_⟩
    ·rcases List.mem_cons.1 hx with rfl|hx
     ·exact absurd hr h
     ·exact h4 x hx hr
    ·rw[h7,List.filter_cons_of_neg h]
   ·refine .inr ⟨fun x hx hr=>?_,?_⟩
    ·rcases List.mem_cons.1 hx with rfl|hx
     ·exact absurd hr h
     ·exact h3 x hx hr
    ·rw[h4,List.filter_cons_of_neg h]
theorem zvB{l:List SS}(h:∀x∈l,rel x=true->right x=true):grE rel right err 0 l=(true,(l.filter rel).length,nilS,0):=by
 rcases zqk (rel:=rel) (right:=right) (err:=err) l 0 with⟨a,s,b,h1,h2,h3,h4,h5⟩|⟨h1,h2⟩
 ·rw[h s (by rw[h1];simp) h3]at h4;cases h4
 ·rw[h2,Nat.zero_add]
end
theorem zq4{rel rA rB:SS->Bool}{eA eB:SS->Int}:∀(l:List SS) (n:Nat),(∀s∈l,rel s=true->(rB s=rA s/\eB s=eA s)\/(rB s=false/\eB s=18)) ->
  ((grE rel rB eB n l).2.2.2=18->(grE rel rB eB n l).2.1<=(grE rel rA eA n l).2.1)/\((grE rel rB eB n l).2.2.2≠18->grE rel rA eA n l=grE rel rB eB n l)
 | [],n,_=>⟨fun _=>zl,fun _=>rfl⟩
 | s::l,n,h=>by
  have ih:=fun n=>zq4 l n fun x hx=>h x (List.mem_cons_of_mem _ hx);rw[grE,grE];by_cases hr:rel s=true
  ·rw[if_pos hr,if_pos hr];rcases h s (List.mem_cons_self ..) hr with⟨h1,h2⟩|⟨h1,h2⟩
   ·rw[h1,h2];by_cases ha:rA s=true
    ·rw[if_pos ha,if_pos ha];exact ih (n+1)
    ·rw[if_neg ha,if_neg ha];exact⟨fun _=>zl,fun _=>rfl⟩
   ·rw[if_neg (c:=rB s=true) (by rw[h1];simp)];refine⟨fun _=>?_,fun e=>absurd h2 e⟩
    split
    ·exact zvC l (n+1)
    ·exact zl
  ·rw[if_neg hr,if_neg hr];exact ih n
section
variable {P:Program} {ops:Array Oper} {Q:Exit->Act->World->Prop} {md:Region.Mode} {S1 S2:World->Prop} {k:Nat}
theorem zw1{i j:Nat}{o o':Oper}{fuel:Nat}{listed:Array Bool}{a:Act}{w:World}(hr:Region.ready md ops listed=[i,j])(ho:ops[i]?=some o)(ho':ops[j]?=some o')
  (h:∀K':Act->World->Prop,Shut (∀a w,S1 w/\S2 w->wpG P md ops Q S1 S2 k fuel (listed.setIfInBounds i true) a w->K' a w)->if Region.wanted o (yielded ops a.tmps)=true then Oper.wp P o a w K' Q else K' (a.put o.dst undef) w)
  (h':∀K':Act->World->Prop,Shut (∀a w,S1 w/\S2 w->wpG P md ops Q S1 S2 k fuel (listed.setIfInBounds j true) a w->K' a w)->if Region.wanted o' (yielded ops a.tmps)=true then Oper.wp P o' a w K' Q else K' (a.put o'.dst undef) w) :
  wpG P md ops Q S1 S2 k (fuel+1) listed a w:=by
 refine⟨(fun h0=>by rw[hr]at h0;cases h0),fun x hx=>?_⟩;rw[hr]at hx;simp only[List.mem_cons,List.not_mem_nil,or_false]at hx;rcases hx with rfl|rfl
 ·exact wpOp_step ho fun K' hK=>h K' fun a w hS hW=>hK a w ⟨⟨hS.1,fun _=>hS.2⟩,hW⟩
 ·exact wpOp_step ho' fun K' hK=>h' K' fun a w hS hW=>hK a w ⟨⟨hS.1,fun _=>hS.2⟩,hW⟩
end
theorem set4{W:World}{b:Nat}{x0 x1 x2 x3 u0 u1 u2 u3:Value}{E:TypeId}(h:W.heap[b]?=some (.cells #[x0,x1,x2,x3] E (0,0))) :
  ((((W.setCell ⟨b,0,none⟩ u0).setCell ⟨b,1,none⟩ u1).setCell ⟨b,2,none⟩ u2).setCell ⟨b,3,none⟩ u3).heap[b]?=some (.cells #[u0,u1,u2,u3] E (0,0)) /\
   Chg (fun q=>q=b) W ((((W.setCell ⟨b,0,none⟩ u0).setCell ⟨b,1,none⟩ u1).setCell ⟨b,2,none⟩ u2).setCell ⟨b,3,none⟩ u3):=by
 refine⟨?_,((((Chg.refl (fun q=>q=b) W).setCell (p:=⟨b,0,none⟩) (.inl rfl) _).setCell (p:=⟨b,1,none⟩) (.inl rfl) _).setCell (p:=⟨b,2,none⟩) (.inl rfl) _).setCell (p:=⟨b,3,none⟩) (.inl rfl) _⟩;rw[heap_setCell_same _ b 3 _ _ u3 (heap_setCell_same _ b 2 _ _ u2 (heap_setCell_same _ b 1 _ _ u1 (heap_setCell_same W b 0 _ _ u0 h)))];simp
theorem zqp(t:T)(v:Value)(back:Bool)(w0 w:World)(hB0:zw w0 w)(hv:NV w0 Any t v)(hk:0<t.ks.length):Calls prog 151 #[v,.bool back] w fun e W'=>∃v1 v2,e=.returned (.tuple #[v1,v2])/\NV w0 Any (fstT back t) v1/\NV w0 Any (lstT back t) v2/\zw w W':=by
 have HV:=zh hv;obtain⟨A,c,rfl,hf,hlk,hlc,hrow⟩:=hv.open_;obtain⟨m,hm⟩:∃m,t.ks.length=m+1:=⟨t.ks.length-1,zO⟩
 obtain⟨a,a0,a1,a2,a3,rfl,-,ha,hna⟩:=hrow 0 zO;obtain⟨a',b0,b1,b2,b3,e',-,hb,hnb⟩:=hrow m zO;injection e' with e';subst e';obtain⟨t6,AP⟩:=zX (t.ks[0]'zO);obtain⟨t7,AL⟩:=zX (t.ks[m]'zO);rw[AP]at hna;rw[AL]at hnb;have iL:=zh hna;have uS:=zh hnb;have Cf:=zh (show kid t 0=t6 by simp[kid,show 0<t.ks.length by omega,AP]);have Ce:=zh (show kid t (t.ks.length-1)=t7 by simp[kid,hm,show m<t.ks.length by omega,AL]);obtain⟨A6,c6,e6,-⟩:=hna.open_;obtain⟨A7,c7,e7,-⟩:=hnb.open_;simp only[nv,Value.agg.injEq,Array.mk.injEq,List.cons.injEq,and_true]at e6 e7;obtain⟨rfl,rfl,rfl,rfl⟩:=e6;obtain⟨rfl,rfl,rfl,rfl⟩:=e7;clear hna hnb AP AL;obtain⟨ha0,ha1,ha2,tN⟩:=ha;obtain⟨hb0,hb1,hb2,hb3⟩:=hb;simp only[Nat.zero_mul,Addr.add_zero']at ha0 ha1 ha2 tN
 replace ha0:=zb hB0 ha0
 replace ha1:=zb hB0 ha1
 replace ha2:=zb hB0 ha2
 replace tN:=zb hB0 tN
 replace hb0:=zb hB0 hb0
 replace hb1:=zb hB0 hb1
 replace hb2:=zb hB0 hb2
 replace hb3:=zb hB0 hb3
 clear hB0;have wh:IntKind.i64.wrap (m:Int)=(m:Int):=IntWalk.i64_in _ (by unfold LK at hlk;omega);have hm0:(0:Int)<=(m:Int):=zO
 have hm1:(m:Int)<((m:Int)+1):=zO
 have hbl:zw w (((w.alloc (.cells #[zj t.k,zi t.n,.string t.s,.slice (some a) (m+1) c] 28)).alloc (.cells #[zj 0,zi 0,.string ⟨#[]⟩,zn] 28)).alloc (.cells #[zj 0,zi 0,.string ⟨#[]⟩,zn] 28)):=zkb (zkb (zkb zr _) _) _;have hk0:=zkd (zkd (heap_alloc_new w (.cells #[zj t.k,zi t.n,.string t.s,.slice (some a) (m+1) c] 28)) (.cells #[zj 0,zi 0,.string ⟨#[]⟩,zn] 28)) (.cells #[zj 0,zi 0,.string ⟨#[]⟩,zn] 28);have hk4:=zkd (heap_alloc_new (w.alloc (.cells #[zj t.k,zi t.n,.string t.s,.slice (some a) (m+1) c] 28)) (.cells #[zj 0,zi 0,.string ⟨#[]⟩,zn] 28)) (.cells #[zj 0,zi 0,.string ⟨#[]⟩,zn] 28)
 have hk5:=heap_alloc_new ((w.alloc (.cells #[zj t.k,zi t.n,.string t.s,.slice (some a) (m+1) c] 28)).alloc (.cells #[zj 0,zi 0,.string ⟨#[]⟩,zn] 28)) (.cells #[zj 0,zi 0,.string ⟨#[]⟩,zn] 28);simp only[World.size_alloc]at hk4 hk5;go_enter func151,ntmps151;go_upto_region 1 with fail;obtain⟨w1,hw1⟩:=zX (((w.alloc (.cells #[zj t.k,zi t.n,.string t.s,.slice (some a) (m+1) c] 28)).alloc (.cells #[zj 0,zi 0,.string ⟨#[]⟩,zn] 28)).alloc (.cells #[zj 0,zi 0,.string ⟨#[]⟩,zn] 28));rw[hw1]at hbl hk0 hk4 hk5 ⊢
 have hSS:zW (fun w':World=>zv w' w.heap.size 3 (.slice (some a) (m+1) c)/\(w'.cell? a=some (zj t6.k)/\zv w' a.block (a.off+1) (zi t6.n)/\zv w' a.block (a.off+2) (.string t6.s)/\zv w' a.block (a.off+3) (.slice A6 t6.ks.length c6))/\(w'.cell? (a.add (m*4))=some (zj t7.k)/\zv w' ((a.add (m*4)).block) ((a.add (m*4)).off+1) (zi t7.n)/\zv w' ((a.add (m*4)).block) ((a.add (m*4)).off+2) (.string t7.s)/\zv w' ((a.add (m*4)).block) ((a.add (m*4)).off+3) (.slice A7 t7.ks.length c7))) zU w1.drew:=⟨⟨zc hk0 rfl,⟨zb hbl.drew ha0,zb hbl.drew ha1,zb hbl.drew ha2,zb hbl.drew tN⟩,⟨zb hbl.drew hb0,zb hbl.drew hb1,zb hbl.drew hb2,zb hbl.drew hb3⟩⟩,trivial⟩
 have gT:=zh (show w1.heap[w.heap.size+1]?=some (.cells #[zj 0,zi 0,.string ⟨#[]⟩,zn] 28 (0,0))from hk4);have fM:=zh (show w1.heap[w.heap.size+1+1]?=some (.cells #[zj 0,zi 0,.string ⟨#[]⟩,zn] 28 (0,0))from hk5);have ag:=zh hbl;clear hw1 hbl hk0 hk4 hk5 ha0 ha1 ha2 tN hb0 hb1 hb2 hb3 hrow HV;refine wp_region_noPanic ?_;refine zG hSS 15 ?_;refine zT 0 hSS ?_;refine zT 1 hSS ?_;refine zT 2 hSS ?_;refine zT 3 hSS ?_;refine zT 4 hSS ?_;refine zT 5 hSS ?_;refine zT 6 hSS ?_;refine zT 7 hSS ?_;refine zT 8 hSS ?_;refine zT 9 hSS ?_;refine zT 10 hSS ?_;refine zT 11 hSS ?_
 have uG:=zh (show ∀w',zw w1 w'->(fun w':World=>zv w' w.heap.size 3 (.slice (some a) (m+1) c)/\(w'.cell? a=some (zj t6.k)/\zv w' a.block (a.off+1) (zi t6.n)/\zv w' a.block (a.off+2) (.string t6.s)/\zv w' a.block (a.off+3) (.slice A6 t6.ks.length c6))/\(w'.cell? (a.add (m*4))=some (zj t7.k)/\zv w' ((a.add (m*4)).block) ((a.add (m*4)).off+1) (zi t7.n)/\zv w' ((a.add (m*4)).block) ((a.add (m*4)).off+2) (.string t7.s)/\zv w' ((a.add (m*4)).block) ((a.add (m*4)).off+3) (.slice A7 t7.ks.length c7))) w' from fun w' hb=>by
  obtain⟨⟨q0,⟨q1,q2,q3,q4⟩,q5,q6,q7,q8⟩,-⟩:=hSS;exact⟨zb hb q0,⟨zb hb q1,zb hb q2,zb hb q3,zb hb q4⟩,zb hb q5,zb hb q6,zb hb q7,zb hb q8⟩)
 clear hSS;refine zw1 (i:=12) (j:=13) zK rfl rfl (fun K hK=>?_) (fun K hK=>?_);(try simp only[zA,zB,zC]);go_simp;have hb2:=zkb (zs w1) (.cells #[zj 0,zi 0,.string ⟨#[]⟩,zn] 28);refine hK.out _ _ ⟨uG.out _ hb2.drew,trivial⟩ ?_;clear hK K;(try simp only[zQ]);refine zo 13 fun K hK=>?_;(try simp only[zA,zB,zC]);go_simp;have hb3:zw w1 ((w1.alloc (.cells #[zj 0,zi 0,.string ⟨#[]⟩,zn] 28)).alloc (.cells #[zj 0,zi 0,.string ⟨#[]⟩,zn] 28)):=zkb hb2 (.cells #[zj 0,zi 0,.string ⟨#[]⟩,zn] 28);have dL:=zkd (heap_alloc_new w1 (.cells #[zj 0,zi 0,.string ⟨#[]⟩,zn] 28)) (.cells #[zj 0,zi 0,.string ⟨#[]⟩,zn] 28)
 have iU:=heap_alloc_new (w1.alloc (.cells #[zj 0,zi 0,.string ⟨#[]⟩,zn] 28)) (.cells #[zj 0,zi 0,.string ⟨#[]⟩,zn] 28);rw[World.size_alloc]at iU;refine hK.out _ _ ⟨uG.out _ hb3.drew,trivial⟩ ?_;clear hK K;(try simp only[zQ]);obtain⟨w3,hw3⟩:=zX ((w1.alloc (.cells #[zj 0,zi 0,.string ⟨#[]⟩,zn] 28)).alloc (.cells #[zj 0,zi 0,.string ⟨#[]⟩,zn] 28));rw[hw3]at hb3 dL iU ⊢;clear hw3 hb2;generalize GE7:w1.heap.size+1=b7 at iU ⊢;generalize GE6:w1.heap.size=b6 at dL ⊢;rotate_left 1;(try simp only[zA,zB,zC]);go_simp;have hb2:=zkb (zs w1) (.cells #[zj 0,zi 0,.string ⟨#[]⟩,zn] 28);refine hK.out _ _ ⟨uG.out _ hb2.drew,trivial⟩ ?_;clear hK K;(try simp only[zQ]);refine zo 12 fun K hK=>?_;(try simp only[zA,zB,zC]);go_simp
 have hb3:zw w1 ((w1.alloc (.cells #[zj 0,zi 0,.string ⟨#[]⟩,zn] 28)).alloc (.cells #[zj 0,zi 0,.string ⟨#[]⟩,zn] 28)):=zkb hb2 (.cells #[zj 0,zi 0,.string ⟨#[]⟩,zn] 28);have iU:=zkd (heap_alloc_new w1 (.cells #[zj 0,zi 0,.string ⟨#[]⟩,zn] 28)) (.cells #[zj 0,zi 0,.string ⟨#[]⟩,zn] 28);have dL:=heap_alloc_new (w1.alloc (.cells #[zj 0,zi 0,.string ⟨#[]⟩,zn] 28)) (.cells #[zj 0,zi 0,.string ⟨#[]⟩,zn] 28);rw[World.size_alloc]at dL;refine hK.out _ _ ⟨uG.out _ hb3.drew,trivial⟩ ?_;clear hK K;(try simp only[zQ]);obtain⟨w3,hw3⟩:=zX ((w1.alloc (.cells #[zj 0,zi 0,.string ⟨#[]⟩,zn] 28)).alloc (.cells #[zj 0,zi 0,.string ⟨#[]⟩,zn] 28))
 rw[hw3]at hb3 iU dL ⊢;clear hw3 hb2;generalize GE7:w1.heap.size+1=b6 at dL ⊢;generalize GE6:w1.heap.size=b7 at iU ⊢
 all_goals
  have gE:w1.heap.size<=b6/\w1.heap.size<=b7/\b6≠b7:=zO
  obtain⟨g6,g7,gN⟩:=gE;clear GE6 GE7;have HB3:=zh hb3;have c0:w3.cell? ⟨b6,0,none⟩=some (zj 0):=zc dL rfl;have c1:w3.cell? ⟨b6,1,none⟩=some (zi 0):=zc dL rfl;have c2:w3.cell? ⟨b6,2,none⟩=some (.string ⟨#[]⟩):=zc dL rfl;have c3:w3.cell? ⟨b6,3,none⟩=some zn:=zc dL rfl;have cf:∀o,w3.frozen? ⟨b6,o,none⟩=false:=fun _=>zf dL;refine zo 14 fun K hK=>?_;(try simp only[zA,zB,zC]);go_simp;obtain⟨hh,hch⟩:=set4 (u0:=(zj t6.k)) (u1:=(zi t6.n)) (u2:=(.string t6.s)) (u3:=(.slice A6 t6.ks.length c6)) dL;obtain⟨w4,hwn⟩:=zX ((((w3.setCell ⟨b6,0,none⟩ (zj t6.k)).setCell ⟨b6,1,none⟩ (zi t6.n)).setCell ⟨b6,2,none⟩ (.string t6.s)).setCell ⟨b6,3,none⟩ (.slice A6 t6.ks.length c6));rw[hwn]at hh hch ⊢;have hb4:zw w1 w4:=HB3.out.trans (hch.below HB3.out.size fun b e=>zO);refine hK.out _ _ ⟨uG.out _ hb4.drew,trivial⟩ ?_
  clear hK K c0 c1 c2 c3 cf hwn;(try simp only[zQ]);have ay:=zh hb4;have jk:=hch.keep iU zO;have c0:w4.cell? ⟨b7,0,none⟩=some (zj 0):=zc jk rfl;have c1:w4.cell? ⟨b7,1,none⟩=some (zi 0):=zc jk rfl;have c2:w4.cell? ⟨b7,2,none⟩=some (.string ⟨#[]⟩):=zc jk rfl;have c3:w4.cell? ⟨b7,3,none⟩=some zn:=zc jk rfl;have cf:∀o,w4.frozen? ⟨b7,o,none⟩=false:=fun _=>zf jk;refine zp 15 fun K hK=>?_;(try simp only[zA,zB,zC]);go_simp;obtain⟨wu,bN⟩:=set4 (u0:=(zj t7.k)) (u1:=(zi t7.n)) (u2:=(.string t7.s)) (u3:=(.slice A7 t7.ks.length c7)) jk;obtain⟨w5,hwn⟩:=zX ((((w4.setCell ⟨b7,0,none⟩ (zj t7.k)).setCell ⟨b7,1,none⟩ (zi t7.n)).setCell ⟨b7,2,none⟩ (.string t7.s)).setCell ⟨b7,3,none⟩ (.slice A7 t7.ks.length c7));rw[hwn]at wu bN ⊢;have hb5:zw w1 w5:=ay.out.trans (bN.below ay.out.size fun b e=>zO)
  refine hK.out _ _ (uG.out _ hb5.drew) ?_;clear hK K c0 c1 c2 c3 cf hwn;(try simp only[zQ]);have yt:=zh (bN.keep hh zO);have Cz:=zh wu;have aS:=zh (show zw w1 w5 from hb5);clear hb3 dL iU jk hh wu hch bN hb4 hb5 ay HB3 uG;refine zd ?_;refine NoPanic.normal ?_;have qO:=zh (zkc gT.out aS.out);have uw:=zh (zkc fM.out aS.out);obtain⟨P,Q,X,Y,AX,AY,CX,CY,hE⟩:∃P Q X Y AX AY CX CY,cond back (P=b7/\Q=b6/\X=t7/\Y=t6/\AX=A7/\AY=A6/\CX=c7/\CY=c6) (P=b6/\Q=b7/\X=t6/\Y=t7/\AX=A6/\AY=A7/\CX=c6/\CY=c7):=by cases back<;>exact⟨_,_,_,_,_,_,_,_,rfl,rfl,rfl,rfl,rfl,rfl,rfl,rfl⟩
  cases back
  obtain⟨rfl,rfl,rfl,rfl,rfl,rfl,rfl,rfl⟩:=hE;have HX:=yt;have HY:=Cz;have NX:=iL;have NY:=uS;have EX:=Cf;have EY:=Ce;go_upto_region 4 with fail;rotate_left 1;obtain⟨rfl,rfl,rfl,rfl,rfl,rfl,rfl,rfl⟩:=hE;have HX:=Cz;have HY:=yt;have NX:=uS;have NY:=iL;have EX:=Ce;have EY:=Cf;go_upto_region 3 with fail
  all_goals
   clear yt Cz iL uS Cf Ce;have hS5:(fun w':World=>(zN4 w' P (zj X.k) (zi X.n) (.string X.s) (.slice AX X.ks.length CX))/\zN4 w' Q (zj Y.k) (zi Y.n) (.string Y.s) (.slice AY Y.ks.length CY)) w5.drew:=⟨⟨zc HX.out rfl,zc HX.out rfl,zc HX.out rfl,zc HX.out rfl⟩,⟨zc HY.out rfl,zc HY.out rfl,zc HY.out rfl,zc HY.out rfl⟩⟩
   refine wp_region_noPanic ?_;refine zkl (fun w':World=>(zN4 w' P (zj X.k) (zi X.n) (.string X.s) (.slice AX X.ks.length CX))/\zN4 w' Q (zj Y.k) (zi Y.n) (.string Y.s) (.slice AY Y.ks.length CY)) zU 3 zK ?_;refine zkr (i:=0) (v:=?_) rfl zK zK zK zY (fun _ _ _ h=>h) (Or.inl ⟨zR,?_⟩) ⟨hS5,trivial⟩ ?_;rotate_left 1
   ·(intro w hSw;(try dsimp only at hSw);(try simp only[zA,zC]);go_simp;(try with_reducible rfl))
   (try simp only[zQ]);refine zkr (i:=1) (v:=?_) rfl zK zK zK zY (fun _ _ _ h=>h) (Or.inl ⟨zR,?_⟩) ⟨hS5,trivial⟩ ?_;rotate_left 1
   ·(intro w hSw;(try dsimp only at hSw);(try simp only[zA,zB,zC]);go_simp;(try with_reducible rfl))
   (try simp only[zQ]);have hsz:w.heap.size+1+1<w1.heap.size:=(Array.getElem?_eq_some_iff.mp fM.out).1;have aU:=zh (ag.out.trans (aS.out.mono zO));have HC:=zh (show ∀W':World,W'.heap[P]?=w5.heap[P]?->W'.heap[Q]?=w5.heap[Q]?->(fun w':World=>(zN4 w' P (zj X.k) (zi X.n) (.string X.s) (.slice AX X.ks.length CX)/\zN4 w' Q (zj Y.k) (zi Y.n) (.string Y.s) (.slice AY Y.ks.length CY))) W'.drew from fun W' h6 h7=>⟨⟨zc (h6.trans HX.out) rfl,zc (h6.trans HX.out) rfl,zc (h6.trans HX.out) rfl,zc (h6.trans HX.out) rfl⟩,⟨zc (h7.trans HY.out) rfl,zc (h7.trans HY.out) rfl,zc (h7.trans HY.out) rfl,zc (h7.trans HY.out) rfl⟩⟩);have HZQ:=zh qO.out;have kW:=qO.out;have HZ5K:=uw.out;have c0:w5.cell? ⟨(w.heap.size+1),0,none⟩=some (zj 0):=zc kW rfl;have c1:w5.cell? ⟨(w.heap.size+1),1,none⟩=some (zi 0):=zc kW rfl
   have c2:w5.cell? ⟨(w.heap.size+1),2,none⟩=some (.string ⟨#[]⟩):=zc kW rfl;have c3:w5.cell? ⟨(w.heap.size+1),3,none⟩=some zn:=zc kW rfl;have cf:∀o,w5.frozen? ⟨(w.heap.size+1),o,none⟩=false:=fun _=>zf kW;refine zo 2 fun K hK=>?_;(try simp only[zA,zB,zC]);go_simp;obtain⟨hh,hch⟩:=set4 (u0:=(zj X.k)) (u1:=(zi X.n)) (u2:=(.string X.s)) (u3:=(.slice AX X.ks.length CX)) kW;obtain⟨w6,hwn⟩:=zX ((((w5.setCell ⟨(w.heap.size+1),0,none⟩ (zj X.k)).setCell ⟨(w.heap.size+1),1,none⟩ (zi X.n)).setCell ⟨(w.heap.size+1),2,none⟩ (.string X.s)).setCell ⟨(w.heap.size+1),3,none⟩ (.slice AX X.ks.length CX));rw[hwn]at hh hch ⊢;clear c0 c1 c2 c3 cf hwn;have HBW6:=zh (aU.out.trans (hch.below aU.out.size fun b e=>zO));have k6:=hch.block (P) (Array.getElem?_eq_some_iff.mp HX.out).1 zO
   have k7:=hch.block (Q) (Array.getElem?_eq_some_iff.mp HY.out).1 zO;have kU:=hch.keep HZ5K zO;refine hK.out _ _ ⟨HC.out _ k6 k7,trivial⟩ ?_;have HF4:=zh hh;have K6:=zh k6;have K7:=zh k7;have fP:=zh hch;clear hK K k6 k7 hh hch;(try simp only[zQ]);have c0:w6.cell? ⟨(w.heap.size+1+1),0,none⟩=some (zj 0):=zc kU rfl;have c1:w6.cell? ⟨(w.heap.size+1+1),1,none⟩=some (zi 0):=zc kU rfl;have c2:w6.cell? ⟨(w.heap.size+1+1),2,none⟩=some (.string ⟨#[]⟩):=zc kU rfl;have c3:w6.cell? ⟨(w.heap.size+1+1),3,none⟩=some zn:=zc kU rfl;have cf:∀o,w6.frozen? ⟨(w.heap.size+1+1),o,none⟩=false:=fun _=>zf kU;refine zp 3 fun K hK=>?_;(try simp only[zA,zB,zC]);go_simp;obtain⟨hh,hch⟩:=set4 (u0:=(zj Y.k)) (u1:=(zi Y.n)) (u2:=(.string Y.s)) (u3:=(.slice AY Y.ks.length CY)) kU
   obtain⟨w7,hwn⟩:=zX ((((w6.setCell ⟨(w.heap.size+1+1),0,none⟩ (zj Y.k)).setCell ⟨(w.heap.size+1+1),1,none⟩ (zi Y.n)).setCell ⟨(w.heap.size+1+1),2,none⟩ (.string Y.s)).setCell ⟨(w.heap.size+1+1),3,none⟩ (.slice AY Y.ks.length CY));rw[hwn]at hh hch ⊢;clear c0 c1 c2 c3 cf hwn;have HBW7:=zh (HBW6.out.trans (hch.below HBW6.out.size fun b e=>zO));have k6:=hch.block (P) (by have:=(Array.getElem?_eq_some_iff.mp HX.out).1;have:=fP.out.size;omega) zO;have k7:=hch.block (Q) (by have:=(Array.getElem?_eq_some_iff.mp HY.out).1;have:=fP.out.size;omega) zO;have HF4':=zh (hch.keep HF4.out zO);refine hK.out _ _ (HC.out _ (k6.trans K6.out) (k7.trans K7.out)) ?_;have HF5:=zh hh;clear hK K k6 k7 hh hch;(try simp only[zQ]);refine zd ?_;refine NoPanic.normal ?_;have d4:=HF4'.out;have d5:=HF5.out
   have g0:w7.drew.cell? ⟨w.heap.size+1,0,none⟩=some (zj X.k):=zc d4 rfl;have g1:w7.drew.cell? ⟨w.heap.size+1,1,none⟩=some (zi X.n):=zc d4 rfl;have g2:w7.drew.cell? ⟨w.heap.size+1,2,none⟩=some (.string X.s):=zc d4 rfl;have g3:w7.drew.cell? ⟨w.heap.size+1,3,none⟩=some (.slice AX X.ks.length CX):=zc d4 rfl;have g4:w7.drew.cell? ⟨w.heap.size+1+1,0,none⟩=some (zj Y.k):=zc d5 rfl;have g5:w7.drew.cell? ⟨w.heap.size+1+1,1,none⟩=some (zi Y.n):=zc d5 rfl;have g6:w7.drew.cell? ⟨w.heap.size+1+1,2,none⟩=some (.string Y.s):=zc d5 rfl;have g7:w7.drew.cell? ⟨w.heap.size+1+1,3,none⟩=some (.slice AY Y.ks.length CY):=zc d5 rfl;go_wp2_with fail
   refine bodyPost_ret (v:=.tuple #[.agg #[zj X.k,zi X.n,.string X.s,.slice AX X.ks.length CX],.agg #[zj Y.k,zi Y.n,.string Y.s,.slice AY Y.ks.length CY]]) (by simp[results,results151,go_sem,g0,g1,g2,g3,g4,g5,g6,g7]) rfl ⟨_,_,rfl,?_,?_,HBW7.out.drew.drew⟩
   ·simp only[fstT,lstT,if_true,if_false,Bool.false_eq_true,EX.out,EY.out];exact NX.out
   ·simp only[fstT,lstT,if_true,if_false,Bool.false_eq_true,EX.out,EY.out];exact NY.out
def IStC(G:List PR->T->Prop)(g:Nat):Prop:=∀C:RC,C.Ok->∀(W:World) (r:RS),RI C W r->∀(t:T) (v:Value) (back:Bool),NV C.w Any t v->G C.p.prs t->zkq C.p.prs C.F g back t r ≠ .gas ->
 Calls prog 108 #[.pointer (some ⟨C.rb,0,none⟩),v,.bool back] W (RunP C W (zkq C.p.prs C.F g back t r))
theorem zlq{G:List PR->T->Prop}{g:Nat}(hS:IStC G g){C:RC}(hC:C.Ok){W:World}{r:RS}(h:RI C W r)(t:T)(v:Value)(back:Bool)(hv:NV C.w Any t v)(hG:∀u∈t.ks,G C.p.prs u)(aD:runO C.p.prs C.F g back t r ≠ .gas) :
  Calls prog 76 #[.pointer (some ⟨C.rb,0,none⟩),v,.bool back] W (RunP C W (runO C.p.prs C.F g back t r)):=by
 obtain⟨A,c,rfl,-,hlk,hlc,hrow⟩:=hv.open_;have ae:=zh hrow;have HS:=zh hS;have HG:=zh hG;have hb0:=zkb (zs W) (.cells #[zj t.k,zi t.n,.string t.s,.slice A t.ks.length c] 28);obtain⟨bz,h1⟩:=h.plus hC hb0;have hz1:(W.alloc (.cells #[zj t.k,zi t.n,.string t.s,.slice A t.ks.length c] 28)).heap.size=W.heap.size+1:=zS
 have hbx:=box4 (heap_alloc_new W (.cells #[zj t.k,zi t.n,.string t.s,.slice A t.ks.length c] 28));have aG:=zh (Kpt.of_below (n0:=C.n0) (kb:=C.kb) hb0);obtain⟨W1,hW1⟩:=zX (W.alloc (.cells #[zj t.k,zi t.n,.string t.s,.slice A t.ks.length c] 28));rw[hW1]at bz h1 hz1 hbx aG;obtain⟨hi,hhi⟩:=zX (W1.heap.size);rw[hhi]at bz h1 hz1;have lW:=zh bz;have H1:=zh h1;have aR:=zh hbx;have hz2:W.heap.size<hi:=zO
 have hwn:IntKind.i64.wrap ((t.ks.length:Int)-1)=(t.ks.length:Int)-1:=IntWalk.i64_in _ (by unfold LK at hlk;omega);have hwq:∀j:Nat,j<t.ks.length->IntKind.i64.wrap ((t.ks.length:Int)-1-(j:Int))=((t.ks.length-1-j:Nat):Int):=fun j hj=>by rw[IntWalk.i64_in _ (by unfold LK at hlk;omega)];omega
 obtain⟨o,ho⟩:=zX (runO C.p.prs C.F g back t r);have HO:=zh (show zkP (zkq C.p.prs C.F g back) ((blkL back t).drop 0) r=o by rw[List.drop_zero];exact ho);have qA:=zh (show o ≠ .gas from ho▸aD);have wH:(blkL back t).length=t.ks.length:=by unfold blkL;split<;>simp
 rw[ho];have gQ:=zh wH;have hlk2:t.ks.length<=17592186044416:=by unfold LK at hlk;omega
 clear wH hlk;clear hv bz h1 hbx hb0 h hz1 hS hG hrow ho aD;obtain⟨x0,x1,x2,x3⟩:=aR.out;go_enter func76,ntmps76;go_wp2_with fail;clear x0 x1 x2 x3 hW1
 go_loopw [15] (fun i wr=>∃(j:Nat) (r1:RS),j<=t.ks.length/\i=zi j/\Hid (RI (C.plus W.heap.size hi) wr r1)/\Hid (Kpt C.n0 (C.plus W.heap.size hi).kb W1 wr)/\Hid (zkP (zkq C.p.prs C.F g back) ((blkL back t).drop j) r1=o)) (fun i _=>t.ks.length-(intOf i).toNat)
 case atStart=>exact⟨0,r,Nat.zero_le _,rfl,H1,zh (Kpt.refl _ _ _),HO⟩
 case round =>
  obtain⟨j,r1,hj,rfl,HR,HK,HB⟩:=hrel;by_cases hlt:j<t.ks.length
  ·cases back
   ·skip
    have hj1:(j:Int)<(t.ks.length:Int):=zO
    have hj0:(0:Int)<=(j:Int):=zO
    have AV:j<t.ks.length:=zO
    have hqs1:(j:Int)<(t.ks.length:Int):=zO
    have hqs0:(0:Int)<=(j:Int):=zO
    have dW:=HR.out.below;obtain⟨a,u,A1,c1,rfl,-,hu,⟨p0,p1,p2,p3⟩,hnu⟩:=ae.out.nd AV;have hgu:=HG.out u (by rw[<-hu.out];exact List.getElem_mem _);have hbs:zkP (zkq C.p.prs C.F g false) ((blkL false t).drop j) r1=(zkq C.p.prs C.F g false u r1).bind (zkP (zkq C.p.prs C.F g false) ((blkL false t).drop (j+1))):=by
     rw[show(blkL false t).drop j=u::(blkL false t).drop (j+1) by rw[List.drop_eq_getElem_cons (by rw[gQ.out];exact hlt),<-hu.out];congr 1;all_goals simp[blkL,hlt]];rfl
    rw[HB.out]at hbs;have nT:=zh hbs;have xY:=zh (HS.out (C.plus W.heap.size hi) lW.out wr r1 HR.out u _ false hnu hgu (fun e=>qA.out (by rw[hbs,show zkq C.p.prs C.F g false u r1=.gas from e];rfl)));have q0:=zb dW p0;have q1:=zb dW p1;have q2:=zb dW p2;have q3:=zb dW p3;have x3:wr.cell? ⟨W.heap.size,3,none⟩=some (.slice (some a) t.ks.length c):=HK.out.cell (.inr (.inr ⟨zl,hz2⟩)) aR.out.2.2.2;clear hbs dW hnu hgu p0 p1 p2 p3 hu;go_wp2_with fail;refine xY.out.mono ?_;rintro e w2 ⟨hk2,hb2,ho2⟩;have gD:match zkq C.p.prs C.F g false u r1 with
     | .gas=>True
     | .err x=>e=zlM x
     | .ok r=>(∃u,e=.returned u)/\RI (C.plus W.heap.size hi) w2 r:=ho2
    have aQ:=zh (HK.out.trans hk2);clear ho2 hk2 xY q0 q1 q2 q3 x3
    cases hx:zkq C.p.prs C.F g false u r1 with
    | gas=>exact absurd (by rw[nT.out,hx];rfl) qA.out
    | err x =>
     rw[hx]at gD;subst gD;have ho3:o=.err x:=by rw[nT.out,hx];rfl
     dsimp only;refine⟨rfl,aG.out.trans (Kpt.less aQ.out),hb2,?_⟩;rw[ho3]
    | ok r2 =>
     rw[hx]at gD;obtain⟨⟨u2,rfl⟩,hr2⟩:=gD;have HR2:=zh hr2;have HB2:=zh (show zkP (zkq C.p.prs C.F g false) ((blkL false t).drop (j+1)) r2=o by rw[nT.out,hx];rfl);clear hr2 hx;go_wp2_with fail
     go_roundw
     case rel=>exact⟨j+1,r2,zO,by go_num,HR2,aQ,HB2⟩
     case measure=>simp[intOf];omega
   ·skip
    have hwq1:=hwq j hlt;obtain⟨q,hq⟩:=zX (t.ks.length-1-j);rw[hq]at hwq1;have hj1:(j:Int)<(t.ks.length:Int):=zO
    have hj0:(0:Int)<=(j:Int):=zO
    have AV:q<t.ks.length:=zO
    have hqs1:(q:Int)<(t.ks.length:Int):=zO
    have hqs0:(0:Int)<=(q:Int):=zO
    have dW:=HR.out.below;obtain⟨a,u,A1,c1,rfl,-,hu,⟨p0,p1,p2,p3⟩,hnu⟩:=ae.out.nd AV;have hgu:=HG.out u (by rw[<-hu.out];exact List.getElem_mem _);have hbs:zkP (zkq C.p.prs C.F g true) ((blkL true t).drop j) r1=(zkq C.p.prs C.F g true u r1).bind (zkP (zkq C.p.prs C.F g true) ((blkL true t).drop (j+1))):=by
     rw[show(blkL true t).drop j=u::(blkL true t).drop (j+1) by rw[List.drop_eq_getElem_cons (by rw[gQ.out];exact hlt),<-hu.out];congr 1;all_goals simp[blkL,hq]];rfl
    rw[HB.out]at hbs;have nT:=zh hbs;have xY:=zh (HS.out (C.plus W.heap.size hi) lW.out wr r1 HR.out u _ true hnu hgu (fun e=>qA.out (by rw[hbs,show zkq C.p.prs C.F g true u r1=.gas from e];rfl)));have q0:=zb dW p0;have q1:=zb dW p1;have q2:=zb dW p2;have q3:=zb dW p3;have x3:wr.cell? ⟨W.heap.size,3,none⟩=some (.slice (some a) t.ks.length c):=HK.out.cell (.inr (.inr ⟨zl,hz2⟩)) aR.out.2.2.2;clear hbs dW hnu hgu p0 p1 p2 p3 hu;go_wp2_with fail;refine xY.out.mono ?_;rintro e w2 ⟨hk2,hb2,ho2⟩;have gD:match zkq C.p.prs C.F g true u r1 with
     | .gas=>True
     | .err x=>e=zlM x
     | .ok r=>(∃u,e=.returned u)/\RI (C.plus W.heap.size hi) w2 r:=ho2
    have aQ:=zh (HK.out.trans hk2);clear ho2 hk2 xY q0 q1 q2 q3 x3
    cases hx:zkq C.p.prs C.F g true u r1 with
    | gas=>exact absurd (by rw[nT.out,hx];rfl) qA.out
    | err x =>
     rw[hx]at gD;subst gD;have ho3:o=.err x:=by rw[nT.out,hx];rfl
     dsimp only;refine⟨rfl,aG.out.trans (Kpt.less aQ.out),hb2,?_⟩;rw[ho3]
    | ok r2 =>
     rw[hx]at gD;obtain⟨⟨u2,rfl⟩,hr2⟩:=gD;have HR2:=zh hr2;have HB2:=zh (show zkP (zkq C.p.prs C.F g true) ((blkL true t).drop (j+1)) r2=o by rw[nT.out,hx];rfl);clear hr2 hx;go_wp2_with fail
     go_roundw
     case rel=>exact⟨j+1,r2,zO,by go_num,HR2,aQ,HB2⟩
     case measure=>simp[intOf];omega
  ·have ho3:o=.ok r1:=by
    rw[<-HB.out,show(blkL back t).drop j=[] by rw[List.drop_eq_nil_iff,gQ.out];omega];rfl
   have hbr:=HR.out.below;have hj1:¬ (j:Int)<(t.ks.length:Int):=zO
   go_wp2_with fail;go_end0;refine⟨aG.out.trans (Kpt.less HK.out),hbr,?_⟩
   try rw[ho3]
   exact⟨⟨_,rfl⟩,HR.out.less⟩
end
end Go.Proofs.YthjinpodhacleaaGreat
