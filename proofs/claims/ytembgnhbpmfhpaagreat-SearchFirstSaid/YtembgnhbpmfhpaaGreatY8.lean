/-
  Texts of the proof, put together without their remarks: Ic, Iu, Iw, Ix, Iy, Il, Iv, Id, It, Lim, Val, Scp, Ik, Im, Iz.
-/
import Derived.Test.YtembgnhbpmfhpaaGreatY7
set_option linter.unusedSimpArgs false
set_option linter.unusedVariables false
set_option maxHeartbeats 8000000
set_option maxRecDepth 100000
namespace Go.Proofs.YtembgnhbpmfhpaaGreat
open Tryz
section
open Go Go.RowKit
def brO(prs:List PR)(F:Int)(g:Nat)(back:Bool)(t:T)(r:RS):Out :=
 zli F (fstT back t) r fun yes r=>(zlb (zkB prs F g back) (blkL back (if yes=true then kid t 1 else kid t 2)) r).bind (zkv F (lstT back t) yes)
theorem zs5{G:List PR->T->Prop}{g:Nat}(hS:IStC G g){C:RC}(hC:C.Ok){W:World}{r:RS}(h:RI C W r)(t:T)(v:Value)(back:Bool)(hv:NV C.w Any t v)(hk:t.ks.length=4)(hG1:∀u∈(kid t 1).ks,G C.p.prs u)(hG2:∀u∈(kid t 2).ks,G C.p.prs u)
  (aD:brO C.p.prs C.F g back t r ≠ .gas) :
  Calls prog 176 #[.pointer (some ⟨C.rb,0,none⟩),v,.bool back] W (RunP C W (brO C.p.prs C.F g back t r)):=by
 obtain⟨A,c,rfl,-,hlk,hlc,hrow⟩:=hv.open_;have af:=zh hrow;have HS:=zh hS;have HV:=zh hv;have hb0:=zka (zs W) (.cells #[.int .u8 t.k,.int .i64 t.n,.string t.s,.slice A t.ks.length c] 41);obtain⟨x0,x1,x2,x3⟩:=box4 (heap_alloc_new W (.cells #[.int .u8 t.k,.int .i64 t.n,.string t.s,.slice A t.ks.length c] 41));have HB0:=zh hb0;have H:=zh h;have HC:=zh hC;have HX:=zh (heap_alloc_new W (.cells #[.int .u8 t.k,.int .i64 t.n,.string t.s,.slice A t.ks.length c] 41));have nK:=zh (fun w' (hb:Below W.heap.size W w')=>zpW t _ back C.w w' (zkb h.below hb) hv (by omega));have qz:=zh hk;clear hrow hS hb0 h hv hk hC hlk;go_enter func176,ntmps176;go_wp2_with fail;refine(nK.out _ HB0.out).mono ?_;rintro e w2 ⟨v1,v2,rfl,n1,n2,b2⟩;obtain⟨t1,ht1⟩:=zX (fstT back t);obtain⟨t2,ht2⟩:=zX (lstT back t);have HT1:=zh ht1;have HT2:=zh ht2;rw[ht1]at n1;rw[ht2]at n2;obtain⟨A1,c1,rfl,-⟩:=n1.open_
 obtain⟨A2,c2,rfl,-⟩:=n2.open_;have nz:=zh n1;have aI:=zh n2;have b3:=zka (zka (zkb HB0.out b2) (.cells #[.int .u8 t1.k,.int .i64 t1.n,.string t1.s,.slice A1 t1.ks.length c1] 41)) (.cells #[.int .u8 t2.k,.int .i64 t2.n,.string t2.s,.slice A2 t2.ks.length c2] 41);have k0:=zkf (zkf (zkc HX.out b2) (.cells #[.int .u8 t1.k,.int .i64 t1.n,.string t1.s,.slice A1 t1.ks.length c1] 41)) (.cells #[.int .u8 t2.k,.int .i64 t2.n,.string t2.s,.slice A2 t2.ks.length c2] 41);have k1:=zkf (heap_alloc_new w2 (.cells #[.int .u8 t1.k,.int .i64 t1.n,.string t1.s,.slice A1 t1.ks.length c1] 41)) (.cells #[.int .u8 t2.k,.int .i64 t2.n,.string t2.s,.slice A2 t2.ks.length c2] 41);have k2:=heap_alloc_new (w2.alloc (.cells #[.int .u8 t1.k,.int .i64 t1.n,.string t1.s,.slice A1 t1.ks.length c1] 41)) (.cells #[.int .u8 t2.k,.int .i64 t2.n,.string t2.s,.slice A2 t2.ks.length c2] 41)
 simp only[World.size_alloc]at k2;obtain⟨w3,hw3⟩:=zX ((w2.alloc (.cells #[.int .u8 t1.k,.int .i64 t1.n,.string t1.s,.slice A1 t1.ks.length c1] 41)).alloc (.cells #[.int .u8 t2.k,.int .i64 t2.n,.string t2.s,.slice A2 t2.ks.length c2] 41));rw[hw3]at b3 k0 k1 k2;have hz2:=zkb HB0.out b2;have hzz:=hz2.size;obtain⟨eT,h3⟩:=H.out.plus HC.out b3;have bU:=zh (Kpt.of_below (n0:=C.n0) (kb:=C.kb) b3);have l0:=zkp k0;have l1:=zkp k1;have l2:=zkp k2;obtain⟨hi,hhi⟩:=zX (w3.heap.size);rw[hhi]at eT h3 l0 l1 l2;have iX:=zh eT;have H3:=zh h3;have K0:=zh k0;have K1:=zh k1;have K2:=zh k2;have iK:=zh (zos eT h3 t1 _ n1)
 obtain⟨p1,⟨y0,y1,y2,y3⟩⟩:True/\(w3.cell? ⟨w2.heap.size,0,none⟩=some (.int .u8 t1.k)/\w3.cell? ⟨w2.heap.size,1,none⟩=some (.int .i64 t1.n)/\w3.cell? ⟨w2.heap.size,2,none⟩=some (.string t1.s)/\w3.cell? ⟨w2.heap.size,3,none⟩=some (.slice A1 t1.ks.length c1)):=⟨trivial,zc k1 rfl,zc k1 rfl,zc k1 rfl,zc k1 rfl⟩
 clear n1 n2 b2 b3 k0 k1 k2 hz2 eT h3 x0 x1 x2 x3 HX HB0 nK p1 ht1 ht2;go_upto_region 2 with fail;clear hw3;go_wp2_with fail;refine iK.out.mono ?_;rintro e w4 ⟨hk4,hb4,eQ⟩;have dI:=zh (bU.out.trans (Kpt.less (C:=C) hk4));have aG:=zh (show Below C.w.heap.size C.w w4 from hb4);clear y0 y1 y2 y3 iK;rcases eQ with⟨x,rfl,hx⟩|⟨b,r1,rfl,hr1,hx⟩
 ·refine⟨rfl,dI.out,aG.out,?_⟩;rw[show brO C.p.prs C.F g back t r=.err x by unfold brO;rw[HT1.out];exact hx _]
 ·have k0:=hk4.blk (.inr (.inr ⟨by omega,l0⟩)) K0.out;have k2:=hk4.blk (.inr (.inr ⟨by omega,l2⟩)) K2.out;have HR4:=zh hr1;have kV:=zh (show brO C.p.prs C.F g back t r=(runO C.p.prs C.F g back (if b=true then kid t 1 else kid t 2) r1).bind (zkv C.F t2 b) by unfold brO;rw[HT1.out,HT2.out];exact hx _);have K4:=zh k0;have K5:=zh k2;have z3:w4.cell? ⟨W.heap.size,3,none⟩=some (.slice A t.ks.length c):=zc k0 rfl;have dn:=zh aD;clear hk4 hb4 hr1 hx k0 k2 aD
  cases b
  ·skip
   have hI:2<t.ks.length:=by have:=qz.out;omega
   have hI1:(2:Int)<(t.ks.length:Int):=by omega
   obtain⟨a,u,Au,cu,rfl,-,hu,⟨p0,p1,p2,p3⟩,hnu⟩:=af.out.nd hI;have gp:kid t 2=u:=by unfold kid;rw[List.getD_eq_getElem?_getD,List.getElem?_eq_getElem hI];exact hu.out
   have uL:=zh (show ∀x∈u.ks,G C.p.prs x by rw[<-gp];exact hG2);have gL:=zh (show brO C.p.prs C.F g back t r=(runO C.p.prs C.F g back u r1).bind (zkv C.F t2 false) by rw[kV.out];simp only[Bool.false_eq_true,if_false,if_true,gp]);have hgu:runO C.p.prs C.F g back u r1 ≠ .gas:=fun e=>dn.out (by rw[gL.out,e];rfl);have aC:=zh (zlh HS.out iX.out HR4.out u _ back hnu uL.out hgu);have ha:a.add (2*4)=⟨a.block,a.off+8,none⟩:=by unfold Addr.add;split<;>simp_all
   rw[ha]at p0 p1 p2 p3;have q0:w4.cell? ⟨a.block,a.off+8,none⟩=some (.int .u8 u.k):=zb aG.out p0;have q1:w4.cell? ⟨a.block,a.off+8+1,none⟩=some (.int .i64 u.n):=zb aG.out p1;have q2:w4.cell? ⟨a.block,a.off+8+2,none⟩=some (.string u.s):=zb aG.out p2;have q3:w4.cell? ⟨a.block,a.off+8+3,none⟩=some (.slice Au u.ks.length cu):=zb aG.out p3;clear gp hnu hu p0 p1 p2 p3 hgu;go_wp2_with fail;refine aC.out.mono ?_;rintro e w5 ⟨hk5,hb5,lu⟩;have iI:=zh (dI.out.trans (Kpt.less (C:=C) hk5));have aQ:=zh (show Below C.w.heap.size C.w w5 from hb5);have cB:match runO C.p.prs C.F g back u r1 with
    | .gas=>True
    | .err x=>e=zlE x
    | .ok r=>(∃u,e=.returned u)/\RI (C.plus W.heap.size hi) w5 r:=lu
   have k5:=hk5.blk (.inr (.inr ⟨by omega,l2⟩)) K5.out;have K6:=zh k5;clear q0 q1 q2 q3 z3 hk5 hb5 lu k5
   cases hx:runO C.p.prs C.F g back u r1 with
   | gas=>exact absurd (by rw[gL.out,hx];rfl) dn.out
   | err x =>
    rw[hx]at cB;subst cB;refine⟨rfl,iI.out,aQ.out,?_⟩;rw[gL.out,hx];rfl
   | ok r2 =>
    rw[hx]at cB;obtain⟨⟨u2,rfl⟩,hr2⟩:=cB;have HAS:=zh (zmQ iX.out hr2 t2 _ aI.out false);have jN:=zh (show brO C.p.prs C.F g back t r=zkv C.F t2 false r2 by rw[gL.out,hx];rfl);have q0:w5.cell? ⟨w2.heap.size+1,0,none⟩=some (.int .u8 t2.k):=zc K6.out rfl;have q1:w5.cell? ⟨w2.heap.size+1,1,none⟩=some (.int .i64 t2.n):=zc K6.out rfl;have q2:w5.cell? ⟨w2.heap.size+1,2,none⟩=some (.string t2.s):=zc K6.out rfl;have q3:w5.cell? ⟨w2.heap.size+1,3,none⟩=some (.slice A2 t2.ks.length c2):=zc K6.out rfl;clear hx hr2;go_wp2_with fail;refine HAS.out.mono ?_;rintro e w6 ⟨bT,hb6,ko⟩;have dO:=zh (iI.out.trans (Kpt.less (C:=C) bT));have aV:=zh (show Below C.w.heap.size C.w w6 from hb6);have cz:match zkv C.F t2 false r2 with
     | .gas=>True
     | .err x=>e=zlE x
     | .ok r=>(∃u,e=.returned u)/\RI (C.plus W.heap.size hi) w6 r:=ko
    clear q0 q1 q2 q3 bT hb6 ko
    cases hy:zkv C.F t2 false r2 with
    | gas=>exact absurd (by rw[jN.out,hy]) dn.out
    | err x =>
     rw[hy]at cz;subst cz;refine⟨rfl,dO.out,aV.out,?_⟩;rw[jN.out,hy]
    | ok r3 =>
     rw[hy]at cz;obtain⟨⟨u3,rfl⟩,hr3⟩:=cz;have gG:=zh hr3.less;have uQ:=zh (show brO C.p.prs C.F g back t r=.ok r3 by rw[jN.out,hy]);clear hr3 hy;go_wp2_with fail;go_end0;refine⟨dO.out,aV.out,?_⟩;rw[uQ.out];exact⟨⟨_,rfl⟩,gG.out⟩
  ·skip
   have hI:1<t.ks.length:=by have:=qz.out;omega
   have hI1:(1:Int)<(t.ks.length:Int):=by omega
   obtain⟨a,u,Au,cu,rfl,-,hu,⟨p0,p1,p2,p3⟩,hnu⟩:=af.out.nd hI;have gp:kid t 1=u:=by unfold kid;rw[List.getD_eq_getElem?_getD,List.getElem?_eq_getElem hI];exact hu.out
   have uL:=zh (show ∀x∈u.ks,G C.p.prs x by rw[<-gp];exact hG1);have gL:=zh (show brO C.p.prs C.F g back t r=(runO C.p.prs C.F g back u r1).bind (zkv C.F t2 true) by rw[kV.out];simp only[Bool.false_eq_true,if_false,if_true,gp]);have hgu:runO C.p.prs C.F g back u r1 ≠ .gas:=fun e=>dn.out (by rw[gL.out,e];rfl);have aC:=zh (zlh HS.out iX.out HR4.out u _ back hnu uL.out hgu);have ha:a.add (1*4)=⟨a.block,a.off+4,none⟩:=by unfold Addr.add;split<;>simp_all
   rw[ha]at p0 p1 p2 p3;have q0:w4.cell? ⟨a.block,a.off+4,none⟩=some (.int .u8 u.k):=zb aG.out p0;have q1:w4.cell? ⟨a.block,a.off+4+1,none⟩=some (.int .i64 u.n):=zb aG.out p1;have q2:w4.cell? ⟨a.block,a.off+4+2,none⟩=some (.string u.s):=zb aG.out p2;have q3:w4.cell? ⟨a.block,a.off+4+3,none⟩=some (.slice Au u.ks.length cu):=zb aG.out p3;clear gp hnu hu p0 p1 p2 p3 hgu;go_wp2_with fail;refine aC.out.mono ?_;rintro e w5 ⟨hk5,hb5,lu⟩;have iI:=zh (dI.out.trans (Kpt.less (C:=C) hk5));have aQ:=zh (show Below C.w.heap.size C.w w5 from hb5);have cB:match runO C.p.prs C.F g back u r1 with
    | .gas=>True
    | .err x=>e=zlE x
    | .ok r=>(∃u,e=.returned u)/\RI (C.plus W.heap.size hi) w5 r:=lu
   have k5:=hk5.blk (.inr (.inr ⟨by omega,l2⟩)) K5.out;have K6:=zh k5;clear q0 q1 q2 q3 z3 hk5 hb5 lu k5
   cases hx:runO C.p.prs C.F g back u r1 with
   | gas=>exact absurd (by rw[gL.out,hx];rfl) dn.out
   | err x =>
    rw[hx]at cB;subst cB;refine⟨rfl,iI.out,aQ.out,?_⟩;rw[gL.out,hx];rfl
   | ok r2 =>
    rw[hx]at cB;obtain⟨⟨u2,rfl⟩,hr2⟩:=cB;have HAS:=zh (zmQ iX.out hr2 t2 _ aI.out true);have jN:=zh (show brO C.p.prs C.F g back t r=zkv C.F t2 true r2 by rw[gL.out,hx];rfl);have q0:w5.cell? ⟨w2.heap.size+1,0,none⟩=some (.int .u8 t2.k):=zc K6.out rfl;have q1:w5.cell? ⟨w2.heap.size+1,1,none⟩=some (.int .i64 t2.n):=zc K6.out rfl;have q2:w5.cell? ⟨w2.heap.size+1,2,none⟩=some (.string t2.s):=zc K6.out rfl;have q3:w5.cell? ⟨w2.heap.size+1,3,none⟩=some (.slice A2 t2.ks.length c2):=zc K6.out rfl;clear hx hr2;go_wp2_with fail;refine HAS.out.mono ?_;rintro e w6 ⟨bT,hb6,ko⟩;have dO:=zh (iI.out.trans (Kpt.less (C:=C) bT));have aV:=zh (show Below C.w.heap.size C.w w6 from hb6);have cz:match zkv C.F t2 true r2 with
     | .gas=>True
     | .err x=>e=zlE x
     | .ok r=>(∃u,e=.returned u)/\RI (C.plus W.heap.size hi) w6 r:=ko
    clear q0 q1 q2 q3 bT hb6 ko
    cases hy:zkv C.F t2 true r2 with
    | gas=>exact absurd (by rw[jN.out,hy]) dn.out
    | err x =>
     rw[hy]at cz;subst cz;refine⟨rfl,dO.out,aV.out,?_⟩;rw[jN.out,hy]
    | ok r3 =>
     rw[hy]at cz;obtain⟨⟨u3,rfl⟩,hr3⟩:=cz;have gG:=zh hr3.less;have uQ:=zh (show brO C.p.prs C.F g back t r=.ok r3 by rw[jN.out,hy]);clear hr3 hy;go_wp2_with fail;go_end0;refine⟨dO.out,aV.out,?_⟩;rw[uQ.out];exact⟨⟨_,rfl⟩,gG.out⟩
def Up(n:Nat)(o:Out):Prop:=∀r,o=.ok r->n<=r.n
section
variable {m n:Nat} {o:Out} {F:Int} {t:T} {r:RS}
theorem Up.of(h:Good n o):Up n o:=h.2
theorem Up.mono(h:Up n o)(hm:m<=n):Up m o:=fun r e=>Nat.le_trans hm (h r e)
theorem Up.bind{f:RS->Out}(h:Up n o)(hf:∀r,n<=r.n->Up m (f r)):Up m (o.bind f):=by
 cases o with
 | gas=>intro r e;cases e
 | err x=>intro r e;cases e
 | ok r=>exact hf r (h r rfl)
theorem zqZ{f:Int->RS->Out}(hf:∀x,Up m (f x r)):Up m (valO t r f):=by
 unfold valO
 split
 ·intro r e;cases e
 ·exact hf _
theorem zot{f:Bool->RS->Out}(hf:∀b r',r.n+1<=r'.n->Up m (f b r')):Up m (zli F t r f):=by
 unfold zli;exact(Up.of (zku F r)).bind fun r' h=>zqZ fun x=>hf _ _ h
theorem zmO{f:T->RS->Out}(hf:∀t r,Up r.n (f t r)):∀(l:List T) (r:RS),Up r.n (zlb f l r)
 | [],r=>fun r' e=>by injection e with e;subst e;exact zl
 | t::ts,r=>by
  rw[zlb];exact(hf t r).bind fun r1 h1=>(zmO hf ts r1).mono h1
theorem zsb{f:T->RS->Out}(hf:∀t r,Up r.n (f t r)){entry test:T}{l1 l2:List T}:∀(m:Nat) (r:RS),Up r.n (zl7 F f entry test l1 l2 m r)
 | 0,_=>fun r' e=>by cases e
 | m+1,r=>by
  rw[zl7];refine(zmO hf l1 r).bind fun r1 h1=>zot fun b r2 h2=>?_
  split
  ·intro r' e;injection e with e;subst e;omega
  ·refine(zmO hf l2 r2).bind fun r3 h3=>(Up.of (zlj F entry false r3)).bind fun r4 h4=>?_;exact(zsb hf m r4).mono (by omega)
end
theorem zn1{prs:List PR}{F:Int}:∀(g:Nat) (back:Bool) (t:T) (r:RS),Up r.n (zkB prs F g back t r)
 | 0,_,_,_=>fun r' e=>by cases e
 | g+1,back,t,r=>by
  have hb:∀(back:Bool) l r1,Up r1.n (zlb (zkB prs F g back) l r1):=fun back l r1=>zmO (fun u r2=>zn1 g back u r2) l r1;rw[zkB]
  split
  ·exact zot fun b r1 h1=>(hb _ _ r1).bind fun r2 h2=>(Up.of (zlj _ _ _ _)).mono (by omega)
  ·split
   ·refine(Up.of (zlj _ _ _ _)).bind fun r1 h1=>?_;exact(zsb (fun u r2=>zn1 g back u r2) g r1).mono (by omega)
   ·split
    ·refine(Up.of (zku F r)).bind fun r1 h1=>zqZ fun x=>?_;refine(Up.of (zkD r1 _)).bind fun r2 h2=>(hb _ _ r2).bind fun r3 h3=>(Up.of (zku F r3)).bind fun r4 h4=>zqZ fun x=>?_;exact(Up.of (zkD r4 _)).mono (by omega)
    ·split
     ·refine(Up.of (zku F r)).bind fun r1 h1=>?_;refine(Up.of (zkD r1 _)).bind fun r2 h2=>(hb _ _ r2).bind fun r3 h3=>(Up.of (zku F r3)).bind fun r4 h4=>?_;exact(Up.of (zkD r4 _)).mono (by omega)
     ·split
      ·split
       ·intro r' e;cases e
       ·refine(Up.of (zku F r)).bind fun r1 h1=>?_;refine(Up.of (zkD r1 _)).bind fun r2 h2=>(hb _ _ _).bind fun r3 h3=>(Up.of (zku F r3)).bind fun r4 h4=>?_;exact(Up.of (zkD r4 _)).mono (by simp only at h3;omega)
      ·refine(Up.of (zku F r)).bind fun r1 h1=>?_;exact(Up.of (zkD r1 _)).mono (by omega)
def lpO(prs:List PR)(F:Int)(g:Nat)(back:Bool)(t:T)(r:RS):Out :=
 (zkv F (fstT back t) true r).bind (zl7 F (zkB prs F g back) (fstT back t) (lstT back t) (blkL back (kid t 1)) (blkL back (kid t 2)) g)
def stp(rb:Nat)(W:World):Nat:=match W.cell? ⟨rb,7,none⟩with
 | some (.int _ n)=>n.toNat
 | _=>0
theorem zxA{C:RC}{W:World}{r:RS}(h:RI C W r):stp C.rb W=r.n:=by
 unfold stp;rw[h.cells.2.1];simp
theorem zwp{G:List PR->T->Prop}{g:Nat}(hS:IStC G g){C:RC}(hC:C.Ok){W:World}{r:RS}(h:RI C W r)(t:T)(v:Value)(back:Bool)(hv:NV C.w Any t v)(hk:t.ks.length=4)(hG1:∀u∈(kid t 1).ks,G C.p.prs u)(hG2:∀u∈(kid t 2).ks,G C.p.prs u)
  (aD:lpO C.p.prs C.F g back t r ≠ .gas) :
  Calls prog 177 #[.pointer (some ⟨C.rb,0,none⟩),v,.bool back] W (RunP C W (lpO C.p.prs C.F g back t r)):=by
 obtain⟨A,c,rfl,-,hlk,hlc,hrow⟩:=hv.open_;have af:=zh hrow;have HS:=zh hS;have HV:=zh hv;have hb0:=zka (zs W) (.cells #[.int .u8 t.k,.int .i64 t.n,.string t.s,.slice A t.ks.length c] 41);obtain⟨x0,x1,x2,x3⟩:=box4 (heap_alloc_new W (.cells #[.int .u8 t.k,.int .i64 t.n,.string t.s,.slice A t.ks.length c] 41));have HB0:=zh hb0;have H:=zh h;have HC:=zh hC;have HX:=zh (heap_alloc_new W (.cells #[.int .u8 t.k,.int .i64 t.n,.string t.s,.slice A t.ks.length c] 41));have nK:=zh (fun w' (hb:Below W.heap.size W w')=>zpW t _ back C.w w' (zkb h.below hb) hv (by omega));have qz:=zh hk;clear hrow hS hb0 h hv hk hC hlk;go_enter func177,ntmps177;go_wp2_with fail;refine(nK.out _ HB0.out).mono ?_;rintro e w2 ⟨v1,v2,rfl,n1,n2,b2⟩;obtain⟨t1,ht1⟩:=zX (fstT back t);obtain⟨t2,ht2⟩:=zX (lstT back t);have HT1:=zh ht1;have HT2:=zh ht2;rw[ht1]at n1;rw[ht2]at n2;obtain⟨A1,c1,rfl,-⟩:=n1.open_
 obtain⟨A2,c2,rfl,-⟩:=n2.open_;have nz:=zh n1;have aI:=zh n2;have b3:=zka (zka (zkb HB0.out b2) (.cells #[.int .u8 t1.k,.int .i64 t1.n,.string t1.s,.slice A1 t1.ks.length c1] 41)) (.cells #[.int .u8 t2.k,.int .i64 t2.n,.string t2.s,.slice A2 t2.ks.length c2] 41);have k0:=zkf (zkf (zkc HX.out b2) (.cells #[.int .u8 t1.k,.int .i64 t1.n,.string t1.s,.slice A1 t1.ks.length c1] 41)) (.cells #[.int .u8 t2.k,.int .i64 t2.n,.string t2.s,.slice A2 t2.ks.length c2] 41);have k1:=zkf (heap_alloc_new w2 (.cells #[.int .u8 t1.k,.int .i64 t1.n,.string t1.s,.slice A1 t1.ks.length c1] 41)) (.cells #[.int .u8 t2.k,.int .i64 t2.n,.string t2.s,.slice A2 t2.ks.length c2] 41);have k2:=heap_alloc_new (w2.alloc (.cells #[.int .u8 t1.k,.int .i64 t1.n,.string t1.s,.slice A1 t1.ks.length c1] 41)) (.cells #[.int .u8 t2.k,.int .i64 t2.n,.string t2.s,.slice A2 t2.ks.length c2] 41)
 simp only[World.size_alloc]at k2;obtain⟨w3,hw3⟩:=zX ((w2.alloc (.cells #[.int .u8 t1.k,.int .i64 t1.n,.string t1.s,.slice A1 t1.ks.length c1] 41)).alloc (.cells #[.int .u8 t2.k,.int .i64 t2.n,.string t2.s,.slice A2 t2.ks.length c2] 41));rw[hw3]at b3 k0 k1 k2;have hz2:=zkb HB0.out b2;have hzz:=hz2.size;obtain⟨eT,h3⟩:=H.out.plus HC.out b3;have bU:=zh (Kpt.of_below (n0:=C.n0) (kb:=C.kb) b3);have l0:=zkp k0;have l1:=zkp k1;have l2:=zkp k2;obtain⟨hi,hhi⟩:=zX (w3.heap.size);rw[hhi]at eT h3 l0 l1 l2;have iX:=zh eT;have H3:=zh h3;have K0:=zh k0;have K1:=zh k1;have K2:=zh k2;have iK:=zh (zmQ eT h3 t1 _ n1 true)
 obtain⟨p1,⟨y0,y1,y2,y3⟩⟩:True/\(w3.cell? ⟨w2.heap.size,0,none⟩=some (.int .u8 t1.k)/\w3.cell? ⟨w2.heap.size,1,none⟩=some (.int .i64 t1.n)/\w3.cell? ⟨w2.heap.size,2,none⟩=some (.string t1.s)/\w3.cell? ⟨w2.heap.size,3,none⟩=some (.slice A1 t1.ks.length c1)):=⟨trivial,zc k1 rfl,zc k1 rfl,zc k1 rfl,zc k1 rfl⟩
 clear n1 n2 b2 b3 k0 k1 k2 hz2 eT h3 x0 x1 x2 x3 HX HB0 nK p1 ht1 ht2;go_upto_region 2 with fail;clear hw3;obtain⟨o,ho⟩:=zX (lpO C.p.prs C.F g back t r);have HO:=zh (show(zkv C.F t1 true r).bind (zl7 C.F (zkB C.p.prs C.F g back) t1 t2 (blkL back (kid t 1)) (blkL back (kid t 2)) g)=o by rw[<-ho];unfold lpO;rw[HT1.out,HT2.out]);rw[ho]at aD ⊢;have dn:=zh aD;have bP:=zh ho;clear aD ho;go_wp2_with fail;refine iK.out.mono ?_;rintro e w4 ⟨hk4,hb4,eQ⟩;have dI:=zh (bU.out.trans (Kpt.less (C:=C) hk4));have aG:=zh (show Below C.w.heap.size C.w w4 from hb4);have bE:match zkv C.F t1 true r with
  | .gas=>True
  | .err x=>e=zlE x
  | .ok r=>(∃u,e=.returned u)/\RI (C.plus W.heap.size hi) w4 r:=eQ
 have dP:=zh hk4;clear y0 y1 y2 y3 iK hk4 hb4 eQ
 cases hy:zkv C.F t1 true r with
 | gas=>exact absurd (by rw[<-HO.out,hy];rfl) dn.out
 | err x =>
  rw[hy]at bE;subst bE;refine⟨rfl,dI.out,aG.out,?_⟩;rw[<-HO.out,hy];rfl
 | ok r1 =>
  rw[hy]at bE;obtain⟨⟨u3,rfl⟩,hr1⟩:=bE;have HR4:=zh hr1;have iV:=zh (show zl7 C.F (zkB C.p.prs C.F g back) t1 t2 (blkL back (kid t 1)) (blkL back (kid t 2)) g r1=o by rw[<-HO.out,hy];rfl);clear hr1 hy;have hI1:(1:Int)<(t.ks.length:Int):=by have:=qz.out;omega
  have hI2:(2:Int)<(t.ks.length:Int):=by have:=qz.out;omega
  have hi1:1<t.ks.length:=by omega
  have hi2:2<t.ks.length:=by omega
  obtain⟨a,u,Au,cu,rfl,-,hu,⟨p0,p1,p2,p3⟩,hnu⟩:=af.out.nd hi1;obtain⟨a',u',Au',cu',e',-,hu',⟨p4,p5,p6,p7⟩,hnu'⟩:=af.out.nd hi2;injection e' with e';subst e';have gp:kid t 1=u:=by unfold kid;rw[List.getD_eq_getElem?_getD,List.getElem?_eq_getElem hi1];exact hu.out
  have sO:kid t 2=u':=by unfold kid;rw[List.getD_eq_getElem?_getD,List.getElem?_eq_getElem hi2];exact hu'.out
  rw[gp]at hG1;rw[sO]at hG2;rw[gp,sO]at iV;have yN:=zh hG1;have HG2:=zh hG2;have xm:=zh hnu;have HNU':=zh hnu';have ha:a.add (1*4)=⟨a.block,a.off+4,none⟩:=by unfold Addr.add;split<;>simp_all
  have ha':a.add (2*4)=⟨a.block,a.off+8,none⟩:=by unfold Addr.add;split<;>simp_all
  rw[ha]at p0 p1 p2 p3;rw[ha']at p4 p5 p6 p7;have HPP:=zh (show ∀w',Below C.w.heap.size C.w w'->(w'.cell? ⟨a.block,a.off+4,none⟩=some (.int .u8 u.k)/\w'.cell? ⟨a.block,a.off+4+1,none⟩=some (.int .i64 u.n)/\w'.cell? ⟨a.block,a.off+4+2,none⟩=some (.string u.s)/\w'.cell? ⟨a.block,a.off+4+3,none⟩=some (.slice Au u.ks.length cu))/\(w'.cell? ⟨a.block,a.off+8,none⟩=some (.int .u8 u'.k)/\w'.cell? ⟨a.block,a.off+8+1,none⟩=some (.int .i64 u'.n)/\w'.cell? ⟨a.block,a.off+8+2,none⟩=some (.string u'.s)/\w'.cell? ⟨a.block,a.off+8+3,none⟩=some (.slice Au' u'.ks.length cu'))from fun w' hb=>⟨⟨zb hb p0,zb hb p1,zb hb p2,zb hb p3⟩,⟨zb hb p4,zb hb p5,zb hb p6,zb hb p7⟩⟩);clear gp sO hnu hnu' hu hu' p0 p1 p2 p3 p4 p5 p6 p7 ha ha' hG1 hG2;have hz0:W.heap.size<hi:=l0;go_wp2_with fail
  go_loopw [] (fun wr=>∃(m:Nat) (r1:RS),Hid (RI (C.plus W.heap.size hi) wr r1)/\Hid (Kpt C.n0 (C.plus W.heap.size hi).kb w3 wr)/\Hid (zl7 C.F (zkB C.p.prs C.F g back) t1 t2 (blkL back u) (blkL back u') m r1=o)) (fun wr=>C.F.toNat-stp C.rb wr)
  case atStart=>exact⟨g,r1,HR4,dP,iV⟩
  case round =>
   obtain⟨m,r3,HR,HK,HL⟩:=hrel;have j0:=HK.out.blk (.inr (.inr ⟨by omega,l0⟩)) K0.out;have j1:=HK.out.blk (.inr (.inr ⟨by omega,l1⟩)) K1.out;have j2:=HK.out.blk (.inr (.inr ⟨by omega,l2⟩)) K2.out;have z3:wr.cell? ⟨W.heap.size,3,none⟩=some (.slice (some a) t.ks.length c):=zc j0 rfl
   cases m with
   | zero=>exact absurd HL.out.symm dn.out
   | succ m =>
    have HL2:=zh (show(runO C.p.prs C.F g back u r3).bind (fun r=>zli C.F t2 r fun b r=>if b=true then .ok r else(runO C.p.prs C.F g back u' r).bind fun r=>(zkv C.F t1 false r).bind (zl7 C.F (zkB C.p.prs C.F g back) t1 t2 (blkL back u) (blkL back u') m))=o from HL.out);have hgu:runO C.p.prs C.F g back u r3 ≠ .gas:=fun e=>dn.out (by rw[<-HL2.out,e];rfl);have aC:=zh (zlh HS.out iX.out HR.out u _ back xm.out yN.out hgu);obtain⟨⟨q0,q1,q2,q3⟩,-⟩:=HPP.out wr HR.out.below;clear hgu j0 j1 j2;go_wp2_with fail;refine aC.out.mono ?_;rintro e w5 ⟨hk5,hb5,lu⟩;have iI:=zh (HK.out.trans hk5);have aQ:=zh (show Below C.w.heap.size C.w w5 from hb5);have cB:match runO C.p.prs C.F g back u r3 with
     | .gas=>True
     | .err x=>e=zlE x
     | .ok r=>(∃u,e=.returned u)/\RI (C.plus W.heap.size hi) w5 r:=lu
    clear q0 q1 q2 q3 z3 hk5 hb5 lu aC
    cases hx:runO C.p.prs C.F g back u r3 with
    | gas=>exact absurd (by rw[<-HL2.out,hx];rfl) dn.out
    | err x =>
     rw[hx]at cB;subst cB;refine⟨rfl,bU.out.trans (Kpt.less (C:=C) iI.out),aQ.out,?_⟩
     try rw[bP.out]
     rw[<-HL2.out,hx];rfl
    | ok r4 =>
     rw[hx]at cB;obtain⟨⟨u2,rfl⟩,hr4⟩:=cB;have vB:=zh (zmO (fun t r=>zn1 g back t r) (blkL back u) r3 r4 hx);have HL3:=zh (show(zli C.F t2 r4 fun b r=>if b=true then .ok r else(runO C.p.prs C.F g back u' r).bind fun r=>(zkv C.F t1 false r).bind (zl7 C.F (zkB C.p.prs C.F g back) t1 t2 (blkL back u) (blkL back u') m))=o by rw[<-HL2.out,hx];rfl);have HHO2:=zh (zos iX.out hr4 t2 _ aI.out);have j2:=iI.out.blk (.inr (.inr ⟨by omega,l2⟩)) K2.out;have q0:w5.cell? ⟨w2.heap.size+1,0,none⟩=some (.int .u8 t2.k):=zc j2 rfl;have q1:w5.cell? ⟨w2.heap.size+1,1,none⟩=some (.int .i64 t2.n):=zc j2 rfl;have q2:w5.cell? ⟨w2.heap.size+1,2,none⟩=some (.string t2.s):=zc j2 rfl;have q3:w5.cell? ⟨w2.heap.size+1,3,none⟩=some (.slice A2 t2.ks.length c2):=zc j2 rfl;clear hx hr4 j2;go_wp2_with fail;refine HHO2.out.mono ?_;rintro e w6 ⟨bT,hb6,ko⟩;have dO:=zh (iI.out.trans bT)
     have aV:=zh (show Below C.w.heap.size C.w w6 from hb6);clear q0 q1 q2 q3 bT hb6 HHO2;rcases ko with⟨x,rfl,hx⟩|⟨b,r5,rfl,jZ,hx⟩
     ·refine⟨rfl,bU.out.trans (Kpt.less (C:=C) dO.out),aV.out,?_⟩
      try rw[bP.out]
      rw[<-HL3.out,show ∀f,zli C.F t2 r4 f=.err x from hx]
     ·have gG:=zh jZ;have HL4:=zh (show(if b=true then .ok r5 else(runO C.p.prs C.F g back u' r5).bind fun r=>(zkv C.F t1 false r).bind (zl7 C.F (zkB C.p.prs C.F g back) t1 t2 (blkL back u) (blkL back u') m))=o by rw[<-HL3.out,show ∀f,zli C.F t2 r4 f=f b r5 from hx]);have HUP2:=zh (zot (t:=t2) (F:=C.F) (r:=r4) (m:=r4.n+1) (f:=fun _ r=>.ok r) (fun b r' h r'' e=>by injection e with e;subst e;exact h) r5 (hx _));clear hx jZ
      cases b
      ·have kU:=zh (show(runO C.p.prs C.F g back u' r5).bind (fun r=>(zkv C.F t1 false r).bind (zl7 C.F (zkB C.p.prs C.F g back) t1 t2 (blkL back u) (blkL back u') m))=o from HL4.out);have hgu:runO C.p.prs C.F g back u' r5 ≠ .gas:=fun e=>dn.out (by rw[<-kU.out,e];rfl);have aC:=zh (zlh HS.out iX.out gG.out u' _ back HNU'.out HG2.out hgu);have j0:=dO.out.blk (.inr (.inr ⟨by omega,l0⟩)) K0.out;have z3:w6.cell? ⟨W.heap.size,3,none⟩=some (.slice (some a) t.ks.length c):=zc j0 rfl;obtain⟨-,q0,q1,q2,q3⟩:=HPP.out w6 aV.out;clear hgu j0;go_wp2_with fail;refine aC.out.mono ?_;rintro e w7 ⟨wF,qU,ho7⟩;have xx:=zh (dO.out.trans wF);have Ch:=zh (show Below C.w.heap.size C.w w7 from qU);have oZ:match runO C.p.prs C.F g back u' r5 with
        | .gas=>True
        | .err x=>e=zlE x
        | .ok r=>(∃u,e=.returned u)/\RI (C.plus W.heap.size hi) w7 r:=ho7
       clear q0 q1 q2 q3 z3 wF qU ho7 aC
       cases hx:runO C.p.prs C.F g back u' r5 with
       | gas=>exact absurd (by rw[<-kU.out,hx];rfl) dn.out
       | err x =>
        rw[hx]at oZ;subst oZ;refine⟨rfl,bU.out.trans (Kpt.less (C:=C) xx.out),Ch.out,?_⟩
        try rw[bP.out]
        rw[<-kU.out,hx];rfl
       | ok r6 =>
        rw[hx]at oZ;obtain⟨⟨u2,rfl⟩,dL⟩:=oZ;have HUP3:=zh (zmO (fun t r=>zn1 g back t r) (blkL back u') r5 r6 hx);have BJ:=zh (show(zkv C.F t1 false r6).bind (zl7 C.F (zkB C.p.prs C.F g back) t1 t2 (blkL back u) (blkL back u') m)=o by rw[<-kU.out,hx];rfl);have HAS:=zh (zmQ iX.out dL t1 _ nz.out false);have j1:=xx.out.blk (.inr (.inr ⟨by omega,l1⟩)) K1.out;have q0:w7.cell? ⟨w2.heap.size,0,none⟩=some (.int .u8 t1.k):=zc j1 rfl;have q1:w7.cell? ⟨w2.heap.size,1,none⟩=some (.int .i64 t1.n):=zc j1 rfl;have q2:w7.cell? ⟨w2.heap.size,2,none⟩=some (.string t1.s):=zc j1 rfl;have q3:w7.cell? ⟨w2.heap.size,3,none⟩=some (.slice A1 t1.ks.length c1):=zc j1 rfl;clear hx dL j1;go_wp2_with fail;refine HAS.out.mono ?_;rintro e w8 ⟨jR,dz,qN⟩;have qA:=zh (xx.out.trans jR);have eH:=zh (show Below C.w.heap.size C.w w8 from dz)
        have bZ:match zkv C.F t1 false r6 with
         | .gas=>True
         | .err x=>e=zlE x
         | .ok r=>(∃u,e=.returned u)/\RI (C.plus W.heap.size hi) w8 r:=qN
        clear q0 q1 q2 q3 jR dz qN HAS
        cases hy:zkv C.F t1 false r6 with
        | gas=>exact absurd (by rw[<-BJ.out,hy];rfl) dn.out
        | err x =>
         rw[hy]at bZ;subst bZ;refine⟨rfl,bU.out.trans (Kpt.less (C:=C) qA.out),eH.out,?_⟩
         try rw[bP.out]
         rw[<-BJ.out,hy];rfl
        | ok r7 =>
         rw[hy]at bZ;obtain⟨⟨u3,rfl⟩,nU⟩:=bZ;have ou:=zh nU;have HL7:=zh (show zl7 C.F (zkB C.p.prs C.F g back) t1 t2 (blkL back u) (blkL back u') m r7=o by rw[<-BJ.out,hy];rfl);have hmm:C.F.toNat-stp C.rb w8<C.F.toNat-stp C.rb wr:=by
          have e1:stp C.rb w8=r7.n:=zxA (C:=C.plus W.heap.size hi) ou.out;have e2:stp C.rb wr=r3.n:=zxA (C:=C.plus W.heap.size hi) HR.out;obtain⟨e3,e4⟩:=znI hy;have e5:=vB.out;have e6:=HUP2.out;have e7:=HUP3.out;have e8:r7.n=r6.n+1:=by rw[e3]
          omega
         have iG:=zh hmm;clear nU hy hmm;go_wp2_with fail
         go_roundw
         case rel=>exact⟨m,r7,ou,qA,HL7⟩
         case measure=>exact iG.out
      ·have kU:=zh (show o=.ok r5 from HL4.out.symm);have gU:=zh gG.out.less;go_wp2_with fail;go_end0;refine⟨bU.out.trans (Kpt.less (C:=C) dO.out),aV.out,?_⟩
       try rw[bP.out]
       rw[kU.out];exact⟨⟨_,rfl⟩,gU.out⟩
section
variable {C:RC} {W W':World} {r:RS} {S':ST}
theorem RI.store(h:RI C W r)(hk:KS C.w C.n0 C.sb (fun b=>C.kb b\/b=C.rb\/C.ev.ownBlock=some b) W' S')(hp:Kpt C.n0 (fun b=>C.kb b\/b=C.rb\/C.ev.ownBlock=some b) W W')(hf:FB r.n S') :
  RI C W' { r with S:=S' }/\Kpt C.n0 C.kb W W' :=
 ⟨⟨hk,hp.blk (.inr (.inr (.inl rfl))) h.box,zme h.ent fun b hb=>hp.kept b (h.ent.lt b hb).2 (.inr (.inr (.inr hb))),h.el,h.en,h.n,hf⟩,⟨hp.size,fun b hb hk=>hp.kept b hb (hk.imp id .inl)⟩⟩
end
theorem FB.fr{j:Nat}{S S':ST}(h:FB j S)(hf:FrK S S'):FB (j+1) S':=by
 obtain⟨h1,h2,_⟩:=hf;unfold FB;rw[h1,h2];exact h.mono (Nat.le_succ _)
theorem FB.cur{j:Nat}{S:ST}(h:FB j S):S.cur.vs.length<=1000+j:=by
 rcases Nat.eq_zero_or_pos S.calls.length with h0|h0
 ·rw[zni h0];have:=h.1;omega
 ·rw[znh h0];exact h.2 _ (List.getElem_mem _)
theorem FB.setCur{j:Nat}{S:ST}(h:FB j S)(f:FR)(hf:f.vs.length<=S.cur.vs.length+1):FB (j+1) (S.setCur f):=by
 unfold ST.setCur;by_cases h0:S.calls.length=0
 ·rw[if_pos h0];rw[zni h0]at hf;exact⟨by have:=h.1;show f.vs.length<=_;omega,(h.mono (Nat.le_succ _)).2⟩
 ·rw[if_neg h0];refine⟨(h.mono (Nat.le_succ _)).1,fun g hg=>?_⟩;rw[znh (by omega)]at hf;rcases List.mem_or_eq_of_mem_set hg with hg|rfl
  ·exact(h.mono (Nat.le_succ _)).2 g hg
  ·have:=h.2 _ (List.getElem_mem (l:=S.calls) (n:=S.calls.length-1) (by omega));omega
theorem FB.open_{j:Nat}{S:ST}(h:FB j S)(v:VD)(x:Int):FB (j+1) (zlV S v x).2:=by
 unfold zlV
 repeat' split
 all_goals first|exact h.mono (Nat.le_succ _)|exact FB.setCur (S:=S.newCell _) h _ (by rw[zmX];simp[FR.push])
theorem FB.close_{j:Nat}{S:ST}(h:FB j S)(s:ByteArray)(x:Int):FB (j+1) (zk8 S s x).2:=by
 unfold zk8
 repeat' split
 all_goals first|exact h.mono (Nat.le_succ _)|skip
 all_goals exact h.setCur _ (by simp[FR.pop];omega)
theorem FB.enter{j:Nat}{S:ST}(h:FB j S)(ps:List VD)(ss:List ByteArray)(hp:ps.length<=1000):FB (j+1) (zlQ S ps ss).2:=by
 unfold zlQ
 split
 ·exact h.mono (Nat.le_succ _)
 ·rcases he:entL S.cur ⟨[],[],0⟩ (ps.zip ss)with e|f
  ·exact h.mono (Nat.le_succ _)
  ·unfold entR;dsimp only
   split
   ·exact h.mono (Nat.le_succ _)
   ·refine⟨(h.mono (Nat.le_succ _)).1,fun g hg=>?_⟩;rcases List.mem_append.1 hg with hg|hg
    ·exact(h.mono (Nat.le_succ _)).2 g hg
    ·simp at hg;subst hg;have:=zst _ _ _ he;simp at this;omega
theorem FB.leave{j:Nat}{S:ST}(h:FB j S):FB (j+1) (zl1 S).2:=by
 unfold zl1
 split
 ·exact h.mono (Nat.le_succ _)
 ·exact⟨(h.mono (Nat.le_succ _)).1,fun g hg=>(h.mono (Nat.le_succ _)).2 g (List.mem_of_mem_take hg)⟩
theorem FB.do_{j:Nat}{S:ST}(h:FB j S)(t:T):FB (j+1) (doE S t).2:=h.fr (zxR _ _)
theorem FB.undo{j:Nat}{S:ST}(h:FB j S)(t:T):FB (j+1) (zod S t).2:=h.fr (zvU _ _)
theorem zk4{P:Program}{ops:Array Oper}{o:Oper}{a:Act}{w:World}{K:Act->World->Prop}{Q:Exit->Act->World->Prop}{F:Prop}(hw:Region.wanted o (yielded ops a.tmps)=true)(x:Operand)(xs:List Operand)(ats:Array TypeId)
  (ho:o.op=.call { callee:=.value x,args:=xs.toArray,argTypes:=ats })(f:FuncId)(fn:Func)(hf:IsFn P f fn)(hv:a.eval x=.func (.func f) #[] #[])(l:List Value)(hargs:xs.map a.eval=l)(R:Value->World->Prop)
  (hc:Calls P f l.toArray w fun e w'=>(∃v,e=.returned v/\R v w')\/∃ch,e=.panicked ch/\Q (.panic ch) a w')(h:∀v w',R v w'->K (a.put o.dst v) w') :
  if Region.wanted o (yielded ops a.tmps)=true then Oper.wp P o a w K Q else F:=by
 rw[if_pos hw];subst hargs;have e:(execOp a.eval o).run P w=.ok (.enter f (xs.map a.eval).toArray) w:=by
  unfold execOp;simp only[ho,resolve,hv,Deferred.ofValue,Sem.run_bind,Sem.run_pure,Result.andThen_ok,invoke,zkN hf,Array.empty_append,List.map_toArray,Array.append_empty]
 unfold Oper.wp;rw[e,Oper.upon_enter];refine hc.mono ?_;rintro e w' (⟨v,rfl,hR⟩|⟨ch,rfl,hq⟩)
 ·exact h v w' hR
 ·exact hq
theorem zuu:IsFn prog 200 f200:=⟨func200,by kernel_rfl,by kernel_rfl⟩
theorem zmi:IsFn prog 180 f180:=⟨func180,by kernel_rfl,by kernel_rfl⟩
theorem zuz:IsFn prog 181 f181:=⟨func181,by kernel_rfl,by kernel_rfl⟩
theorem zso:IsFn prog 182 f182:=⟨func182,by kernel_rfl,by kernel_rfl⟩
def loR(prs:List PR)(F:Int)(g:Nat)(back:Bool)(t t2:T)(r:RS):Out :=
 (zlb (zkB prs F g back) (blkL back (kid t 1)) r).bind fun r=>(zkE F r).bind fun r=>valO t2 r fun x r=>zkl r (zk8 r.S t.s x)
def loO(prs:List PR)(F:Int)(g:Nat)(back:Bool)(t:T)(r:RS):Out :=
 (zkE F r).bind fun r=>valO (fstT back t) r fun x r=>(zkl r (zlV r.S ⟨t.s,1,0⟩ x)).bind (loR prs F g back t (lstT back t))
theorem zud{G:List PR->T->Prop}{g:Nat}(hS:IStC G g){C:RC}(hC:C.Ok){W:World}{r:RS}(h:RI C W r)(t:T)(v:Value)(back:Bool)(hv:NV C.w Any t v)(hk:t.ks.length=3)(hG1:∀u∈(kid t 1).ks,G C.p.prs u)
  (aD:loO C.p.prs C.F g back t r ≠ .gas) :
  Calls prog 178 #[.pointer (some ⟨C.rb,0,none⟩),v,.bool back] W (RunP C W (loO C.p.prs C.F g back t r)):=by
 obtain⟨A,c,rfl,-,hlk,hlc,hrow⟩:=hv.open_;have af:=zh hrow;have HS:=zh hS;have HV:=zh hv;have hb0:=zka (zs W) (.cells #[.int .u8 t.k,.int .i64 t.n,.string t.s,.slice A t.ks.length c] 41);obtain⟨x0,x1,x2,x3⟩:=box4 (heap_alloc_new W (.cells #[.int .u8 t.k,.int .i64 t.n,.string t.s,.slice A t.ks.length c] 41));have HB0:=zh hb0;have H:=zh h;have HC:=zh hC;have HX:=zh (heap_alloc_new W (.cells #[.int .u8 t.k,.int .i64 t.n,.string t.s,.slice A t.ks.length c] 41));have nK:=zh (fun w' (hb:Below W.heap.size W w')=>zpW t _ back C.w w' (zkb h.below hb) hv (by omega));have qz:=zh hk;clear hrow hS hb0 h hv hk hC hlk;go_enter func178,ntmps178;go_wp2_with fail;refine(nK.out _ HB0.out).mono ?_;rintro e w2 ⟨v1,v2,rfl,n1,n2,b2⟩;obtain⟨t1,ht1⟩:=zX (fstT back t);obtain⟨t2,ht2⟩:=zX (lstT back t);have HT1:=zh ht1;have HT2:=zh ht2;rw[ht1]at n1;rw[ht2]at n2;obtain⟨A1,c1,rfl,-⟩:=n1.open_
 obtain⟨A2,c2,rfl,-⟩:=n2.open_;have nz:=zh n1;have aI:=zh n2;have b3:=zka (zka (zkb HB0.out b2) (.cells #[.int .u8 t1.k,.int .i64 t1.n,.string t1.s,.slice A1 t1.ks.length c1] 41)) (.cells #[.int .u8 t2.k,.int .i64 t2.n,.string t2.s,.slice A2 t2.ks.length c2] 41);have k0:=zkf (zkf (zkc HX.out b2) (.cells #[.int .u8 t1.k,.int .i64 t1.n,.string t1.s,.slice A1 t1.ks.length c1] 41)) (.cells #[.int .u8 t2.k,.int .i64 t2.n,.string t2.s,.slice A2 t2.ks.length c2] 41);have k1:=zkf (heap_alloc_new w2 (.cells #[.int .u8 t1.k,.int .i64 t1.n,.string t1.s,.slice A1 t1.ks.length c1] 41)) (.cells #[.int .u8 t2.k,.int .i64 t2.n,.string t2.s,.slice A2 t2.ks.length c2] 41);have k2:=heap_alloc_new (w2.alloc (.cells #[.int .u8 t1.k,.int .i64 t1.n,.string t1.s,.slice A1 t1.ks.length c1] 41)) (.cells #[.int .u8 t2.k,.int .i64 t2.n,.string t2.s,.slice A2 t2.ks.length c2] 41)
 simp only[World.size_alloc]at k2;obtain⟨w3,hw3⟩:=zX ((w2.alloc (.cells #[.int .u8 t1.k,.int .i64 t1.n,.string t1.s,.slice A1 t1.ks.length c1] 41)).alloc (.cells #[.int .u8 t2.k,.int .i64 t2.n,.string t2.s,.slice A2 t2.ks.length c2] 41));rw[hw3]at b3 k0 k1 k2;have hz2:=zkb HB0.out b2;have hzz:=hz2.size;obtain⟨eT,h3⟩:=H.out.plus HC.out b3;have bU:=zh (Kpt.of_below (n0:=C.n0) (kb:=C.kb) b3);have l0:=zkp k0;have l1:=zkp k1;have l2:=zkp k2;obtain⟨hi,hhi⟩:=zX (w3.heap.size);rw[hhi]at eT h3 l0 l1 l2;have iX:=zh eT;have H3:=zh h3;have K0:=zh k0;have K1:=zh k1;have K2:=zh k2;have iK:=zh (zlX eT h3)
 obtain⟨p1,⟨y0,y1,y2,y3⟩⟩:True/\(w3.cell? ⟨w2.heap.size,0,none⟩=some (.int .u8 t1.k)/\w3.cell? ⟨w2.heap.size,1,none⟩=some (.int .i64 t1.n)/\w3.cell? ⟨w2.heap.size,2,none⟩=some (.string t1.s)/\w3.cell? ⟨w2.heap.size,3,none⟩=some (.slice A1 t1.ks.length c1)):=⟨trivial,zc k1 rfl,zc k1 rfl,zc k1 rfl,zc k1 rfl⟩
 clear n1 n2 b2 b3 k0 k1 k2 hz2 eT h3 x0 x1 x2 x3 HX HB0 nK p1 ht1 ht2;go_upto_region 2 with fail;clear hw3;obtain⟨o,ho⟩:=zX (loO C.p.prs C.F g back t r);have HO:=zh (show(zkE C.F r).bind (fun r=>valO t1 r fun x r=>(zkl r (zlV r.S ⟨t.s,1,0⟩ x)).bind (loR C.p.prs C.F g back t t2))=o by rw[<-ho];unfold loO loR;rw[HT1.out,HT2.out]);rw[ho]at aD ⊢;have dn:=zh aD;have bP:=zh ho;clear aD ho;go_wp2_with fail;refine iK.out.mono ?_;rintro e w4 ⟨hk4,hb4,eQ⟩;have dI:=zh (bU.out.trans (Kpt.less (C:=C) hk4));have aG:=zh (show Below C.w.heap.size C.w w4 from hb4);have bE:match zkE C.F r with
  | .gas=>True
  | .err x=>e=zlE x
  | .ok r=>(∃u,e=.returned u)/\RI (C.plus W.heap.size hi) w4 r:=eQ
 have dP:=zh hk4;clear y0 y1 y2 y3 iK hk4 hb4 eQ
 cases hy:zkE C.F r with
 | gas=>exact absurd (by rw[<-HO.out,hy];rfl) dn.out
 | err x =>
  rw[hy]at bE;subst bE;refine⟨rfl,dI.out,aG.out,?_⟩;rw[<-HO.out,hy];rfl
 | ok r1 =>
  rw[hy]at bE;obtain⟨⟨u3,rfl⟩,hr1⟩:=bE;have HR4:=zh hr1;have iV:=zh (show(valO t1 r1 fun x r=>(zkl r (zlV r.S ⟨t.s,1,0⟩ x)).bind (loR C.p.prs C.F g back t t2))=o by rw[<-HO.out,hy];rfl);have bV:=zh (show FB r.n r1.S/\r1.n=r.n+1 by obtain⟨rfl,-⟩:=zlz hy;exact⟨H.out.fb,rfl⟩);have j0:=dP.out.blk (.inr (.inr ⟨by omega,l0⟩)) K0.out;have j1:=dP.out.blk (.inr (.inr ⟨by omega,l1⟩)) K1.out;have kJ:=zh (fun w' (hb:Below w4.heap.size w4 w')=>zqb (hr1.later hb) t1 _ nz.out);have az:=zh (show ∀w',Below w4.heap.size w4 w'->(fun w':World=>zv w' C.rb 6 (.pointer (some ⟨C.sb,0,none⟩))/\zv w' W.heap.size 2 (.string t.s)/\zN4 w' w2.heap.size (.int .u8 t1.k) (.int .i64 t1.n) (.string t1.s) (.slice A1 t1.ks.length c1)) w' from fun w' hb=>⟨zb hb hr1.cells.1,zb hb (zc j0 rfl),zb hb (zc j1 rfl),zb hb (zc j1 rfl),zb hb (zc j1 rfl),zb hb (zc j1 rfl)⟩);have gV:=zh (az.out _ zr.drew)
  clear hr1 hy j0 j1;go_upto_region 3 with fail;have hSS:zW (fun w':World=>zv w' C.rb 6 (.pointer (some ⟨C.sb,0,none⟩))/\zv w' W.heap.size 2 (.string t.s)/\zN4 w' w2.heap.size (.int .u8 t1.k) (.int .i64 t1.n) (.string t1.s) (.slice A1 t1.ks.length c1)) zU w4.drew:=⟨gV.out,trivial⟩
  refine zG hSS 12 ?_;refine zT 0 hSS ?_;refine zT 1 hSS ?_;refine zT 2 hSS ?_;refine zT 3 hSS ?_;refine zT 4 hSS ?_;refine zT 5 hSS ?_;refine zT 6 hSS ?_;refine zT 7 hSS ?_;refine zT 8 hSS ?_;refine zT 9 hSS ?_;have had:Calls prog 200 [.pointer (some ⟨C.rb,0,none⟩),nv t1.k t1.n t1.s A1 t1.ks.length c1].toArray w4.drew (ValP (C.plus W.heap.size hi) w4.drew t1 r1):=kJ.out _ zr.drew;refine zo 10 fun K hK=>?_;refine zk4 (by rfl) (.func 200) [.tmp 24,.tmp 25] _ (by rfl) 200 _ zuu (by rfl) _ (by rfl) (fun v w'=>Below w4.heap.size w4 w'/\∃x,v=.int .i64 x/\I64 x/\∀f,valO t1 r1 f=f x r1) (had.mono ?_) ?_
  ·rintro e y1 ⟨dU,hv1⟩;have b1:=zkb (zs w4).drew dU;rcases hv1 with⟨x,rfl,hx⟩|⟨x,rfl,oM,hx⟩
   ·refine .inr ⟨_,rfl,?_⟩;refine⟨rfl,dI.out.trans (Kpt.of_below b1),zkb aG.out b1,?_⟩
    try rw[bP.out]
    rw[<-iV.out,hx]
   ·exact .inl ⟨_,rfl,b1,x,rfl,oM,hx⟩
  rintro v5 w5 ⟨b5,x,rfl,hx,wh⟩;have aQ:=zh b5;have og:=zh hx;have iE:=zh (show(zkl r1 (zlV r1.S ⟨t.s,1,0⟩ x)).bind (loR C.p.prs C.F g back t t2)=o by rw[<-iV.out,wh]);refine hK.out _ _ ⟨az.out _ b5,trivial⟩ ?_;clear hK K had b5 hx wh hSS kJ;(try simp only[zQ]);obtain⟨R,hR⟩:=zX (zlV r1.S ⟨t.s,1,0⟩ x);have HRR:=zh hR;have ky:=bV.out.1.cur;have wC:=H.out.n;have had:Calls prog 181 [.pointer (some ⟨C.sb,0,none⟩),.agg #[.string t.s,.int .u8 1,.int .i64 0],.int .i64 x].toArray w5 fun e w'=>∃v,e=.returned v/\(v=.int .i64 R.1/\RI (C.plus W.heap.size hi) w' { r1 with S:=R.2 }/\Kpt C.n0 (C.plus W.heap.size hi).kb w5 w') :=
   ((HR4.out.later aQ.out).ks.open_ ⟨t.s,1,0⟩ (by obtain⟨_,_,_,hf,-⟩:=HV.out.open_;exact⟨hf.2.2,⟨by simp only;omega,by simp only;omega⟩,⟨by simp only;omega,by simp only;omega⟩⟩) x og.out (by omega)).mono fun e w' ⟨h1,h2,h3⟩=>⟨_,h1,by rw[hR],(RI.store (C:=C.plus W.heap.size hi) (HR4.out.later aQ.out) (hR▸h2) h3 (by rw[bV.out.2,<-hR];exact bV.out.1.open_ _ _))⟩
  refine zo 11 fun K hK=>?_;refine zlg (by rfl) (.func 181) [.tmp 20,.tmp 23,.tmp 26] _ (by rfl) 181 _ zuz (by rfl) _ (by rfl) _ had ?_;rintro v6 w6 ⟨rfl,dL,bT⟩;have fw:=zh (dP.out.trans ((Kpt.of_below aQ.out).trans bT));have j0:=fw.out.blk (.inr (.inr ⟨by omega,l0⟩)) K0.out;have j1:=fw.out.blk (.inr (.inr ⟨by omega,l1⟩)) K1.out;have gG:=zh dL;have av:(fun w':World=>zv w' C.rb 6 (.pointer (some ⟨C.sb,0,none⟩))/\zv w' W.heap.size 2 (.string t.s)/\zN4 w' w2.heap.size (.int .u8 t1.k) (.int .i64 t1.n) (.string t1.s) (.slice A1 t1.ks.length c1)) w6:=⟨dL.cells.1,zc j0 rfl,zc j1 rfl,zc j1 rfl,zc j1 rfl,zc j1 rfl⟩
  refine hK.out _ _ ⟨av,trivial⟩ ?_;have mV:=zh av;have aV:=zh dL.below;clear hK K had dL bT j0 j1 av gV az;(try simp only[zQ]);have dO:=zh (bU.out.trans (Kpt.less (C:=C) fw.out));rw[hR]at iE;have had:=zla ⟨C.rb,0,none⟩ R.1 w6;refine zp 12 fun K hK=>?_;refine zk4 (by rfl) (.func 180) [.tmp 16,.tmp 27] _ (by rfl) 180 _ zmi (by rfl) _ (by rfl) (fun v w'=>w'=w6/\R.1=0) (had.mono ?_) ?_
  ·rintro e y1 ⟨rfl,hv1⟩;rcases hv1 with⟨h0,u0,rfl⟩|⟨h0,rfl⟩
   ·exact .inl ⟨_,rfl,rfl,h0⟩
   ·refine .inr ⟨_,rfl,?_⟩;refine⟨rfl,dO.out,aV.out,?_⟩
    try rw[bP.out]
    rw[<-iE.out,show zkl r1 R=.err R.1 by unfold zkl;rw[if_pos h0]];rfl
  rintro v7 w7 ⟨rfl,h0⟩;have qo:=zh (show loR C.p.prs C.F g back t t2 { r1 with S:=R.2 }=o by rw[<-iE.out,show zkl r1 R=.ok { r1 with S:=R.2 } by unfold zkl;rw[if_neg (by simpa using h0)]];rfl);refine hK.out _ _ mV.out ?_;clear hK K had h0;(try simp only[zQ]);refine zd ?_;obtain⟨r2,hr2⟩:=zX (({ r1 with S:=R.2 }:RS));rw[hr2]at gG qo;have hI:1<t.ks.length:=by have:=qz.out;omega
  have hI1:(1:Int)<(t.ks.length:Int):=by omega
  obtain⟨a,u,Au,cu,rfl,-,hu,⟨p0,p1,p2,p3⟩,hnu⟩:=af.out.nd hI;have gp:kid t 1=u:=by unfold kid;rw[List.getD_eq_getElem?_getD,List.getElem?_eq_getElem hI];exact hu.out
  have uL:=zh (show ∀x∈u.ks,G C.p.prs x by rw[<-gp];exact hG1);have kS:=zh (show(runO C.p.prs C.F g back u r2).bind (fun r=>(zkE C.F r).bind fun r=>valO t2 r fun x r=>zkl r (zk8 r.S t.s x))=o by rw[<-qo.out,<-gp];rfl);have hgu:runO C.p.prs C.F g back u r2 ≠ .gas:=fun e=>dn.out (by rw[<-kS.out,e];rfl);have aC:=zh (zlh HS.out iX.out gG.out u _ back hnu uL.out hgu);have ha:a.add (1*4)=⟨a.block,a.off+4,none⟩:=by unfold Addr.add;split<;>simp_all
  rw[ha]at p0 p1 p2 p3;have q0:=zb aV.out p0;have q1:=zb aV.out p1;have q2:=zb aV.out p2;have q3:=zb aV.out p3;have j0:=fw.out.blk (.inr (.inr ⟨by omega,l0⟩)) K0.out;have q4:=zc (i:=3) j0 rfl;clear gp hnu hu p0 p1 p2 p3 hgu ha j0 ky wC;go_wp2_with fail;refine aC.out.mono ?_;rintro e w8 ⟨jR,dz,qN⟩;have nH:=zh (fw.out.trans jR);have qA:=zh (bU.out.trans (Kpt.less (C:=C) nH.out));have eH:=zh (show Below C.w.heap.size C.w w8 from dz);have bZ:match runO C.p.prs C.F g back u r2 with
   | .gas=>True
   | .err x=>e=zlE x
   | .ok r=>(∃u,e=.returned u)/\RI (C.plus W.heap.size hi) w8 r:=qN
  clear q0 q1 q2 q3 q4 jR dz qN aC
  cases hx:runO C.p.prs C.F g back u r2 with
  | gas=>exact absurd (by rw[<-kS.out,hx];rfl) dn.out
  | err x =>
   rw[hx]at bZ;subst bZ;refine⟨rfl,qA.out,eH.out,?_⟩
   try rw[bP.out]
   rw[<-kS.out,hx];rfl
  | ok r3 =>
   rw[hx]at bZ;obtain⟨⟨u9,rfl⟩,hr3⟩:=bZ;have HST:=zh (zlX iX.out hr3);have jU:=zh (show((zkE C.F r3).bind fun r=>valO t2 r fun x r=>zkl r (zk8 r.S t.s x))=o by rw[<-kS.out,hx];rfl);have gU:=zh hr3;clear hx hr3;go_wp2_with fail;refine HST.out.mono ?_;rintro e w9 ⟨aK,aU,bY⟩;have iJ:=zh (nH.out.trans aK);have gX:=zh (bU.out.trans (Kpt.less (C:=C) iJ.out));have aF:=zh (show Below C.w.heap.size C.w w9 from aU);have fU:match zkE C.F r3 with
    | .gas=>True
    | .err x=>e=zlE x
    | .ok r=>(∃u,e=.returned u)/\RI (C.plus W.heap.size hi) w9 r:=bY
   clear aK aU bY HST
   cases hy:zkE C.F r3 with
   | gas=>exact absurd (by rw[<-jU.out,hy];rfl) dn.out
   | err x =>
    rw[hy]at fU;subst fU;refine⟨rfl,gX.out,aF.out,?_⟩
    try rw[bP.out]
    rw[<-jU.out,hy];rfl
   | ok r4 =>
    rw[hy]at fU;obtain⟨⟨u9,rfl⟩,hr4⟩:=fU;have bI:=zh hr4;have fI:=zh (show(valO t2 r4 fun x r=>zkl r (zk8 r.S t.s x))=o by rw[<-jU.out,hy];rfl);have iM:=zh (show FB r3.n r4.S/\r4.n=r3.n+1 by obtain⟨rfl,-⟩:=zlz hy;exact⟨gU.out.fb,rfl⟩);have j0:=iJ.out.blk (.inr (.inr ⟨by omega,l0⟩)) K0.out;have j2:=iJ.out.blk (.inr (.inr ⟨by omega,l2⟩)) K2.out;have kJ:=zh (fun w' (hb:Below w9.heap.size w9 w')=>zqb (hr4.later hb) t2 _ aI.out);have az:=zh (show ∀w',Below w9.heap.size w9 w'->(fun w':World=>zv w' C.rb 6 (.pointer (some ⟨C.sb,0,none⟩))/\zv w' W.heap.size 2 (.string t.s)/\zN4 w' (w2.heap.size+1) (.int .u8 t2.k) (.int .i64 t2.n) (.string t2.s) (.slice A2 t2.ks.length c2)) w' from fun w' hb=>⟨zb hb hr4.cells.1,zb hb (zc j0 rfl),zb hb (zc j2 rfl),zb hb (zc j2 rfl),zb hb (zc j2 rfl),zb hb (zc j2 rfl)⟩);clear hr4 hy j0 j2;go_upto_region 6 with fail
    have hSS:zW (fun w':World=>zv w' C.rb 6 (.pointer (some ⟨C.sb,0,none⟩))/\zv w' W.heap.size 2 (.string t.s)/\zN4 w' (w2.heap.size+1) (.int .u8 t2.k) (.int .i64 t2.n) (.string t2.s) (.slice A2 t2.ks.length c2)) zU w9.drew:=⟨az.out _ zr.drew,trivial⟩
    refine zG hSS 11 ?_;refine zT 0 hSS ?_;refine zT 1 hSS ?_;refine zT 2 hSS ?_;refine zT 3 hSS ?_;refine zT 4 hSS ?_;refine zT 5 hSS ?_;refine zT 6 hSS ?_;refine zT 7 hSS ?_;refine zT 8 hSS ?_;have had:Calls prog 200 [.pointer (some ⟨C.rb,0,none⟩),nv t2.k t2.n t2.s A2 t2.ks.length c2].toArray w9.drew (ValP (C.plus W.heap.size hi) w9.drew t2 r4):=kJ.out _ zr.drew;refine zo 9 fun K hK=>?_;refine zk4 (by rfl) (.func 200) [.tmp 45,.tmp 46] _ (by rfl) 200 _ zuu (by rfl) _ (by rfl) (fun v w'=>Below w9.heap.size w9 w'/\∃x,v=.int .i64 x/\I64 x/\∀f,valO t2 r4 f=f x r4) (had.mono ?_) ?_
    ·rintro e y1 ⟨dU,hv1⟩;have b1:=zkb (zs w9).drew dU;rcases hv1 with⟨x,rfl,hx⟩|⟨x,rfl,oM,hx⟩
     ·refine .inr ⟨_,rfl,?_⟩;refine⟨rfl,gX.out.trans (Kpt.of_below b1),zkb aF.out b1,?_⟩
      try rw[bP.out]
      rw[<-fI.out,hx]
     ·exact .inl ⟨_,rfl,b1,x,rfl,oM,hx⟩
    rintro v10 aT ⟨b10,z,rfl,hx,wh⟩;have dF:=zh b10;obtain⟨Rc,lF⟩:=zX (zk8 r4.S t.s z);have iF:=zh (show zkl r4 Rc=o by rw[<-fI.out,wh,lF]);refine hK.out _ _ ⟨az.out _ b10,trivial⟩ ?_;clear hK K had b10 hx wh hSS kJ;(try simp only[zQ]);have had:Calls prog 182 [.pointer (some ⟨C.sb,0,none⟩),.string t.s,.int .i64 z].toArray aT fun e w'=>∃v,e=.returned v/\(v=.int .i64 Rc.1/\RI (C.plus W.heap.size hi) w' { r4 with S:=Rc.2 }/\Kpt C.n0 (C.plus W.heap.size hi).kb aT w') :=
     ((bI.out.later dF.out).ks.close t.s z).mono fun e w' ⟨h1,h2,h3⟩=>⟨_,h1,by rw[lF],(RI.store (C:=C.plus W.heap.size hi) (bI.out.later dF.out) (lF▸h2) h3 (by rw[iM.out.2,<-lF];exact iM.out.1.close_ _ _))⟩
    refine zo 10 fun K hK=>?_;refine zlg (by rfl) (.func 182) [.tmp 42,.tmp 44,.tmp 47] _ (by rfl) 182 _ zso (by rfl) _ (by rfl) _ had ?_;rintro v11 aO ⟨rfl,fT,iq⟩;have fJ:=zh (iJ.out.trans ((Kpt.of_below dF.out).trans iq));have j0:=fJ.out.blk (.inr (.inr ⟨by omega,l0⟩)) K0.out;have j2:=fJ.out.blk (.inr (.inr ⟨by omega,l2⟩)) K2.out;have kQ:=zh fT;have av:(fun w':World=>zv w' C.rb 6 (.pointer (some ⟨C.sb,0,none⟩))/\zv w' W.heap.size 2 (.string t.s)/\zN4 w' (w2.heap.size+1) (.int .u8 t2.k) (.int .i64 t2.n) (.string t2.s) (.slice A2 t2.ks.length c2)) aO:=⟨fT.cells.1,zc j0 rfl,zc j2 rfl,zc j2 rfl,zc j2 rfl,zc j2 rfl⟩
    refine hK.out _ _ ⟨av,trivial⟩ ?_;have mV:=zh av;have bM:=zh fT.below;clear hK K had fT iq j0 j2 av az;(try simp only[zQ]);have dE:=zh (bU.out.trans (Kpt.less (C:=C) fJ.out));have had:=zla ⟨C.rb,0,none⟩ Rc.1 aO;refine zp 11 fun K hK=>?_;refine zk4 (by rfl) (.func 180) [.tmp 38,.tmp 48] _ (by rfl) 180 _ zmi (by rfl) _ (by rfl) (fun v w'=>w'=aO/\Rc.1=0) (had.mono ?_) ?_
    ·rintro e y1 ⟨rfl,hv1⟩;rcases hv1 with⟨h0,u0,rfl⟩|⟨h0,rfl⟩
     ·exact .inl ⟨_,rfl,rfl,h0⟩
     ·refine .inr ⟨_,rfl,?_⟩;refine⟨rfl,dE.out,bM.out,?_⟩
      try rw[bP.out]
      rw[<-iF.out,show zkl r4 Rc=.err Rc.1 by unfold zkl;rw[if_pos h0]]
    rintro v12 iO ⟨rfl,h0⟩;have gJ:=zh (show o=.ok { r4 with S:=Rc.2 } by rw[<-iF.out];unfold zkl;rw[if_neg (by simpa using h0)]);refine hK.out _ _ mV.out ?_;clear hK K had h0;(try simp only[zQ]);refine zd ?_;have mW:=zh kQ.out.less;go_wp2_with fail;go_end0;refine⟨dE.out,bM.out,?_⟩
    try rw[bP.out]
    rw[gJ.out];exact⟨⟨_,rfl⟩,mW.out⟩
theorem zyb{G:List PR->T->Prop}{g:Nat}(hS:IStC G g){C:RC}(hC:C.Ok){W:World}{r:RS}(h:RI C W r)(t:T)(v:Value)(back:Bool)(hv:NV C.w Any t v)(hk0:t.k=52)(hk:t.ks.length=4)(hG1:∀u∈(kid t 1).ks,G C.p.prs u)(hG2:∀u∈(kid t 2).ks,G C.p.prs u)
  (o:Out)(ho:brO C.p.prs C.F g back t r=o)(hog:o ≠ .gas) :
  Calls prog 137 #[.pointer (some ⟨C.rb,0,none⟩),v,.bool back] W (RunP C W o):=by
 have aD:=hog;obtain⟨k,n,s,ks⟩:=t;obtain rfl:k=52:=hk0;obtain⟨A,c,rfl,-,hlk,hlc,-⟩:=hv.open_;have hb0:=zka (zs W) (.cells #[.int .u8 52,.int .i64 n,.string s,.slice A ks.length c] 41);obtain⟨x0,x1,x2,x3⟩:=box4 (heap_alloc_new W (.cells #[.int .u8 52,.int .i64 n,.string s,.slice A ks.length c] 41));have aJ:=zh (Kpt.of_below (n0:=C.n0) (kb:=C.kb) hb0);have bg:=zh (show Calls prog 176 #[.pointer (some ⟨C.rb,0,none⟩),.agg #[.int .u8 52,.int .i64 n,.string s,.slice A ks.length c],.bool back] (W.alloc (.cells #[.int .u8 52,.int .i64 n,.string s,.slice A ks.length c] 41)) (RunP C _ o)from(ho▸(zs5 hS hC (h.later hb0) _ _ back hv hk hG1 hG2 (ho▸hog))));clear hv hb0 h aD hG1 ho hk;go_enter func137,ntmps137;go_wp2_with fail;refine bg.out.mono ?_;rintro e w1 ⟨hk1,hb1,ho1⟩
 cases o with
 | gas=>exact absurd rfl hog
 | err x =>
  subst ho1;exact⟨rfl,aJ.out.trans hk1,hb1,rfl⟩
 | ok r1 =>
  obtain⟨⟨u,rfl⟩,hr1⟩:=ho1;have HR:=zh hr1;have aB:=zh (aJ.out.trans hk1);have HB1:=zh hb1;clear x0 x1 x2 x3 hr1 hk1 hb1;go_wp2_with fail;go_end0;exact⟨aB.out,HB1.out,⟨_,rfl⟩,HR.out⟩
theorem ztD{G:List PR->T->Prop}{g:Nat}(hS:IStC G g){C:RC}(hC:C.Ok){W:World}{r:RS}(h:RI C W r)(t:T)(v:Value)(back:Bool)(hv:NV C.w Any t v)(hk0:t.k=53)(hk:t.ks.length=4)(hG1:∀u∈(kid t 1).ks,G C.p.prs u)(hG2:∀u∈(kid t 2).ks,G C.p.prs u)
  (o:Out)(ho:lpO C.p.prs C.F g back t r=o)(hog:o ≠ .gas) :
  Calls prog 137 #[.pointer (some ⟨C.rb,0,none⟩),v,.bool back] W (RunP C W o):=by
 have aD:=hog;obtain⟨k,n,s,ks⟩:=t;obtain rfl:k=53:=hk0;obtain⟨A,c,rfl,-,hlk,hlc,-⟩:=hv.open_;have hb0:=zka (zs W) (.cells #[.int .u8 53,.int .i64 n,.string s,.slice A ks.length c] 41);obtain⟨x0,x1,x2,x3⟩:=box4 (heap_alloc_new W (.cells #[.int .u8 53,.int .i64 n,.string s,.slice A ks.length c] 41));have aJ:=zh (Kpt.of_below (n0:=C.n0) (kb:=C.kb) hb0);have bg:=zh (show Calls prog 177 #[.pointer (some ⟨C.rb,0,none⟩),.agg #[.int .u8 53,.int .i64 n,.string s,.slice A ks.length c],.bool back] (W.alloc (.cells #[.int .u8 53,.int .i64 n,.string s,.slice A ks.length c] 41)) (RunP C _ o)from(ho▸(zwp hS hC (h.later hb0) _ _ back hv hk hG1 hG2 (ho▸hog))));clear hv hb0 h aD hG1 ho hk;go_enter func137,ntmps137;go_wp2_with fail;refine bg.out.mono ?_;rintro e w1 ⟨hk1,hb1,ho1⟩
 cases o with
 | gas=>exact absurd rfl hog
 | err x =>
  subst ho1;exact⟨rfl,aJ.out.trans hk1,hb1,rfl⟩
 | ok r1 =>
  obtain⟨⟨u,rfl⟩,hr1⟩:=ho1;have HR:=zh hr1;have aB:=zh (aJ.out.trans hk1);have HB1:=zh hb1;clear x0 x1 x2 x3 hr1 hk1 hb1;go_wp2_with fail;go_end0;exact⟨aB.out,HB1.out,⟨_,rfl⟩,HR.out⟩
theorem zsG{G:List PR->T->Prop}{g:Nat}(hS:IStC G g){C:RC}(hC:C.Ok){W:World}{r:RS}(h:RI C W r)(t:T)(v:Value)(back:Bool)(hv:NV C.w Any t v)(hk0:t.k=54)(hk:t.ks.length=3)(hG1:∀u∈(kid t 1).ks,G C.p.prs u)
  (o:Out)(ho:loO C.p.prs C.F g back t r=o)(hog:o ≠ .gas) :
  Calls prog 137 #[.pointer (some ⟨C.rb,0,none⟩),v,.bool back] W (RunP C W o):=by
 have aD:=hog;obtain⟨k,n,s,ks⟩:=t;obtain rfl:k=54:=hk0;obtain⟨A,c,rfl,-,hlk,hlc,-⟩:=hv.open_;have hb0:=zka (zs W) (.cells #[.int .u8 54,.int .i64 n,.string s,.slice A ks.length c] 41);obtain⟨x0,x1,x2,x3⟩:=box4 (heap_alloc_new W (.cells #[.int .u8 54,.int .i64 n,.string s,.slice A ks.length c] 41));have aJ:=zh (Kpt.of_below (n0:=C.n0) (kb:=C.kb) hb0);have bg:=zh (show Calls prog 178 #[.pointer (some ⟨C.rb,0,none⟩),.agg #[.int .u8 54,.int .i64 n,.string s,.slice A ks.length c],.bool back] (W.alloc (.cells #[.int .u8 54,.int .i64 n,.string s,.slice A ks.length c] 41)) (RunP C _ o)from(ho▸(zud hS hC (h.later hb0) _ _ back hv hk hG1 (ho▸hog))));clear hv hb0 h aD hG1 ho hk;go_enter func137,ntmps137;go_wp2_with fail;refine bg.out.mono ?_;rintro e w1 ⟨hk1,hb1,ho1⟩
 cases o with
 | gas=>exact absurd rfl hog
 | err x =>
  subst ho1;exact⟨rfl,aJ.out.trans hk1,hb1,rfl⟩
 | ok r1 =>
  obtain⟨⟨u,rfl⟩,hr1⟩:=ho1;have HR:=zh hr1;have aB:=zh (aJ.out.trans hk1);have HB1:=zh hb1;clear x0 x1 x2 x3 hr1 hk1 hb1;go_wp2_with fail;go_end0;exact⟨aB.out,HB1.out,⟨_,rfl⟩,HR.out⟩
theorem zKH:IsFn prog 123 f123:=⟨func123,by kernel_rfl,by kernel_rfl⟩
theorem zyE:IsFn prog 184 f184:=⟨func184,by kernel_rfl,by kernel_rfl⟩
def basO(F:Int)(back:Bool)(t:T)(r:RS):Out:=(zkE F r).bind fun r=>zkl r (if back=true then zod r.S t else doE r.S t)
theorem zv0{C:RC}(hC:C.Ok){W:World}{r:RS}(h:RI C W r)(t:T)(v:Value)(back:Bool)(hv:NV C.w Any t v)(hk:t.k≠52/\t.k≠53/\t.k≠54/\t.k≠55/\t.k≠50/\t.k≠51) :
  Calls prog 137 #[.pointer (some ⟨C.rb,0,none⟩),v,.bool back] W (RunP C W (basO C.F back t r)):=by
 have HV:=zh hv;have H:=zh h;obtain⟨A,c,rfl,-,hlk,hlc,-⟩:=hv.open_;have e0:(t.k==52)=false:=by simpa using hk.1
 have e1:(t.k==53)=false:=by simpa using hk.2.1
 have e2:(t.k==54)=false:=by simpa using hk.2.2.1
 have e3:(t.k==55)=false:=by simpa using hk.2.2.2.1
 have e4:(t.k==50)=false:=by simpa using hk.2.2.2.2.1
 have e5:(t.k==51)=false:=by simpa using hk.2.2.2.2.2
 have hb0:=zka (zs W) (.cells #[.int .u8 t.k,.int .i64 t.n,.string t.s,.slice A t.ks.length c] 41);obtain⟨cZ,h1⟩:=h.plus hC hb0;have k0:=heap_alloc_new W (.cells #[.int .u8 t.k,.int .i64 t.n,.string t.s,.slice A t.ks.length c] 41);obtain⟨x0,x1,x2,x3⟩:=box4 k0;have bU:=zh (Kpt.of_below (n0:=C.n0) (kb:=C.kb) hb0);obtain⟨w3,hw3⟩:=zX (W.alloc (.cells #[.int .u8 t.k,.int .i64 t.n,.string t.s,.slice A t.ks.length c] 41));rw[hw3]at cZ h1 k0 x0 x1 x2 x3 bU;have l0:=zkp k0;have K0:=zh k0;obtain⟨hi,hhi⟩:=zX (w3.heap.size);rw[hhi]at cZ h1 l0;have iK:=zh (zlX cZ h1);obtain⟨o,ho⟩:=zX (basO C.F back t r);have bP:=zh ho;have HO:=zh (show(zkE C.F r).bind (fun r=>zkl r (if back=true then zod r.S t else doE r.S t))=o from ho);rw[ho];clear hv hb0 cZ h1 k0 h hk ho;go_enter func137,ntmps137;go_wp2_with fail;refine iK.out.mono ?_;rintro e w4 ⟨hk4,hb4,eQ⟩
 have dI:=zh (bU.out.trans (Kpt.less (C:=C) hk4));have aG:=zh (show Below C.w.heap.size C.w w4 from hb4);have bE:match zkE C.F r with
  | .gas=>True
  | .err x=>e=zlE x
  | .ok r=>(∃u,e=.returned u)/\RI (C.plus W.heap.size hi) w4 r:=eQ
 have dP:=zh hk4;clear x0 x1 x2 x3 iK hk4 hb4 eQ hw3
 cases hy:zkE C.F r with
 | gas=>exact absurd hy (zku _ _).1
 | err x =>
  rw[hy]at bE;subst bE;refine⟨rfl,dI.out,aG.out,?_⟩
  try rw[bP.out]
  rw[<-HO.out,hy];rfl
 | ok r1 =>
  rw[hy]at bE;obtain⟨⟨u3,rfl⟩,hr1⟩:=bE;have HR4:=zh hr1;have iV:=zh (show zkl r1 (if back=true then zod r1.S t else doE r1.S t)=o by rw[<-HO.out,hy];rfl);have bV:=zh (show FB r.n r1.S/\r1.n=r.n+1 by obtain⟨rfl,-⟩:=zlz hy;exact⟨H.out.fb,rfl⟩);have j0:=dP.out.blk (.inr (.inr ⟨zl,l0⟩)) K0.out;have hSS:zW (fun w':World=>zv w' C.rb 6 (.pointer (some ⟨C.sb,0,none⟩))/\zN4 w' W.heap.size (.int .u8 t.k) (.int .i64 t.n) (.string t.s) (.slice A t.ks.length c)) zU w4.drew:=⟨⟨hr1.cells.1,zc j0 rfl,zc j0 rfl,zc j0 rfl,zc j0 rfl⟩,trivial⟩
  clear hr1 hy j0
  cases back
  ·skip
   go_upto_region 5 with fail;refine zG hSS 7 ?_;refine zT 0 hSS ?_;refine zT 1 hSS ?_;refine zT 2 hSS ?_;refine zT 3 hSS ?_;refine zT 4 hSS ?_;refine zT 5 hSS ?_;obtain⟨R,hR⟩:=zX (doE r1.S t);have iE:=zh (show zkl r1 R=o by rw[<-hR];exact iV.out);have hbd:Below w4.heap.size w4 w4.drew:=zr.drew;have had:Calls prog 123 [.pointer (some ⟨C.sb,0,none⟩),.agg #[.int .u8 t.k,.int .i64 t.n,.string t.s,.slice A t.ks.length c]].toArray w4.drew fun e w'=>∃v,e=.returned v/\(v=.int .i64 R.1/\RI (C.plus W.heap.size hi) w' { r1 with S:=R.2 }/\Kpt C.n0 (C.plus W.heap.size hi).kb w4 w') :=
    ((HR4.out.later hbd).ks.do_ t _ (HV.out.later (zkb aG.out hbd))).mono fun e w' ⟨h1,h2,h3⟩=>by
     have hs:=RI.store (C:=C.plus W.heap.size hi) (HR4.out.later hbd) h2 h3 (by rw[bV.out.2];exact bV.out.1.do_ _);rw[hR]at h1 hs;exact⟨_,h1,rfl,hs.1,(Kpt.of_below hbd).trans hs.2⟩
   refine zo 6 fun K hK=>?_;refine zlg (by rfl) (.func 123) [.tmp 23,.tmp 24] _ (by rfl) 123 _ zKH (by rfl) _ (by rfl) _ had ?_;rintro v6 w6 ⟨rfl,dL,bT⟩;have dO:=zh (dI.out.trans (Kpt.less (C:=C) bT));have j0:=(dP.out.trans bT).blk (.inr (.inr ⟨zl,l0⟩)) K0.out;have av:(fun w':World=>zv w' C.rb 6 (.pointer (some ⟨C.sb,0,none⟩))/\zN4 w' W.heap.size (.int .u8 t.k) (.int .i64 t.n) (.string t.s) (.slice A t.ks.length c)) w6:=⟨dL.cells.1,zc j0 rfl,zc j0 rfl,zc j0 rfl,zc j0 rfl⟩
   have gG:=zh dL.less;have aV:=zh dL.below;refine hK.out _ _ ⟨av,trivial⟩ ?_;have mV:=zh av;clear hK K had dL bT j0 av hSS;(try simp only[zQ]);have had:=zla ⟨C.rb,0,none⟩ R.1 w6;refine zp 7 fun K hK=>?_;refine zk4 (by rfl) (.func 180) [.tmp 19,.tmp 25] _ (by rfl) 180 _ zmi (by rfl) _ (by rfl) (fun v w'=>w'=w6/\R.1=0) (had.mono ?_) ?_
   ·rintro e y1 ⟨rfl,hv1⟩;rcases hv1 with⟨h0,u0,rfl⟩|⟨h0,rfl⟩
    ·exact .inl ⟨_,rfl,rfl,h0⟩
    ·refine .inr ⟨_,rfl,?_⟩;refine⟨rfl,dO.out,aV.out,?_⟩
     try rw[bP.out]
     rw[<-iE.out,show zkl r1 R=.err R.1 by unfold zkl;rw[if_pos h0]]
   rintro v12 iO ⟨rfl,h0⟩;have gJ:=zh (show o=.ok { r1 with S:=R.2 } by rw[<-iE.out];unfold zkl;rw[if_neg (by simpa using h0)]);refine hK.out _ _ mV.out ?_;clear hK K had h0;(try simp only[zQ]);refine zd ?_;go_wp2_with fail;go_end0;refine⟨dO.out,aV.out,?_⟩
   try rw[bP.out]
   rw[gJ.out];exact⟨⟨_,rfl⟩,gG.out⟩
  ·skip
   go_upto_region 4 with fail;refine zkk (fun w':World=>zv w' C.rb 6 (.pointer (some ⟨C.sb,0,none⟩))/\zN4 w' W.heap.size (.int .u8 t.k) (.int .i64 t.n) (.string t.s) (.slice A t.ks.length c)) zU 7 (by kernel_rfl) ?_;refine zT 0 hSS ?_;refine zT 1 hSS ?_;refine zT 2 hSS ?_;refine zT 3 hSS ?_;refine zT 4 hSS ?_;refine zT 5 hSS ?_;obtain⟨R,hR⟩:=zX (zod r1.S t);have iE:=zh (show zkl r1 R=o by rw[<-hR];exact iV.out);have hbd:Below w4.heap.size w4 w4.drew:=zr.drew;have had:Calls prog 184 [.pointer (some ⟨C.sb,0,none⟩),.agg #[.int .u8 t.k,.int .i64 t.n,.string t.s,.slice A t.ks.length c]].toArray w4.drew fun e w'=>∃v,e=.returned v/\(v=.int .i64 R.1/\RI (C.plus W.heap.size hi) w' { r1 with S:=R.2 }/\Kpt C.n0 (C.plus W.heap.size hi).kb w4 w') :=
    ((HR4.out.later hbd).ks.undo t _ (HV.out.later (zkb aG.out hbd))).mono fun e w' ⟨h1,h2,h3⟩=>by
     have hs:=RI.store (C:=C.plus W.heap.size hi) (HR4.out.later hbd) h2 h3 (by rw[bV.out.2];exact bV.out.1.undo _);rw[hR]at h1 hs;exact⟨_,h1,rfl,hs.1,(Kpt.of_below hbd).trans hs.2⟩
   refine zo 6 fun K hK=>?_;refine zlg (by rfl) (.func 184) [.tmp 15,.tmp 16] _ (by rfl) 184 _ zyE (by rfl) _ (by rfl) _ had ?_;rintro v6 w6 ⟨rfl,dL,bT⟩;have dO:=zh (dI.out.trans (Kpt.less (C:=C) bT));have j0:=(dP.out.trans bT).blk (.inr (.inr ⟨zl,l0⟩)) K0.out;have av:(fun w':World=>zv w' C.rb 6 (.pointer (some ⟨C.sb,0,none⟩))/\zN4 w' W.heap.size (.int .u8 t.k) (.int .i64 t.n) (.string t.s) (.slice A t.ks.length c)) w6:=⟨dL.cells.1,zc j0 rfl,zc j0 rfl,zc j0 rfl,zc j0 rfl⟩
   have gG:=zh dL.less;have aV:=zh dL.below;refine hK.out _ _ ⟨av,trivial⟩ ?_;have mV:=zh av;clear hK K had dL bT j0 av hSS;(try simp only[zQ]);have had:=zla ⟨C.rb,0,none⟩ R.1 w6;refine zp 7 fun K hK=>?_;refine zk4 (by rfl) (.func 180) [.tmp 11,.tmp 17] _ (by rfl) 180 _ zmi (by rfl) _ (by rfl) (fun v w'=>w'=w6/\R.1=0) (had.mono ?_) ?_
   ·rintro e y1 ⟨rfl,hv1⟩;rcases hv1 with⟨h0,u0,rfl⟩|⟨h0,rfl⟩
    ·exact .inl ⟨_,rfl,rfl,h0⟩
    ·refine .inr ⟨_,rfl,?_⟩;refine⟨rfl,dO.out,aV.out,?_⟩
     try rw[bP.out]
     rw[<-iE.out,show zkl r1 R=.err R.1 by unfold zkl;rw[if_pos h0]]
   rintro v12 iO ⟨rfl,h0⟩;have gJ:=zh (show o=.ok { r1 with S:=R.2 } by rw[<-iE.out];unfold zkl;rw[if_neg (by simpa using h0)]);refine hK.out _ _ mV.out ?_;clear hK K had h0;(try simp only[zQ]);refine zd ?_;go_wp2_with fail;go_end0;refine⟨dO.out,aV.out,?_⟩
   try rw[bP.out]
   rw[gJ.out];exact⟨⟨_,rfl⟩,gG.out⟩
def lsR(prs:List PR)(F:Int)(g:Nat)(back:Bool)(t:T)(r:RS):Out :=
 (zlb (zkB prs F g back) (blkL back (kid t 0)) r).bind fun r=>(zkE F r).bind fun r=>zkl r (zk8 r.S t.s 0)
def lsO(prs:List PR)(F:Int)(g:Nat)(back:Bool)(t:T)(r:RS):Out :=
 (zkE F r).bind fun r=>(zkl r (zlV r.S ⟨t.s,3,0⟩ 0)).bind (lsR prs F g back t)
theorem zya{G:List PR->T->Prop}{g:Nat}(hS:IStC G g){C:RC}(hC:C.Ok){W:World}{r:RS}(h:RI C W r)(t:T)(v:Value)(back:Bool)(hv:NV C.w Any t v)(hk0:t.k=55)(hk:t.ks.length=1)(hG1:∀u∈(kid t 0).ks,G C.p.prs u)
  (aD:lsO C.p.prs C.F g back t r ≠ .gas) :
  Calls prog 137 #[.pointer (some ⟨C.rb,0,none⟩),v,.bool back] W (RunP C W (lsO C.p.prs C.F g back t r)):=by
 have HV:=zh hv;have H:=zh h;have HS:=zh hS;have qz:=zh hk;obtain⟨A,c,rfl,-,hlk,hlc,hrow⟩:=hv.open_;have af:=zh hrow;have hb0:=zka (zs W) (.cells #[.int .u8 t.k,.int .i64 t.n,.string t.s,.slice A t.ks.length c] 41);obtain⟨cZ,h1⟩:=h.plus hC hb0;have k0:=heap_alloc_new W (.cells #[.int .u8 t.k,.int .i64 t.n,.string t.s,.slice A t.ks.length c] 41);obtain⟨x0,x1,x2,x3⟩:=box4 k0;have bU:=zh (Kpt.of_below (n0:=C.n0) (kb:=C.kb) hb0);obtain⟨w3,hw3⟩:=zX (W.alloc (.cells #[.int .u8 t.k,.int .i64 t.n,.string t.s,.slice A t.ks.length c] 41));rw[hw3]at cZ h1 k0 x0 x1 x2 x3 bU;have l0:=zkp k0;have K0:=zh k0;obtain⟨hi,hhi⟩:=zX (w3.heap.size);rw[hhi]at cZ h1 l0;have lT:=zh cZ;have iK:=zh (zlX cZ h1);obtain⟨o,ho⟩:=zX (lsO C.p.prs C.F g back t r);have bP:=zh ho;have HO:=zh (show(zkE C.F r).bind (fun r=>(zkl r (zlV r.S ⟨t.s,3,0⟩ 0)).bind (lsR C.p.prs C.F g back t))=o from ho)
 rw[ho]at aD ⊢;have dn:=zh aD;rw[hk0]at hw3;have hw3':=hw3;clear hv hb0 cZ h1 k0 h hk ho aD hrow hS hlk;have HKK:=zh hk0;rw[hk0]at x0;rw[hk0];clear hk0;go_enter func137,ntmps137;go_wp2_with fail;refine iK.out.mono ?_;rintro e w4 ⟨hk4,hb4,eQ⟩;have dI:=zh (bU.out.trans (Kpt.less (C:=C) hk4));have aG:=zh (show Below C.w.heap.size C.w w4 from hb4);have bE:match zkE C.F r with
  | .gas=>True
  | .err x=>e=zlE x
  | .ok r=>(∃u,e=.returned u)/\RI (C.plus W.heap.size hi) w4 r:=eQ
 have dP:=zh hk4;clear x0 x1 x2 x3 iK hk4 hb4 eQ hw3 hw3'
 cases hy:zkE C.F r with
 | gas=>exact absurd hy (zku _ _).1
 | err x =>
  rw[hy]at bE;subst bE;refine⟨rfl,dI.out,aG.out,?_⟩
  try rw[bP.out]
  rw[<-HO.out,hy];rfl
 | ok r1 =>
  rw[hy]at bE;obtain⟨⟨u3,rfl⟩,hr1⟩:=bE;have HR4:=zh hr1;have iV:=zh (show(zkl r1 (zlV r1.S ⟨t.s,3,0⟩ 0)).bind (lsR C.p.prs C.F g back t)=o by rw[<-HO.out,hy];rfl);have bV:=zh (show FB r.n r1.S/\r1.n=r.n+1 by obtain⟨rfl,-⟩:=zlz hy;exact⟨H.out.fb,rfl⟩);have j0:=dP.out.blk (.inr (.inr ⟨zl,l0⟩)) K0.out;have hSS:zW (fun w':World=>zv w' C.rb 6 (.pointer (some ⟨C.sb,0,none⟩))/\zv w' W.heap.size 2 (.string t.s)) zU w4.drew:=⟨⟨hr1.cells.1,zc j0 rfl⟩,trivial⟩
  clear hr1 hy j0;go_upto_region 14 with fail;refine zG hSS 9 ?_;refine zT 0 hSS ?_;refine zT 1 hSS ?_;refine zT 2 hSS ?_;refine zT 3 hSS ?_;refine zT 4 hSS ?_;refine zT 5 hSS ?_;refine zT 6 hSS ?_;refine zT 7 hSS ?_;obtain⟨R,hR⟩:=zX (zlV r1.S ⟨t.s,3,0⟩ 0);have HRR:=zh hR;have ky:=bV.out.1.cur;have wC:=H.out.n;have hbd:Below w4.heap.size w4 w4.drew:=zr.drew;have had:Calls prog 181 [.pointer (some ⟨C.sb,0,none⟩),.agg #[.string t.s,.int .u8 3,.int .i64 0],.int .i64 0].toArray w4.drew fun e w'=>∃v,e=.returned v/\(v=.int .i64 R.1/\RI (C.plus W.heap.size hi) w' { r1 with S:=R.2 }/\Kpt C.n0 (C.plus W.heap.size hi).kb w4 w') :=
   ((HR4.out.later hbd).ks.open_ ⟨t.s,3,0⟩ (by obtain⟨_,_,_,hf,-⟩:=HV.out.open_;exact⟨hf.2.2,⟨by simp only;omega,by simp only;omega⟩,⟨by simp only;omega,by simp only;omega⟩⟩) 0 zero_I64 (by omega)).mono fun e w' ⟨h1,h2,h3⟩=>by
    have hs:=RI.store (C:=C.plus W.heap.size hi) (HR4.out.later hbd) (hR▸h2) h3 (by rw[bV.out.2,<-hR];exact bV.out.1.open_ _ _);exact⟨_,h1,by rw[hR],hs.1,(Kpt.of_below hbd).trans hs.2⟩
  refine zo 8 fun K hK=>?_;refine zlg (by rfl) (.func 181) [.tmp 53,.tmp 56,.const (.int .i64 0)] _ (by rfl) 181 _ zuz (by rfl) _ (by rfl) _ had ?_;rintro v6 w6 ⟨rfl,dL,bT⟩;have fw:=zh (dP.out.trans bT);have j0:=fw.out.blk (.inr (.inr ⟨zl,l0⟩)) K0.out;have gG:=zh dL;have av:(fun w':World=>zv w' C.rb 6 (.pointer (some ⟨C.sb,0,none⟩))/\zv w' W.heap.size 2 (.string t.s)) w6:=⟨dL.cells.1,zc j0 rfl⟩
  refine hK.out _ _ ⟨av,trivial⟩ ?_;have mV:=zh av;have aV:=zh dL.below;clear hK K had dL bT j0 av hSS;(try simp only[zQ]);have dO:=zh (bU.out.trans (Kpt.less (C:=C) fw.out));rw[hR]at iV;have had:=zla ⟨C.rb,0,none⟩ R.1 w6;refine zp 9 fun K hK=>?_;refine zk4 (by rfl) (.func 180) [.tmp 49,.tmp 57] _ (by rfl) 180 _ zmi (by rfl) _ (by rfl) (fun v w'=>w'=w6/\R.1=0) (had.mono ?_) ?_
  ·rintro e y1 ⟨rfl,hv1⟩;rcases hv1 with⟨h0,u0,rfl⟩|⟨h0,rfl⟩
   ·exact .inl ⟨_,rfl,rfl,h0⟩
   ·refine .inr ⟨_,rfl,?_⟩;refine⟨rfl,dO.out,aV.out,?_⟩
    try rw[bP.out]
    rw[<-iV.out,show zkl r1 R=.err R.1 by unfold zkl;rw[if_pos h0]];rfl
  rintro v7 w7 ⟨rfl,h0⟩;have qo:=zh (show lsR C.p.prs C.F g back t { r1 with S:=R.2 }=o by rw[<-iV.out,show zkl r1 R=.ok { r1 with S:=R.2 } by unfold zkl;rw[if_neg (by simpa using h0)]];rfl);refine hK.out _ _ mV.out ?_;clear hK K had h0;(try simp only[zQ]);refine zd ?_;obtain⟨r2,hr2⟩:=zX (({ r1 with S:=R.2 }:RS));rw[hr2]at gG qo;have hI:0<t.ks.length:=by have:=qz.out;omega
  have hI1:(0:Int)<(t.ks.length:Int):=by omega
  obtain⟨a,u,Au,cu,rfl,-,hu,⟨p0,p1,p2,p3⟩,hnu⟩:=af.out.nd hI;have gp:kid t 0=u:=by unfold kid;rw[List.getD_eq_getElem?_getD,List.getElem?_eq_getElem hI];exact hu.out
  have uL:=zh (show ∀x∈u.ks,G C.p.prs x by rw[<-gp];exact hG1);have kS:=zh (show(runO C.p.prs C.F g back u r2).bind (fun r=>(zkE C.F r).bind fun r=>zkl r (zk8 r.S t.s 0))=o by rw[<-qo.out,<-gp];rfl);have hgu:runO C.p.prs C.F g back u r2 ≠ .gas:=fun e=>dn.out (by rw[<-kS.out,e];rfl);have aC:=zh (zlh HS.out lT.out gG.out u _ back hnu uL.out hgu);have ha:a.add (0*4)=a:=by unfold Addr.add;simp
  rw[ha]at p0 p1 p2 p3;have q0:=zb aV.out p0;have q1:=zb aV.out p1;have q2:=zb aV.out p2;have q3:=zb aV.out p3;have j0:=fw.out.blk (.inr (.inr ⟨zl,l0⟩)) K0.out;have q4:=zc (i:=3) j0 rfl;clear gp hnu hu p0 p1 p2 p3 hgu ha j0 ky wC hG1;go_wp2_with fail;refine aC.out.mono ?_;rintro e w8 ⟨jR,dz,qN⟩;have nH:=zh (fw.out.trans jR);have qA:=zh (bU.out.trans (Kpt.less (C:=C) nH.out));have eH:=zh (show Below C.w.heap.size C.w w8 from dz);have bZ:match runO C.p.prs C.F g back u r2 with
   | .gas=>True
   | .err x=>e=zlE x
   | .ok r=>(∃u,e=.returned u)/\RI (C.plus W.heap.size hi) w8 r:=qN
  clear q0 q1 q2 q3 q4 jR dz qN aC
  cases hx:runO C.p.prs C.F g back u r2 with
  | gas=>exact absurd (by rw[<-kS.out,hx];rfl) dn.out
  | err x =>
   rw[hx]at bZ;subst bZ;refine⟨rfl,qA.out,eH.out,?_⟩
   try rw[bP.out]
   rw[<-kS.out,hx];rfl
  | ok r3 =>
   rw[hx]at bZ;obtain⟨⟨u9,rfl⟩,hr3⟩:=bZ;have HST:=zh (zlX lT.out hr3);have jU:=zh (show((zkE C.F r3).bind fun r=>zkl r (zk8 r.S t.s 0))=o by rw[<-kS.out,hx];rfl);have gU:=zh hr3;clear hx hr3;go_wp2_with fail;refine HST.out.mono ?_;rintro e w9 ⟨aK,aU,bY⟩;have iJ:=zh (nH.out.trans aK);have gX:=zh (bU.out.trans (Kpt.less (C:=C) iJ.out));have aF:=zh (show Below C.w.heap.size C.w w9 from aU);have fU:match zkE C.F r3 with
    | .gas=>True
    | .err x=>e=zlE x
    | .ok r=>(∃u,e=.returned u)/\RI (C.plus W.heap.size hi) w9 r:=bY
   clear aK aU bY HST
   cases hy:zkE C.F r3 with
   | gas=>exact absurd (by rw[<-jU.out,hy];rfl) dn.out
   | err x =>
    rw[hy]at fU;subst fU;refine⟨rfl,gX.out,aF.out,?_⟩
    try rw[bP.out]
    rw[<-jU.out,hy];rfl
   | ok r4 =>
    rw[hy]at fU;obtain⟨⟨u9,rfl⟩,hr4⟩:=fU;have bI:=zh hr4;have iM:=zh (show FB r3.n r4.S/\r4.n=r3.n+1 by obtain⟨rfl,-⟩:=zlz hy;exact⟨gU.out.fb,rfl⟩);obtain⟨Rc,lF⟩:=zX (zk8 r4.S t.s 0);have iF:=zh (show zkl r4 Rc=o by rw[<-jU.out,hy,<-lF];rfl);have j0:=iJ.out.blk (.inr (.inr ⟨zl,l0⟩)) K0.out;have hSS:zW (fun w':World=>zv w' C.rb 6 (.pointer (some ⟨C.sb,0,none⟩))/\zv w' W.heap.size 2 (.string t.s)) zU w9.drew:=⟨⟨hr4.cells.1,zc j0 rfl⟩,trivial⟩
    clear hr4 hy j0;go_upto_region 17 with fail;refine zG hSS 8 ?_;refine zT 0 hSS ?_;refine zT 1 hSS ?_;refine zT 2 hSS ?_;refine zT 3 hSS ?_;refine zT 4 hSS ?_;refine zT 5 hSS ?_;refine zT 6 hSS ?_;have tC:Below w9.heap.size w9 w9.drew:=zr.drew;have had:Calls prog 182 [.pointer (some ⟨C.sb,0,none⟩),.string t.s,.int .i64 0].toArray w9.drew fun e w'=>∃v,e=.returned v/\(v=.int .i64 Rc.1/\RI (C.plus W.heap.size hi) w' { r4 with S:=Rc.2 }/\Kpt C.n0 (C.plus W.heap.size hi).kb w9 w') :=
     ((bI.out.later tC).ks.close t.s 0).mono fun e w' ⟨h1,h2,h3⟩=>by
      have hs:=RI.store (C:=C.plus W.heap.size hi) (bI.out.later tC) (lF▸h2) h3 (by rw[iM.out.2,<-lF];exact iM.out.1.close_ _ _);exact⟨_,h1,by rw[lF],hs.1,(Kpt.of_below tC).trans hs.2⟩
    refine zo 7 fun K hK=>?_;refine zlg (by rfl) (.func 182) [.tmp 72,.tmp 74,.const (.int .i64 0)] _ (by rfl) 182 _ zso (by rfl) _ (by rfl) _ had ?_;rintro v11 aO ⟨rfl,fT,iq⟩;have fJ:=zh (iJ.out.trans iq);have j0:=fJ.out.blk (.inr (.inr ⟨zl,l0⟩)) K0.out;have kQ:=zh fT;have av:(fun w':World=>zv w' C.rb 6 (.pointer (some ⟨C.sb,0,none⟩))/\zv w' W.heap.size 2 (.string t.s)) aO:=⟨fT.cells.1,zc j0 rfl⟩
    refine hK.out _ _ ⟨av,trivial⟩ ?_;have mV:=zh av;have bM:=zh fT.below;clear hK K had fT iq j0 av hSS;(try simp only[zQ]);have dE:=zh (bU.out.trans (Kpt.less (C:=C) fJ.out));have had:=zla ⟨C.rb,0,none⟩ Rc.1 aO;refine zp 8 fun K hK=>?_;refine zk4 (by rfl) (.func 180) [.tmp 68,.tmp 75] _ (by rfl) 180 _ zmi (by rfl) _ (by rfl) (fun v w'=>w'=aO/\Rc.1=0) (had.mono ?_) ?_
    ·rintro e y1 ⟨rfl,hv1⟩;rcases hv1 with⟨h0,u0,rfl⟩|⟨h0,rfl⟩
     ·exact .inl ⟨_,rfl,rfl,h0⟩
     ·refine .inr ⟨_,rfl,?_⟩;refine⟨rfl,dE.out,bM.out,?_⟩
      try rw[bP.out]
      rw[<-iF.out,show zkl r4 Rc=.err Rc.1 by unfold zkl;rw[if_pos h0]]
    rintro v12 iO ⟨rfl,h0⟩;have gJ:=zh (show o=.ok { r4 with S:=Rc.2 } by rw[<-iF.out];unfold zkl;rw[if_neg (by simpa using h0)]);refine hK.out _ _ mV.out ?_;clear hK K had h0;(try simp only[zQ]);refine zd ?_;have mW:=zh kQ.out.less;go_wp2_with fail;go_end0;refine⟨dE.out,bM.out,?_⟩
    try rw[bP.out]
    rw[gJ.out];exact⟨⟨_,rfl⟩,mW.out⟩
end
section
open Go.RowKit
mutual
/-- ast.limited: what is left of the count,or none. -/
def lim:T->Nat->Nat->Option Nat
 | .nd _ _ _ ks,d,l=>if d=0\/l=0 then none else lims ks (d-1) (l-1)
def lims:List T->Nat->Nat->Option Nat
 | [],_,l=>some l
 | t::ts,d,l=>match lim t d l with
  | none=>none
  | some l'=>lims ts d l'
end
theorem zop(ts us:List T)(d:Nat):∀l,lims (ts++us) d l=(lims ts d l).bind fun r=>lims us d r:=by
 induction ts with
 | nil=>intro l;simp[lims]
 | cons t ts ih =>
  intro l;simp only[List.cons_append,lims]
  cases lim t d l with
  | none=>rfl
  | some r=>exact ih r
theorem zws(t:T)(d l:Nat):lims [t] d l=lim t d l:=by
 simp only[lims]
 cases lim t d l<;>rfl
theorem zug{ks:List T}{d l r j:Nat}(hj:j<ks.length)(h:lims (ks.take j) d l=some r):lims (ks.take (j+1)) d l=lim ks[j] d r:=by
 rw[List.take_succ_eq_append_getElem hj,zop,h];exact zws _ _ _
theorem zuh{ks:List T}{d l j:Nat}(h:lims (ks.take j) d l=none):lims ks d l=none:=by
 rw[<-List.take_append_drop j ks,zop,h];rfl
theorem zzA(t:T):∀d l r,lim t d l=some r->r<=l:=by
 induction t using T.ind with
 | _ k n s ks ih =>
 intro d l r h;rw[lim]at h
 split at h
 ·cases h
 ·have key:∀(us:List T),(∀t∈us,∀d l r,lim t d l=some r->r<=l)->∀l r d,lims us d l=some r->r<=l:=by
   intro us
   induction us with
   | nil=>intro _ l r d h;simp[lims]at h;omega
   | cons t us ih2 =>
    intro hu l r d h;simp only[lims]at h
    cases h1:lim t d l with
    | none=>rw[h1]at h;cases h
    | some r1 =>
     rw[h1]at h;have:=hu t (by simp) d l r1 h1;have:=ih2 (fun t ht=>hu t (by simp[ht])) r1 r d h;omega
  have:=key ks ih _ _ _ h;omega
def LimE(w:World)(b:Nat)(o:Option Nat)(e:Ending)(w':World):Prop :=
 e=.returned (.bool o.isSome)/\∃l':Nat,w'.heap[b]?=some (.cells #[.int .i64 (l':Int)] 3 (0,0))/\(∀r,o=some r->l'=r)/\w.grownBy w' (some b)
theorem zm1{a b c:World}{row:Option Nat}(h1:a.grownBy b row)(h2:b.grownBy c row):a.grownBy c row :=
 ⟨h2.os.trans h1.os,h2.tape.trans h1.tape,h2.output.trans h1.output,Nat.le_trans h1.size h2.size,fun i hi hne=>(h2.block i (Nat.lt_of_lt_of_le hi h1.size) hne).trans (h1.block i hi hne)⟩
theorem zmh{w:World}(o:Obj)(row:Option Nat):w.grownBy (w.alloc o) row :=
 let h:=(zs w).alloc zl o
 ⟨h.os,h.tape,h.output,h.size,fun b hb _=>h.block b hb⟩
theorem zmD.grown{w w':World}{S:Nat->Prop}{A:Option Addr}{ts:List T}{b:Nat}(h:zmD w S A ts)(hg:w.grownBy w' (some b))(hb:¬ S b):zmD w' S A ts :=
 h.keep (fun _ h _=>h) fun i hi hlt=>hg.block i hlt fun e=>by injection e with e;subst e;exact hb hi
theorem zrg(t:T):∀(d l:Nat) (S:Nat->Prop) (v:Value) (w:World) (b:Nat),NV w S t v->¬ S b->d<=80->l<=2000->w.heap[b]?=some (.cells #[.int .i64 (l:Int)] 3 (0,0)) ->
  Calls prog 108 #[v,.int .i64 (d:Int),.pointer (some ⟨b,0,none⟩)] w (LimE w b (lim t d l)):=by
 induction t using T.ind with
 | _ k n s ks ih =>
 intro d l S v w b hv hSb hd hl hbx;obtain⟨A,c,rfl,hf,hlk,hlc,hrow⟩:=hv.open_;simp only[T.k_nd,T.n_nd,T.s_nd,T.ks_nd]at *
 have aA:=zkI hlk;have IH:=zh ih;have af:=zh hrow;have kL:=zh hSb;have aX:=zh hbx;have hbl:=zkp hbx;have c0:=zks (zc (i:=0) (u:=.int .i64 (l:Int)) hbx rfl);have f0:∀o:Obj,(w.alloc o).frozen? ⟨b,0,none⟩=false:=fun o=>by
  have:(w.alloc o).heap[b]?=some (.cells #[.int .i64 (l:Int)] 3 (0,0)):=(Below.heap_alloc w o b hbl).trans hbx;exact zf this
 clear hv ih hrow hSb hf hlk hbx;have hne:¬ b=w.heap.size:=by omega
 have hne':¬ w.heap.size=b:=by omega
 by_cases hd0:d=0
 ·subst hd0;have HX:=zh (show lim (.nd k n s ks) 0 l=none by rw[lim];simp);go_enter func108,ntmps108;go_wp2_with fail;go_ret;rw[HX.out];exact⟨rfl,l,(Below.heap_alloc w _ b hbl).trans aX.out,(fun r h=>by cases h),zmh _ _⟩
 by_cases hl0:l=0
 ·subst hl0;have HX:=zh (show lim (.nd k n s ks) d 0=none by rw[lim];simp);have fd:((d:Int)==0)=false:=by simpa using hd0
  go_enter func108,ntmps108;go_wp2_with fail;go_ret;rw[HX.out];exact⟨rfl,0,(Below.heap_alloc w _ b hbl).trans aX.out,(fun r h=>by cases h),zmh _ _⟩
 obtain⟨d',rfl⟩:∃d',d=d'+1:=⟨d-1,by omega⟩
 obtain⟨l',rfl⟩:∃l',l=l'+1:=⟨l-1,by omega⟩
 have HX:=zh (show lim (.nd k n s ks) (d'+1) (l'+1)=lims ks d' l' by rw[lim,if_neg (by omega)];simp);rw[show((d'+1:Nat):Int)=(d':Int)+1 from rfl];have fd:((d':Int)+1==0)=false:=by simp;omega
 have fl:((l':Int)+1==0)=false:=by simp;omega
 clear hd0 hl0;have hb1:(w.setCell ⟨b,0,none⟩ (.int .i64 (l':Int))).heap[b]?=some (.cells #[.int .i64 (l':Int)] 3 (0,0)):=by
  have h1:=heap_setCell_same w b 0 _ 3 (.int .i64 (l':Int)) aX.out;simpa using h1
 have hz1:(w.setCell ⟨b,0,none⟩ (.int .i64 (l':Int))).heap.size=w.heap.size:=by simp[World.setCell]
 obtain⟨W0,hW0⟩:=zX ((w.setCell ⟨b,0,none⟩ (.int .i64 (l':Int))).alloc (.cells #[.int .u8 k,.int .i64 n,.string s,.slice A ks.length c] 41));have H0:W0.heap[b]?=some (.cells #[.int .i64 (l':Int)] 3 (0,0)):=by
  rw[<-hW0,Below.heap_alloc _ _ b (by rw[hz1];exact hbl)];exact hb1
 have A0:W0.heap[w.heap.size]?=some (.cells #[.int .u8 k,.int .i64 n,.string s,.slice A ks.length c] 41 (0,0)):=by
  rw[<-hW0,<-hz1];exact heap_alloc_new _ _
 have G0:w.grownBy W0 (some b):=by
  rw[<-hW0];refine zm1 (zwh (zm7 w (some b)) (p:=⟨b,0,none⟩) rfl _) (zmh _ _)
 have HH:=zh (And.intro H0 (And.intro A0 G0));have HW0:=zh hW0;clear H0 G0 A0 hb1 hz1 hW0;go_enter func108,ntmps108;go_wp2_with fail;rw[HW0.out];clear c0 f0
 go_loopw [25] (fun i wr=>∃(j lc:Nat),j<=ks.length/\i=.int .i64 j/\lc<=2000/\Hid (lims (ks.take j) d' l'=some lc)/\wr.heap[b]?=some (.cells #[.int .i64 (lc:Int)] 3 (0,0))/\wr.heap[w.heap.size]?=some (.cells #[.int .u8 k,.int .i64 n,.string s,.slice A ks.length c] 41 (0,0))/\w.grownBy wr (some b)) (fun i _=>ks.length-(intOf i).toNat)
 case atStart=>exact⟨0,l',Nat.zero_le _,rfl,by omega,zh (by simp[lims]),HH.out.1,HH.out.2.1,HH.out.2.2⟩
 case round =>
  obtain⟨j,lc,hj,rfl,pq,rF,hbx,hax,hg⟩:=hrel;clear HH HW0;by_cases hlt:j<ks.length
  ·obtain⟨a,t,A1,c1,rfl,_,Ht,⟨q0,q1,q2,q3⟩,hn⟩:=(af.out.grown hg kL.out).nd hlt;have hI:=IH.out ks[j] (List.getElem_mem hlt);rw[Ht.out]at hI;have pM:=zkp hbx;have hal:∀o:Obj,(wr.alloc o).heap[b]?=some (.cells #[.int .i64 (lc:Int)] 3 (0,0)):=fun o=>(Below.heap_alloc wr o b pM).trans hbx;have HI1:=zh (hI d' lc S _ (wr.alloc (.cells #[.int .u8 t.k,.int .i64 t.n,.string t.s,.slice A1 t.ks.length c1] 41)) b (hn.later (zr.alloc zl _)) kL.out (by omega) pq (hal _));have HT:=zh (show lims (ks.take (j+1)) d' l'=lim t d' lc by rw[zug hlt rF.out,Ht.out]);have HG:=zh (zm1 hg (zmh (.cells #[.int .u8 t.k,.int .i64 t.n,.string t.s,.slice A1 t.ks.length c1] 41) _));have HAX:=zh (show ∀o:Obj,(wr.alloc o).heap[w.heap.size]?=some (.cells #[.int .u8 k,.int .i64 n,.string s,.slice (some a) ks.length c] 41 (0,0))from fun o=>(Below.heap_alloc wr o _ (zkp hax)).trans hax)
   clear hI hn hbx hax hal;go_wp2_with fail;refine HI1.out.mono ?_;rintro e w1 ⟨rfl,l1,hb1,hl1,hg1⟩;have yN:=zh (zm1 HG.out hg1);have HA1:=zh ((hg1.block _ (zkp (HAX.out _)) (fun e=>hne' (by injection e))).trans (HAX.out _));have HB1:=zh hb1;clear hb1 hg1
   cases ho:lim t d' lc with
   | none =>
    have bD:=zh (show lims ks d' l'=none from zuh (j:=j+1) (by rw[HT.out,ho]));go_wp2_with fail;go_ret;rw[HX.out,bD.out];exact⟨rfl,l1,HB1.out,(fun r h=>by cases h),yN.out⟩
   | some r =>
    have hr1:=hl1 r ho;subst hr1;have hle:l1<=2000:=by have:=zzA t d' lc l1 ho;omega
    have HT2:=zh (show lims (ks.take (j+1)) d' l'=some l1 by rw[HT.out,ho]);clear hl1 ho;go_wp2_with fail
    go_roundw
    case rel=>exact⟨j+1,l1,by omega,by go_num,hle,HT2,HB1.out,HA1.out,yN.out⟩
    case measure=>simp[intOf];omega
  ·obtain rfl:j=ks.length:=by omega
   have HL2:=zh (show lims ks d' l'=some lc by have:=rF.out;rw[List.take_of_length_le (by omega)]at this;exact this);go_wp2_with fail;go_ret;rw[HX.out,HL2.out];exact⟨rfl,lc,hbx,(fun r h=>by cases h;rfl),hg⟩
def zlG(t:T):Bool:=(lim t 80 2000).isSome&&isB t
theorem zpc(t:T)(v:Value)(w:World)(hv:NV w Any t v):Calls prog 68 #[v] w fun e w'=>e=.returned (.bool (zlG t))/\Below w.heap.size w w':=by
 have HV:=zh hv;have HX:=zh (show zlG t=((lim t 80 2000).isSome&&isB t)from rfl);obtain⟨A,c,rfl,hf,hlk,hlc,hrow⟩:=hv.open_;clear hf hlk hrow hv hlc;generalize t.k=k,t.n=n,t.s=s,t.ks.length=l at *
 have yo:=zh (show NV w (fun b=>b<w.heap.size) t (nv k n s A l c)from HV.out.keep (fun _ _ h=>h) fun _ _ _=>rfl);have hb2:∀o o',Below w.heap.size w ((w.alloc o).alloc o'):=fun o o'=>(zr.alloc zl _).alloc (by simp) _;have HB2:=zh hb2;have aX:=zh (show ∀o:Obj,((w.alloc o).alloc (.cells #[.int .i64 2000] 3)).heap[w.heap.size+1]?=some (.cells #[.int .i64 ((2000:Nat):Int)] 3 (0,0))from fun o=>by
  have:=heap_alloc_new (w.alloc o) (.cells #[.int .i64 2000] 3);simpa using this)
 clear hb2;go_enter func68,ntmps68;go_wp2_with fail;refine(zrg t 80 2000 (fun b=>b<w.heap.size) _ _ (w.heap.size+1) (yo.out.later (HB2.out _ _)) (fun h=>by have h':w.heap.size+1<w.heap.size:=h;omega) (by omega) (by omega) (aX.out _)).mono ?_;rintro e w1 ⟨rfl,l1,hb1,_,hg1⟩;have q1:Below w.heap.size w w1:=by
  refine(HB2.out (.cells #[.int .u8 k,.int .i64 n,.string s,.slice A l c] 41) (.cells #[.int .i64 2000] 3)).grown hg1 (by simp;omega) ?_;intro g e;injection e with e;omega
 have hc:∀i,w1.cell? ⟨w.heap.size,i,none⟩=((w.alloc (.cells #[.int .u8 k,.int .i64 n,.string s,.slice A l c] 41)).alloc (.cells #[.int .i64 2000] 3)).cell? ⟨w.heap.size,i,none⟩:=fun i =>
  World.cell?_of_block (a:=⟨w.heap.size,i,none⟩) (hg1.block _ (by simp;omega) (fun e=>by simp at e))
 have x0:w1.cell? ⟨w.heap.size,0,none⟩=some (.int .u8 k):=(hc 0).trans (by simp);have x1:w1.cell? ⟨w.heap.size,1,none⟩=some (.int .i64 n):=(hc 1).trans (by simp);have x2:w1.cell? ⟨w.heap.size,2,none⟩=some (.string s):=(hc 2).trans (by simp);have x3:w1.cell? ⟨w.heap.size,3,none⟩=some (.slice A l c):=(hc 3).trans (by simp);have eY:=HX.out;clear hc hg1 hb1
 cases ho:(lim t 80 2000).isSome
 ·rw[ho]at eY;go_wp2_with fail;go_ret;exact⟨by rw[eY];rfl,q1⟩
 ·rw[ho]at eY;have bD:=zh eY;clear eY;go_wp2_with fail;refine(zrA t _ _ (HV.out.later q1)).mono ?_;rintro e w2 ⟨rfl,au⟩;go_wp2_with fail;go_ret;exact⟨by rw[bD.out];simp,q1.trans (au.mono q1.size)⟩
def zmn(v:VD):Bool:=zml v.s&&(if v.k=1\/v.k=3 then v.n==0 else if v.k=2 then decide (1<=v.n/\v.n<=16)else false)
theorem zw9{vs:List VD}{f:VD->Bool}{j:Nat}(hj:j<vs.length)(h:(vs.take j).all f=true):(vs.take (j+1)).all f=f vs[j]:=by
 rw[List.take_succ_eq_append_getElem hj,List.all_append,h];simp
theorem zxa{vs:List VD}{f:VD->Bool}{j:Nat}(hj:j<vs.length)(h:f vs[j]=false):vs.all f=false:=by
 simp only[List.all_eq_false];exact⟨vs[j],List.getElem_mem hj,by simp[h]⟩
theorem znR(vs:List VD)(A:Option Addr)(c:Nat)(S:Nat->Prop)(w:World)(hrow:RowV w S A vs)(hl:vs.length<=LV)(_hlc:vs.length<=c) :
  Calls prog 66 #[.slice A vs.length c] w fun e w'=>e=.returned (.bool (vs.all zmn))/\Below w.heap.size w w':=by
 have hl':=zlc hl;have af:=zh hrow;clear hrow hl;go_enter func66,ntmps66;go_wp2_with fail
 go_loopw [7] (fun i wr=>∃j:Nat,j<=vs.length/\i=.int .i64 j/\Below w.heap.size w wr/\Hid ((vs.take j).all zmn=true)) (fun i _=>vs.length-(intOf i).toNat)
 case atStart=>exact⟨0,Nat.zero_le _,rfl,zr,zh (by simp)⟩
 case round =>
  obtain⟨j,hj,rfl,hb,HA⟩:=hrel;by_cases hlt:j<vs.length
  ·obtain⟨a,v,rfl,_,Hv,⟨q0,q1,q2⟩,hf⟩:=(af.out.later hb).nd hlt;have HT:=zh (show(vs.take (j+1)).all zmn=zmn v by rw[zw9 hlt HA.out,Hv.out]);have HN:=zh (show zmn v=false->vs.all zmn=false from fun h=>zxa hlt (by rw[Hv.out];exact h));have HD:=zh (show zmn v=(zml v.s&&(if v.k=1\/v.k=3 then v.n==0 else if v.k=2 then decide (1<=v.n/\v.n<=16)else false))from rfl);obtain⟨s,hs⟩:=zX (v.s);obtain⟨k,hk⟩:=zX (v.k);obtain⟨n,hn⟩:=zX (v.n);have dV:=HD.out;rw[hs,hk,hn]at dV;rw[hs]at q0;rw[hk]at q1;rw[hn]at q2;clear HD hf hs hk hn;have HD:=zh dV;clear dV;go_wp2_with fail;refine(zp2 s _).mono ?_;rintro e w1 ⟨rfl,ae⟩;have q1':Below w.heap.size w w1:=(hb.alloc hb.size _).trans (ae.mono (by have:=hb.size;simp;omega));have x1:w1.cell? ⟨wr.heap.size,1,none⟩=some (.int .u8 k):=zb ae (by simp);have x2:w1.cell? ⟨wr.heap.size,2,none⟩=some (.int .i64 n):=zb ae (by simp)
   have dV:=HD.out;clear ae
   cases hnm:zml s
   ·rw[hnm]at dV;have HR:=zh (HN.out (by rw[dV];rfl));clear dV;go_wp2_with fail;go_ret;exact⟨by rw[HR.out];rfl,q1'⟩
   rw[hnm,Bool.true_and]at dV;by_cases lJ:k=1\/k=3
   ·rw[if_pos lJ]at dV;by_cases hn0:n=0
    ·subst hn0;have HG:=zh (show(vs.take (j+1)).all zmn=true by rw[HT.out,dV];rfl);clear dV;rcases lJ with rfl|rfl
     ·go_wp2_with fail
      go_roundw
      case rel=>exact⟨j+1,by omega,by go_num,q1',HG⟩
      case measure=>simp[intOf];omega
     ·go_wp2_with fail
      go_roundw
      case rel=>exact⟨j+1,by omega,by go_num,q1',HG⟩
      case measure=>simp[intOf];omega
    ·have fn:(n != 0)=true:=by simpa using hn0
     have HR:=zh (HN.out (by rw[dV];simpa using hn0));clear dV;rcases lJ with rfl|rfl
     ·go_wp2_with fail;go_ret;exact⟨by rw[HR.out];rfl,q1'⟩
     ·go_wp2_with fail;go_ret;exact⟨by rw[HR.out];rfl,q1'⟩
   ·rw[if_neg lJ]at dV;have f1:(k==1)=false:=by simp;omega
    have f3:(k==3)=false:=by simp;omega
    by_cases h2:k=2
    ·subst h2;rw[if_pos rfl]at dV;by_cases hl1:n<1
     ·have HR:=zh (HN.out (by rw[dV];simp;omega));clear dV;go_wp2_with fail;go_ret;exact⟨by rw[HR.out];rfl,q1'⟩
     ·by_cases hg16:16<n
      ·have HR:=zh (HN.out (by rw[dV];simp;omega));have sN:1<=n:=by omega
       clear dV hl1;go_wp2_with fail;go_ret;exact⟨by rw[HR.out];rfl,q1'⟩
      ·have HG:=zh (show(vs.take (j+1)).all zmn=true by rw[HT.out,dV];simp;omega);have sN:1<=n:=by omega
       have hg16':n<=16:=by omega
       clear dV hl1 hg16;go_wp2_with fail
       go_roundw
       case rel=>exact⟨j+1,by omega,by go_num,q1',HG⟩
       case measure=>simp[intOf];omega
    ·rw[if_neg h2]at dV;have f2:(k==2)=false:=by simpa using h2
     have HR:=zh (HN.out dV);clear dV;go_wp2_with fail;go_ret;exact⟨by rw[HR.out];rfl,q1'⟩
  ·obtain rfl:j=vs.length:=by omega
   have HR:=zh (show vs.all zmn=true by have:=HA.out;rw[List.take_of_length_le (by omega)]at this;exact this);go_wp2_with fail;go_ret;exact⟨by rw[HR.out];rfl,hb⟩
def zoK(r:PR):Bool:=zml r.s&&decide (r.ps.length<=8)&&r.ps.all zmn&&zlG r.b
def zlk(p:PG):Bool:=decide (p.vs.length<=32)&&decide (p.prs.length<=64)&&p.vs.all zmn&&p.prs.all zoK&&zlG p.m
theorem ztW{vs:List PR}{f:PR->Bool}{j:Nat}(hj:j<vs.length)(h:(vs.take j).all f=true):(vs.take (j+1)).all f=f vs[j]:=by
 rw[List.take_succ_eq_append_getElem hj,List.all_append,h];simp
theorem ztX{vs:List PR}{f:PR->Bool}{j:Nat}(hj:j<vs.length)(h:f vs[j]=false):vs.all f=false:=by
 simp only[List.all_eq_false];exact⟨vs[j],List.getElem_mem hj,by simp[h]⟩
theorem zqR(p:PG)(S:Nat->Prop)(v:Value)(w:World)(hv:PV w S p v):Calls prog 25 #[v] w fun e w'=>e=.returned (.bool (zlk p))/\Below w.heap.size w w':=by
 obtain⟨A1,c1,A2,c2,A3,c3,rfl,hr⟩:=hv;have HR:=zh hr;have hv1:=zlc hr.lv;have hv2:=zlc hr.lp;have HX:=zh (show zlk p=(decide (p.vs.length<=32)&&decide (p.prs.length<=64)&&p.vs.all zmn&&p.prs.all zoK&&zlG p.m)from rfl);have pq:=hr.lpc;obtain⟨L1,hL1⟩:=zX (p.vs.length);obtain⟨L2,hL2⟩:=zX (p.prs.length);obtain⟨k,hk⟩:=zX (p.m.k);obtain⟨n,hn⟩:=zX (p.m.n);obtain⟨s,hs⟩:=zX (p.m.s);obtain⟨l3,hl3⟩:=zX (p.m.ks.length);have iH:=zh hL1;have HL2:=zh hL2;have hm:=hr.main;rw[hk,hn,hs,hl3]at hm;have HM:=zh hm;have hx:=HX.out;rw[hL1,hL2]at hx;rw[hL1]at hv1;rw[hL2]at hv2 pq;rw[hL1,hL2,hk,hn,hs,hl3];clear hr hm HX hL1 hL2 hk hn hs hl3;have HX:=zh hx;clear hx;have hb0:∀o,Below w.heap.size w (w.alloc o):=fun o=>zr.alloc zl _;have HB0:=zh hb0;clear hb0
 have uO:=zh (show ∀w',Below w.heap.size w w'->Calls prog 66 #[.slice A1 L1 c1] w' fun e w''=>e=.returned (.bool (p.vs.all zmn))/\Below w'.heap.size w' w'' from fun w' h=>by
  have:=znR p.vs A1 c1 S w' (HR.out.vars.later h) HR.out.lv HR.out.lvc;rw[iH.out]at this;exact this)
 by_cases h32:32<L1
 ·have HF:=zh (show zlk p=false by rw[HX.out];simp;intro h;omega);have h32':(32:Int)<(L1:Int):=by omega
  go_enter func25,ntmps25;go_wp2_with fail;go_ret;exact⟨by rw[HF.out];rfl,HB0.out _⟩
 by_cases h64:64<L2
 ·have HF:=zh (show zlk p=false by rw[HX.out];simp;intro _ h;omega);have h32':(L1:Int)<=32:=by omega
  have h64':(64:Int)<(L2:Int):=by omega
  clear h32;go_enter func25,ntmps25;go_wp2_with fail;go_ret;exact⟨by rw[HF.out];rfl,HB0.out _⟩
 have h32':(L1:Int)<=32:=by omega
 have h64':(L2:Int)<=64:=by omega
 have hx:=HX.out;have e1:L1<=32:=by omega
 have e2:L2<=64:=by omega
 rw[decide_eq_true e1,decide_eq_true e2]at hx;simp only[Bool.true_and]at hx;clear HX h32 h64 e1 e2;have HX:=zh hx;clear hx;go_enter func25,ntmps25;go_wp2_with fail;refine(uO.out _ (HB0.out _)).mono ?_;rintro e w1 ⟨rfl,ae⟩;have q1:Below w.heap.size w w1:=(HB0.out _).trans (ae.mono (by simp));have hbx:w1.heap[w.heap.size]?=some (.cells #[.slice A1 L1 c1,.slice A2 L2 c2,.int .u8 k,.int .i64 n,.string s,.slice A3 l3 c3] 43 (0,0)):=(ae.block _ (by simp)).trans (heap_alloc_new w _);have x1:w1.cell? ⟨w.heap.size,1,none⟩=some (.slice A2 L2 c2):=zc hbx rfl;have hx:=HX.out;clear ae uO
 cases hd:p.vs.all zmn
 ·rw[hd]at hx;have HF:=zh (show zlk p=false by rw[hx];rfl);clear hx;go_wp2_with fail;go_ret;exact⟨by rw[HF.out];rfl,q1⟩
 rw[hd,Bool.true_and]at hx;have bD:=zh hx;have aX:=zh hbx;clear hx HX hd hbx;go_wp2_with fail
 go_loopw [24] (fun i wr=>∃j:Nat,j<=L2/\i=.int .i64 j/\Below w1.heap.size w1 wr/\Hid ((p.prs.take j).all zoK=true)) (fun i _=>L2-(intOf i).toNat)
 case atStart=>exact⟨0,Nat.zero_le _,rfl,zr,zh (by simp)⟩
 case round =>
  obtain⟨j,hj,rfl,hb,HA⟩:=hrel;have hq:Below w.heap.size w wr:=q1.trans (hb.mono q1.size);by_cases hlt:j<L2
  ·have hlt':j<p.prs.length:=by rw[HL2.out];exact hlt
   obtain⟨a,r,B1,d1,B2,d2,rfl,_,Hr,⟨z0,z1,z2,z3,z4,z5⟩,hrr⟩:=(HR.out.procs.later hq).nd hlt';have HRR:=zh hrr;have HT:=zh (show(p.prs.take (j+1)).all zoK=zoK r by rw[ztW hlt' HA.out,Hr.out]);have HN:=zh (show zoK r=false->zlk p=false from fun h=>by rw[bD.out,ztX hlt' (by rw[Hr.out];exact h)];rfl);have xh:=zh (show zoK r=(zml r.s&&decide (r.ps.length<=8)&&r.ps.all zmn&&zlG r.b)from rfl);have hd1:=zlc hrr.lp;clear hrr;have uO:=zh (show ∀w',Below wr.heap.size wr w'->Calls prog 66 #[.slice B1 r.ps.length d1] w' fun e w''=>e=.returned (.bool (r.ps.all zmn))/\Below w'.heap.size w' w'' from fun w' h=>znR r.ps B1 d1 S w' (HRR.out.row.later h) HRR.out.lp HRR.out.lc);have gM:=zh (show ∀w',Below wr.heap.size wr w'->NV w' Any r.b (nv r.b.k r.b.n r.b.s B2 r.b.ks.length d2)from fun w' h=>(HRR.out.body.later h).any);obtain⟨rs,hrs⟩:=zX (r.s)
   obtain⟨rl,hrl⟩:=zX (r.ps.length);obtain⟨bk,hbk⟩:=zX (r.b.k);obtain⟨bn,hbn⟩:=zX (r.b.n);obtain⟨bs,hbs⟩:=zX (r.b.s);obtain⟨bl,hbl⟩:=zX (r.b.ks.length);have hpb:=xh.out;have zY:=uO.out;have hbd:=gM.out;rw[hrs]at z0 hpb;rw[hrl]at z1 hpb zY hd1;rw[hbk]at z2 hbd;rw[hbn]at z3 hbd;rw[hbs]at z4 hbd;rw[hbl]at z5 hbd;clear xh uO gM HRR hrs hrl hbk hbn hbs hbl;have xh:=zh hpb;have uO:=zh zY;have gM:=zh hbd;clear hpb zY hbd;go_wp2_with fail;refine(zp2 rs _).mono ?_;rintro e w2 ⟨rfl,au⟩;have b2:Below wr.heap.size wr w2:=zAB au;have hbx:w2.heap[wr.heap.size]?=some (.cells #[.string rs,.slice B1 rl d1,.int .u8 bk,.int .i64 bn,.string bs,.slice B2 bl d2] 75 (0,0)):=(au.block _ (by simp)).trans (heap_alloc_new wr _);have u1:w2.cell? ⟨wr.heap.size,1,none⟩=some (.slice B1 rl d1):=zc hbx rfl;have hpb:=xh.out;clear au
   cases hnm:zml rs
   ·rw[hnm]at hpb;have HF:=zh (HN.out (by rw[hpb];rfl));clear hpb;go_wp2_with fail;go_ret;exact⟨by rw[HF.out];rfl,hq.trans (b2.mono hq.size)⟩
   rw[hnm,Bool.true_and]at hpb;by_cases h8:8<rl
   ·have HF:=zh (HN.out (by rw[hpb];simp;intro h;omega));have h8':(8:Int)<(rl:Int):=by omega
    clear hpb;go_wp2_with fail;go_ret;exact⟨by rw[HF.out];rfl,hq.trans (b2.mono hq.size)⟩
   rw[decide_eq_true (show rl<=8 by omega),Bool.true_and]at hpb;have h8':(rl:Int)<=8:=by omega
   have ow:=zh hpb;have HBX2:=zh hbx;clear hpb xh h8 hbx;go_wp2_with fail;refine(uO.out _ b2).mono ?_;rintro e w3 ⟨rfl,bW⟩;have b3:=b2.trans (bW.mono b2.size);have hbx:w3.heap[wr.heap.size]?=some (.cells #[.string rs,.slice B1 rl d1,.int .u8 bk,.int .i64 bn,.string bs,.slice B2 bl d2] 75 (0,0)):=(bW.block _ (zkp HBX2.out)).trans HBX2.out;have u2:w3.cell? ⟨wr.heap.size,2,none⟩=some (.int .u8 bk):=zc hbx rfl;have u3:w3.cell? ⟨wr.heap.size,3,none⟩=some (.int .i64 bn):=zc hbx rfl;have u4:w3.cell? ⟨wr.heap.size,4,none⟩=some (.string bs):=zc hbx rfl;have u5:w3.cell? ⟨wr.heap.size,5,none⟩=some (.slice B2 bl d2):=zc hbx rfl;have hpb:=ow.out;clear bW u1 hbx
   cases hdd:r.ps.all zmn
   ·rw[hdd]at hpb;have HF:=zh (HN.out (by rw[hpb];rfl));clear hpb;go_wp2_with fail;go_ret;exact⟨by rw[HF.out];rfl,hq.trans (b3.mono hq.size)⟩
   rw[hdd,Bool.true_and]at hpb;have HPD:=zh hpb;clear hpb ow hdd;go_wp2_with fail;refine(zpc r.b _ _ (gM.out _ b3)).mono ?_;rintro e w4 ⟨rfl,wR⟩;have b4:=b3.trans (wR.mono b3.size);have hpb:=HPD.out;clear wR u2 u3 u4 u5
   cases hbb:zlG r.b
   ·rw[hbb]at hpb;have HF:=zh (HN.out hpb);clear hpb;go_wp2_with fail;go_ret;exact⟨by rw[HF.out];rfl,hq.trans (b4.mono hq.size)⟩
   ·rw[hbb]at hpb;have HG:=zh (show(p.prs.take (j+1)).all zoK=true by rw[HT.out];exact hpb);have HQ4:=zh (hb.trans (b4.mono hb.size));clear hpb;go_wp2_with fail
    go_roundw
    case rel=>exact⟨j+1,by omega,by go_num,HQ4.out,HG⟩
    case measure=>simp[intOf];omega
  ·obtain rfl:j=L2:=by omega
   have HF:=zh (show zlk p=zlG p.m by rw[bD.out];have:=HA.out;rw[List.take_of_length_le (by rw[HL2.out];omega)]at this;rw[this];rfl);have hbx:wr.heap[w.heap.size]?=some (.cells #[.slice A1 L1 c1,.slice A2 j c2,.int .u8 k,.int .i64 n,.string s,.slice A3 l3 c3] 43 (0,0)):=(hb.block _ (zkp aX.out)).trans aX.out;have y2:wr.cell? ⟨w.heap.size,2,none⟩=some (.int .u8 k):=zc hbx rfl;have y3:wr.cell? ⟨w.heap.size,3,none⟩=some (.int .i64 n):=zc hbx rfl;have y4:wr.cell? ⟨w.heap.size,4,none⟩=some (.string s):=zc hbx rfl;have y5:wr.cell? ⟨w.heap.size,5,none⟩=some (.slice A3 l3 c3):=zc hbx rfl;go_wp2_with fail;refine(zpc p.m _ _ (HM.out.later hq).any).mono ?_;rintro e w2 ⟨rfl,au⟩;go_wp2_with fail;go_ret;exact⟨by rw[HF.out];rfl,hq.trans (au.mono hq.size)⟩
def zmy(vs:List VD)(s:ByteArray):Int:=if (zlw vs s).isSome then 22 else 0
def useE(vs:List VD)(s:ByteArray)(k:Int):Int:=match zlw vs s with
 | none=>6
 | some v=>if v.k=k then 0 else 7
theorem zou(vs:List VD)(A:Option Addr)(c:Nat)(s:ByteArray)(S:Nat->Prop)(w:World)(hrow:RowV w S A vs)(hl:vs.length<=LV) :
  Calls prog 71 #[.slice A vs.length c,.string s] w fun e w'=>e=.returned (.int .i64 (zmy vs s))/\Below w.heap.size w w':=by
 have af:=zh hrow;have HL:=zh hl;obtain⟨E,hE⟩:=zX (zmy vs s);rw[hE];have HE:=zh hE;clear hrow hl hE;go_enter func71,ntmps71;go_wp2_with fail;refine(zn9 vs A c s S _ af.out HL.out).mono ?_;rintro e w1 ⟨rfl,ae⟩
 cases hf:zlw vs s with
 | none =>
  have HN:=zh (show E=0 by rw[<-HE.out];simp[zmy,hf]);have HB:=zh (show Below w.heap.size w (w1.alloc (.cells #[.string ⟨#[]⟩,.int .u8 0,.int .i64 0] 57))from ae.alloc ae.size _);clear hf ae;go_wp2_with fail;go_ret;exact⟨by rw[HN.out];rfl,HB.out⟩
 | some v =>
  have HN:=zh (show E=22 by rw[<-HE.out];simp[zmy,hf]);have HB:=zh (show Below w.heap.size w (w1.alloc (.cells #[.string v.s,.int .u8 v.k,.int .i64 v.n] 57))from ae.alloc ae.size _);clear hf ae;go_wp2_with fail;go_ret;exact⟨by rw[HN.out];rfl,HB.out⟩
theorem znu(vs:List VD)(A:Option Addr)(c:Nat)(s:ByteArray)(k:Int)(S:Nat->Prop)(w:World)(hrow:RowV w S A vs)(hl:vs.length<=LV) :
  Calls prog 149 #[.slice A vs.length c,.string s,.int .u8 k] w fun e w'=>e=.returned (.int .i64 (useE vs s k))/\Below w.heap.size w w':=by
 have af:=zh hrow;have HL:=zh hl;obtain⟨E,hE⟩:=zX (useE vs s k);rw[hE];have HE:=zh hE;clear hrow hl hE;go_enter func149,ntmps149;go_wp2_with fail;refine(zn9 vs A c s S _ af.out HL.out).mono ?_;rintro e w1 ⟨rfl,ae⟩
 cases hf:zlw vs s with
 | none =>
  have HN:=zh (show E=6 by rw[<-HE.out];simp[useE,hf]);have HB:=zh (show Below w.heap.size w (w1.alloc (.cells #[.string ⟨#[]⟩,.int .u8 0,.int .i64 0] 57))from ae.alloc ae.size _);clear hf ae;go_wp2_with fail;go_ret;exact⟨by rw[HN.out];rfl,HB.out⟩
 | some v =>
  obtain⟨vm,vk,vl⟩:=v;have HB2:=zh (show Below w.heap.size w (w1.alloc (.cells #[.string vm,.int .u8 vk,.int .i64 vl] 57))from ae.alloc ae.size _);have HN:=zh (show E=if vk=k then 0 else 7 by rw[<-HE.out];simp[useE,hf]);clear hf ae;by_cases hk:vk=k
  ·have e1:(vk==k)=true:=by simpa using hk
   have e2:(vk != k)=false:=by simpa using hk
   have aI:=zh (show E=0 by rw[HN.out,if_pos hk]);clear hk;go_wp2_with fail;go_ret;exact⟨by rw[aI.out];rfl,HB2.out⟩
  ·have e1:(vk==k)=false:=by simpa using hk
   have e2:(vk != k)=true:=by simpa using hk
   have aI:=zh (show E=7 by rw[HN.out,if_neg hk]);clear hk;go_wp2_with fail;go_ret;exact⟨by rw[aI.out];rfl,HB2.out⟩
def idxP(ps:List PR)(s:ByteArray):Option Nat:=ps.findIdx? fun r=>r.s.toList==s.toList
def zlF(ps:List PR)(s:ByteArray):Int:=match idxP ps s with
 | some i=>i
 | none => -1
theorem zvk(rs:ByteArray)(u1 u2 u3 u4 u5:Value)(s:ByteArray)(nb:Nat)(w:World)(hc:w.cell? ⟨nb,0,none⟩=some (.string s)) :
  Calls prog 112 #[.agg #[.string rs,u1,u2,u3,u4,u5],.pointer (some ⟨nb,0,none⟩)] w fun e w'=>e=.returned (.bool (rs.toList==s.toList))/\Below w.heap.size w w':=by
 have hc':=zks hc;go_enter func112,ntmps112;go_wp2_with fail;go_ret;exact⟨rfl,zr.alloc zl _⟩
theorem zoM(ps:List PR)(A:Option Addr)(c:Nat)(s:ByteArray)(nb:Nat)(S:Nat->Prop)(w:World)(hrow:RowP w S A ps)(hl:ps.length<=LV)(hc:w.cell? ⟨nb,0,none⟩=some (.string s)) :
  Calls prog 111 #[.slice A ps.length c,.func (.func 112) #[] #[.pointer (some ⟨nb,0,none⟩)]] w fun e w'=>e=.returned (.int .i64 (zlF ps s))/\Below w.heap.size w w':=by
 have hl':=zlc hl;have af:=zh hrow;have HC:=zh hc;obtain⟨R,hR⟩:=zX (zlF ps s);rw[hR];have HR:=zh hR;clear hrow hl hc hR;go_enter func111,ntmps111;go_wp2_with fail
 go_loopw [8] (fun i wr=>∃j:Nat,j<=ps.length/\i=.int .i64 j/\Below w.heap.size w wr/\Hid (∀q (h:q<ps.length),q<j->(ps[q].s.toList==s.toList)=false)) (fun i _=>ps.length-(intOf i).toNat)
 case atStart=>exact⟨0,Nat.zero_le _,rfl,zr,zh fun q _ h=>by omega⟩
 case round =>
  obtain⟨j,hj,rfl,hbl,HJ⟩:=hrel;by_cases hlt:j<ps.length
  ·obtain⟨a,r,B1,f1,B2,f2,rfl,_,Hr,⟨q0,q1,q2,q3,q4,q5⟩,-⟩:=(af.out.later hbl).nd hlt;obtain⟨b,hb⟩:=zX ((r.s.toList==s.toList));have HB:=zh hb;clear hb;go_wp2_with fail;refine(zvk r.s _ _ _ _ _ s nb _ (zb hbl HC.out)).mono ?_;rintro e w1 ⟨rfl,ae⟩;rw[HB.out];have ah:=zh (zkb hbl ae);clear ae q0 q1 q2 q3 q4 q5
   cases b
   ·have HJ2:=zh (show ∀q (h:q<ps.length),q<j+1->(ps[q].s.toList==s.toList)=false from fun q h hq=>by
     by_cases e:q<j
     ·exact HJ.out q h e
     ·obtain rfl:q=j:=by omega
      rw[Hr.out];exact HB.out)
    go_wp2_with fail
    go_roundw
    case rel=>exact⟨j+1,by omega,by go_num,ah.out,HJ2⟩
    case measure=>simp[intOf];omega
   ·have HN:=zh (show R=j by
     rw[<-HR.out];have:idxP ps s=some j:=List.findIdx?_eq_some_iff_getElem.2 ⟨hlt,by rw[Hr.out];exact HB.out,fun q hq=>by rw[HJ.out q (by omega) hq];simp⟩;simp[zlF,this])
    go_wp2_with fail;go_ret;exact⟨by rw[HN.out];rfl,ah.out⟩
  ·have HN:=zh (show R = -1 by
    rw[<-HR.out];have:idxP ps s=none:=List.findIdx?_eq_none_iff.2 fun r hr=>by
     obtain⟨q,hq,rfl⟩:=List.getElem_of_mem hr;exact HJ.out q hq (by omega)
    simp[zlF,this])
   have ah:=zh hbl;clear hbl;go_wp2_with fail;go_ret;exact⟨by rw[HN.out];rfl,ah.out⟩
theorem znm(p:PG)(S:Nat->Prop)(v:Value)(s:ByteArray)(w:World)(hv:PV w S p v):Calls prog 72 #[v,.string s] w fun e w'=>e=.returned (.int .i64 (zlF p.prs s))/\Below w.heap.size w w':=by
 obtain⟨A1,c1,A2,c2,A3,c3,rfl,hr⟩:=hv;have HR:=zh hr;obtain⟨L1,hL1⟩:=zX (p.vs.length);rw[hL1];clear hr hL1;go_enter func72,ntmps72;go_wp2_with fail;refine(zoM p.prs A2 c2 s (w.heap.size+1) S _ (HR.out.procs.later (zka (zka zr _) _)) HR.out.lp (by simp)).mono ?_;rintro e w1 ⟨rfl,ae⟩;have HB:=zh (zkb (zka (zka (zs w) _) _) ae);clear ae;go_wp2_with fail;go_ret;exact⟨rfl,HB.out⟩
end
section
open Go Go.RowKit
theorem zpD:∀(prs:List PR) (s:ByteArray) (i:Nat),prcI prs s=some i->zlF prs s=(i:Int)/\i<prs.length
 | [],_,_,h=>by simp[prcI]at h
 | q::qs,s,i,h=>by
  unfold prcI at h;unfold zlF idxP;rw[List.findIdx?_cons]
  split at h
  ·rename_i h0;injection h with h;subst h;rw[if_pos h0];exact⟨rfl,by simp⟩
  ·rename_i h0;rw[if_neg h0];obtain⟨j,hj,rfl⟩:=Option.map_eq_some_iff.1 h;have h5:=zpD qs s j hj;unfold zlF idxP at h5
   cases hf:List.findIdx? (fun r=>r.s.toList==s.toList) qs with
   | none =>
    rw[hf]at h5;have h6:(-1:Int)=(j:Int):=h5.1;omega
   | some m =>
    rw[hf]at h5;have h6:(m:Int)=(j:Int):=h5.1;exact⟨by show((m+1:Nat):Int)=((j+1:Nat):Int);omega,by have:=h5.2;simp;omega⟩
def strA(l:List ByteArray):Array Value:=(l.map Value.string).toArray
theorem zzq:(prog.info? 9).map (fun i=>(i.zero,i.size,i.bytes))=some (some (.string ⟨#[]⟩),1,16):=by kernel_rfl
theorem zwn(n:Nat):madeCells (Value.string ⟨#[]⟩).cells (n*1)=strA (List.replicate n ⟨#[]⟩):=by
 unfold strA;apply Array.ext';apply List.ext_getElem
 ·rw[Array.length_toList,size_madeCells];simp
 ·intro i h1 h2;have e:i % 1=0:=by omega
  simp[madeCells,Value.cells,e]
theorem zz0(n:Nat)(hn:n<=17592186044416)(w:World):(Instr.makeSlice 227 (.int .i64 (n:Int)) (.int .i64 (n:Int))).run prog w=.ok (.slice (some ⟨w.heap.size,0,none⟩) n n) (w.alloc (.cells (strA (List.replicate n ⟨#[]⟩)) 9)):=by
 have h:=zzq;obtain⟨i,hi,hz⟩:=Option.map_eq_some_iff.1 h;injection hz with h1 h2;injection h2 with h2 h3;have:=zll (P:=prog) 227 9 i (.string ⟨#[]⟩) underlying227 hi h1 .i64 .i64 n n zl (by rw[h3];omega) (by omega) w;rw[h2,zwn]at this;exact this
def argL(ks:List T)(j:Nat):List ByteArray:=(ks.take j).map (·.s)++List.replicate (ks.length-j) ⟨#[]⟩
theorem zxV(ks:List T):argL ks 0=List.replicate ks.length ⟨#[]⟩:=by simp[argL]
theorem zw8(ks:List T):argL ks ks.length=ks.map (·.s):=by simp[argL]
theorem zw7(ks:List T){j:Nat}(hj:j<=ks.length):(argL ks j).length=ks.length:=by simp[argL];omega
theorem zw6(ks:List T){j:Nat}(hj:j<ks.length):(strA (argL ks j)).setIfInBounds j (.string ks[j].s)=strA (argL ks (j+1)):=by
 unfold strA;rw[List.setIfInBounds_toArray,<-List.map_set];congr 2;unfold argL;refine List.ext_getElem (by simp;omega) fun i h1 h2=>?_;rw[List.getElem_set];simp only[List.length_append,List.length_map,List.length_take,List.length_replicate,List.length_set]at h1 h2;by_cases e:j=i
 ·subst e;rw[if_pos rfl,List.getElem_append_left (by simp;omega)];simp
 ·rw[if_neg e];by_cases hi:i<j
  ·rw[List.getElem_append_left (by simp;omega),List.getElem_append_left (by simp;omega)];simp
  ·rw[List.getElem_append_right (by simp;omega),List.getElem_append_right (by simp;omega)];simp
theorem zvZ{W:World}{b:Nat}{E:TypeId}{l:List ByteArray}(h:W.heap[b]?=some (.cells (strA l) E (0,0))):RowS W (some ⟨b,0,none⟩) l:=fun i hi=>by
 have ha:(⟨b,0,none⟩:Addr).add i=⟨b,i,none⟩:=by rw[Addr.add_lit,Nat.zero_add]
 refine⟨⟨b,0,none⟩,rfl,?_⟩;rw[ha];simp only[World.cell?,h];simp[strA,hi]
theorem RI.count{C:RC}(hC:C.Ok){W:World}{r:RS}(h:RI C W r){i:Nat}(hi:i<r.ent.length)(hn:r.ent.getD i 0+1<=r.n) :
  ∃g c,C.ev=.slice (some ⟨g,0,none⟩) r.ent.length c/\W.cell? ⟨g,i,none⟩=some (.int .i64 (r.ent.getD i 0:Nat))/\W.frozen? ⟨g,i,none⟩=false /\
   RI C (W.setCell ⟨g,i,none⟩ (.int .i64 ((r.ent.getD i 0+1:Nat):Int))) { r with ent:=r.ent.set i (r.ent.getD i 0+1) }/\Kpt C.n0 C.kb W (W.setCell ⟨g,i,none⟩ (.int .i64 ((r.ent.getD i 0+1:Nat):Int))):=by
 obtain⟨e1,h2⟩:=h.ent;rcases h2 with h2|⟨g,cap,cur,hev,hb,hg,hcap,hlen,hsz,ky⟩
 ·have hn0:r.ent.length=0:=h2.2;omega
 ·have hcz:cur[i]?=some (.int .i64 (r.ent.getD i 0:Nat)):=by
   have h3:(zkg (r.ent.map Int.ofNat))[i]?=some (.int .i64 (r.ent.getD i 0:Nat)):=by simp[zkg,hi]
   rw[<-ky,List.getElem?_take]at h3
   split at h3
   ·simpa using h3
   ·cases h3
  have hci:i<cur.size:=by
   rcases Nat.lt_or_ge i cur.size with h|h
   ·exact h
   ·rw[Array.getElem?_eq_none h]at hcz;cases hcz
  have hrb:g≠C.rb:=fun e=>hC.ev.1 (by rw[hev,<-e];rfl);have hkb:¬ C.kb g:=hC.ev.2 g (by rw[hev];rfl);have hch:Chg (fun b=>b=g) W (W.setCell ⟨g,i,none⟩ (.int .i64 ((r.ent.getD i 0+1:Nat):Int))):=(Chg.refl (fun b=>b=g) W).setCell (p:=⟨g,i,none⟩) (.inl rfl) _;have hnn:=h.ks.hn;refine⟨g,cap,hev,zc hg hcz,zf hg,⟨h.ks.chg hch fun b _ e=>⟨by omega,.inr (.inr (.inr (by rw[hev,e];rfl)))⟩,?_,?_,by simp[h.el],?_,h.n,h.fb⟩,Kpt.chg hch fun b e=>⟨by omega,by rw[e];exact hkb⟩⟩
  ·rw[Below.heap_setCell _ _ _ _ (fun e=>hrb (by simpa using e.symm))];exact h.box
  ·have hs:=heap_setCell_same W g i _ _ (.int .i64 ((r.ent.getD i 0+1:Nat):Int)) hg;refine⟨by simp[zkg],.inr ⟨g,cap,_,by rw[hev];simp,hb,hs,by simpa using hcap,by simpa using hlen,by simpa using hsz,?_⟩⟩;have e2:((cur.setIfInBounds i (.int .i64 ((r.ent.getD i 0+1:Nat):Int))).toList.take ((r.ent.set i (r.ent.getD i 0+1)).length*1))=(cur.toList.take (r.ent.length*1)).set i (.int .i64 ((r.ent.getD i 0+1:Nat):Int)):=by
    rw[Array.toList_setIfInBounds,List.length_set,List.take_set]
   rw[e2,ky];simp[zkg,List.map_set]
  ·intro c hc;rcases List.mem_or_eq_of_mem_set hc with hc|rfl
   ·exact h.en c hc
   ·exact hn
theorem zwM:IsFn prog 203 f203:=⟨func203,by kernel_rfl,by kernel_rfl⟩
def caR(prs:List PR)(F:Int)(g:Nat)(back:Bool)(i:Nat)(b:T)(r:RS):Out :=
 (zlb (zkB prs F g back) (blkL back b) { r with ent:=r.ent.set i (r.ent.getD i 0+1) }).bind fun r=>(zkE F r).bind fun r=>zkl r (zl1 r.S)
def caO(prs:List PR)(F:Int)(g:Nat)(back:Bool)(i:Nat)(q:PR)(ss:List ByteArray)(r:RS):Out :=
 (zkE F r).bind fun r=>(zkl r (zlQ r.S q.ps ss)).bind (caR prs F g back i q.b)
theorem zn6{G:List PR->T->Prop}{g:Nat}(hS:IStC G g){C:RC}(hC:C.Ok){W:World}{r:RS}(h:RI C W r)(t:T)(v:Value)(back:Bool)(hv:NV C.w Any t v)(i:Nat)(hi:prcI C.p.prs t.s=some i)(q:PR)(hq:C.p.prs[i]?=some q)(hG1:∀u∈q.b.ks,G C.p.prs u)
  (aD:caO C.p.prs C.F g back i q (t.ks.map (·.s)) r ≠ .gas) :
  Calls prog 183 #[.pointer (some ⟨C.rb,0,none⟩),v,.bool back] W (RunP C W (caO C.p.prs C.F g back i q (t.ks.map (·.s)) r)):=by
 have HV:=zh hv;have H:=zh h;have HS:=zh hS;have HC:=zh hC;obtain⟨hpi,hil⟩:=zpD _ _ _ hi;obtain⟨A,c,rfl,-,hlk,hlc,hrow⟩:=hv.open_;have af:=zh hrow;have hb0:=zka (zs W) (.cells #[.int .u8 t.k,.int .i64 t.n,.string t.s,.slice A t.ks.length c] 41);have k0:=heap_alloc_new W (.cells #[.int .u8 t.k,.int .i64 t.n,.string t.s,.slice A t.ks.length c] 41);obtain⟨x0,x1,x2,x3⟩:=box4 k0;have jX:=zh h.below;obtain⟨w1,hw1⟩:=zX (W.alloc (.cells #[.int .u8 t.k,.int .i64 t.n,.string t.s,.slice A t.ks.length c] 41));have hz1:w1.heap.size=W.heap.size+1:=by rw[<-hw1];simp
 rw[hw1]at hb0 k0 x0 x1 x2 x3;have hmk:=zz0 t.ks.length (by unfold LK at hlk;omega);have hb1:=zka hb0 (.cells (strA (List.replicate t.ks.length ⟨#[]⟩)) 9);have k1:=heap_alloc_new w1 (.cells (strA (List.replicate t.ks.length ⟨#[]⟩)) 9);have j0:=zkf k0 (.cells (strA (List.replicate t.ks.length ⟨#[]⟩)) 9);rw[hz1]at k1;rw[<-zxV]at hmk;have hz2:(w1.alloc (.cells (strA (argL t.ks 0)) 9)).heap.size=W.heap.size+2:=by simp[hz1]
 rw[<-zxV]at hb1 k1 j0;have HB1:=zh hb1;have K1:=zh k1;have J0:=zh j0;obtain⟨o,ho⟩:=zX (caO C.p.prs C.F g back i q (t.ks.map (·.s)) r);have bP:=zh ho;have HO:=zh (show(zkE C.F r).bind (fun r=>(zkl r (zlQ r.S q.ps (t.ks.map (·.s)))).bind (caR C.p.prs C.F g back i q.b))=o from ho);rw[ho]at aD ⊢;have dn:=zh aD;have HPI:=zh hpi;have vM:=zh hil;have HQ:=zh hq;have hlk2:t.ks.length<=17592186044416:=by unfold LK at hlk;omega
 have HZ2:=zh hz2;clear hv hb0 k0 h ho aD hrow hS hC hlk hpi hil hq hi hb1 k1 j0 hz2;go_enter func183,ntmps183;go_wp2_with fail;clear x0 x1 x2 x3 hw1 hmk;have iY:=zh (fun j (hj:j<t.ks.length)=>zw6 t.ks hj);have HAN:=zh (fun j (hj:j<=t.ks.length)=>zw7 t.ks hj)
 go_loopw [18] (fun x wr=>∃j:Nat,j<=t.ks.length/\x=.int .i64 j/\Hid (Below W.heap.size W wr)/\Hid (wr.heap[W.heap.size]?=some (.cells #[.int .u8 t.k,.int .i64 t.n,.string t.s,.slice A t.ks.length c] 41 (0,0)))/\Hid (wr.heap[W.heap.size+1]?=some (.cells (strA (argL t.ks j)) 9 (0,0)))) (fun x _=>t.ks.length-(intOf x).toNat)
 case atStart=>exact⟨0,Nat.zero_le _,rfl,HB1,J0,K1⟩
 case round =>
  obtain⟨j,hj,rfl,ah,HJ,HK⟩:=hrel;clear HB1 J0 K1;by_cases hlt:j<t.ks.length
  ·obtain⟨a,u,Au,cu,rfl,-,Hu,⟨p0,p1,p2,p3⟩,-⟩:=af.out.nd hlt;have hbb:=zkb jX.out ah.out;have q0:=zb hbb p0;have q1:=zb hbb p1;have q2:=zb hbb p2;have q3:=zb hbb p3;have hj1:(j:Int)<(t.ks.length:Int):=by omega
   have hj0:(0:Int)<=(j:Int):=by omega
   have kz:=zkf HK.out (.cells #[.int .u8 u.k,.int .i64 u.n,.string u.s,.slice Au u.ks.length cu] 41);have jz:=zkf HJ.out (.cells #[.int .u8 u.k,.int .i64 u.n,.string u.s,.slice Au u.ks.length cu] 41);have hbz:=zka ah.out (.cells #[.int .u8 u.k,.int .i64 u.n,.string u.s,.slice Au u.ks.length cu] 41);have zc:∃y,(strA (argL t.ks j))[j]?=some y:=⟨_,Array.getElem?_eq_getElem (by simp[strA,HAN.out j hj];exact hlt)⟩
   obtain⟨y,hy⟩:=zc;have zy:=zc kz hy;have zf:(wr.alloc (.cells #[.int .u8 u.k,.int .i64 u.n,.string u.s,.slice Au u.ks.length cu] 41)).frozen? ⟨W.heap.size+1,j,none⟩=false:=zf kz;have HBZ:=zh hbz;have BK:=zh kz;have HJZ:=zh jz;have hwlt:W.heap.size+1<wr.heap.size:=zkp HK.out;clear hbb p0 p1 p2 p3 kz jz hbz hy;go_wp2_with fail
   go_roundw
   case rel =>
    have hch:=(Chg.refl (fun b=>b=W.heap.size+1) wr).setCell (p:=⟨W.heap.size+1,j,none⟩) (.inl rfl) (.string u.s);refine⟨j+1,by omega,by go_num,zh (zka (ah.out.trans (hch.below ah.out.size fun b e=>by omega)) _),zh (zkf (hch.keep HJ.out (by omega)) _),zh ?_⟩;have:=heap_setCell_same _ (W.heap.size+1) j _ _ (.string u.s) HK.out;refine zkf ?_ _;rw[this,<-iY.out j hlt,Hu.out]
   case measure=>simp[intOf];omega
  ·obtain rfl:j=t.ks.length:=by omega
   rw[zw8]at HK;have hj1:¬ (t.ks.length:Int)<(t.ks.length:Int):=by omega
   have hrn:=H.out.n;have hel:=H.out.el;obtain⟨pa,q1,B1,d1,B2,d2,hA2,-,Hq1,⟨p0,p1,p2,p3,p4,p5⟩,hpr⟩:=HC.out.pg.procs.nd vM.out;obtain rfl:q=q1:=by
    have e:=HQ.out;rw[List.getElem?_eq_getElem vM.out,Hq1.out]at e;injection e with e;exact e.symm
   have HPRR:=zh hpr;have hbb:=zkb jX.out ah.out;have dW:=zh hbb;have gW:=zh (fun w' (hb:Below wr.heap.size wr w')=>znm C.p Any (pv C.A1 C.p.vs.length C.c1 C.A2 C.p.prs.length C.c2 C.p.m.k C.p.m.n C.p.m.s C.A3 C.p.m.ks.length C.c3) t.s w' ⟨_,_,_,_,_,_,rfl,HC.out.pg.later (zkb dW.out hb)⟩);rw[HPI.out]at gW;have HXB:=zh (zkc H.out.box ah.out);rw[hA2]at gW;have aP:Hid (wr.cell? ⟨C.rb,0,none⟩=some (.slice C.A1 C.p.vs.length C.c1)/\wr.cell? ⟨C.rb,1,none⟩=some (.slice (some pa) C.p.prs.length C.c2)/\wr.cell? ⟨C.rb,2,none⟩=some (.int .u8 C.p.m.k)/\wr.cell? ⟨C.rb,3,none⟩=some (.int .i64 C.p.m.n)/\wr.cell? ⟨C.rb,4,none⟩=some (.string C.p.m.s)/\wr.cell? ⟨C.rb,5,none⟩=some (.slice C.A3 C.p.m.ks.length C.c3)) :=
    zh ⟨zc HXB.out rfl,by rw[<-hA2];exact zc HXB.out rfl,zc HXB.out rfl,zc HXB.out rfl,zc HXB.out rfl,zc HXB.out rfl⟩
   have uI:=zh (show(i:Int)<(C.p.prs.length:Int) by have:=vM.out;omega);obtain⟨rb,hrb⟩:=zX (C.rb);obtain⟨z1,hz1⟩:=zX (C.A1);obtain⟨z2,hz2⟩:=zX (C.p.vs.length);obtain⟨z3,hz3⟩:=zX (C.c1);obtain⟨z5,oL⟩:=zX (C.p.prs.length);obtain⟨z6,dK⟩:=zX (C.c2);obtain⟨z7,jf⟩:=zX (C.p.m.k);obtain⟨z8,ze⟩:=zX (C.p.m.n);obtain⟨z9,xP⟩:=zX (C.p.m.s);obtain⟨z10,rW⟩:=zX (C.A3);obtain⟨z11,rV⟩:=zX (C.p.m.ks.length);obtain⟨z12,rU⟩:=zX (C.c3);rw[hz1,hz2,hz3,oL,dK,jf,ze,xP,rW,rV,rU]at gW;rw[hrb,hz1,hz2,hz3,oL,dK,jf,ze,xP,rW,rV,rU]at aP;have az:=zh (show ∀w',Below wr.heap.size wr w'->(fun w':World=>zv w' rb 0 (.slice z1 z2 z3)/\zv w' rb 1 (.slice (some pa) z5 z6)/\zv w' rb 2 (.int .u8 z7)/\zv w' rb 3 (.int .i64 z8)/\zv w' rb 4 (.string z9)/\zv w' rb 5 (.slice z10 z11 z12)/\zv w' W.heap.size 2 (.string t.s)) w' from fun w' hb=>by
    obtain⟨y0,y1,y2,y3,y4,y5⟩:=aP.out;exact⟨zb hb y0,zb hb y1,zb hb y2,zb hb y3,zb hb y4,zb hb y5,zb hb (zc HJ.out rfl)⟩)
   have gV:=zh (az.out _ zr.drew);have ow:=zh (show C.w.cell? (pa.add (i*6))=_/\_/\_/\_/\_/\_ from⟨p0,p1,p2,p3,p4,p5⟩);clear p0 p1 p2 p3 p4 p5 hpr hbb hz1 hz2 hz3 dK jf ze xP rW rV rU hel hrn hj1;have pV:=zh oL;rw[oL]at uI;clear oL;have dm:=zh hrb;clear hrb hA2;rw[dm.out];have hj1:¬ (t.ks.length:Int)<(t.ks.length:Int):=by omega
   go_upto_region 7 with fail
   go_region_held3 (fun w':World=>zv w' rb 0 (.slice z1 z2 z3)/\zv w' rb 1 (.slice (some pa) z5 z6)/\zv w' rb 2 (.int .u8 z7)/\zv w' rb 3 (.int .i64 z8)/\zv w' rb 4 (.string z9)/\zv w' rb 5 (.slice z10 z11 z12)/\zv w' W.heap.size 2 (.string t.s))
    (first|with_reducible exact dH.out|with_reducible exact gV.out)
    (first
     | (go_at_call 72;refine(gW.out _ zr.drew).mono ?_;rintro e y1 ⟨rfl,dU⟩;have b1:=zkb (zs wr).drew dU;have dH:=zh (az.out _ b1))
     | fail)
   have hb1:=zkb dW.out b1;have p0:=zb hb1 ow.out.1;have p1:=zb hb1 ow.out.2.1;have p2:=zb hb1 ow.out.2.2.1;have p3:=zb hb1 ow.out.2.2.2.1;have p4:=zb hb1 ow.out.2.2.2.2.1;have p5:=zb hb1 ow.out.2.2.2.2.2;obtain⟨-,e1,-⟩:=dH.out;have hi1:=uI.out;have hi0:(0:Int)<=(i:Int):=by omega
   have fH:=zka (zkb ah.out b1) (.cells #[.string q.s,.slice B1 q.ps.length d1,.int .u8 q.b.k,.int .i64 q.b.n,.string q.b.s,.slice B2 q.b.ks.length d2] 75);have k0:=zkf (zkc HJ.out b1) (.cells #[.string q.s,.slice B1 q.ps.length d1,.int .u8 q.b.k,.int .i64 q.b.n,.string q.b.s,.slice B2 q.b.ks.length d2] 75);have k1:=zkf (zkc HK.out b1) (.cells #[.string q.s,.slice B1 q.ps.length d1,.int .u8 q.b.k,.int .i64 q.b.n,.string q.b.s,.slice B2 q.b.ks.length d2] 75);have k2:=heap_alloc_new y1 (.cells #[.string q.s,.slice B1 q.ps.length d1,.int .u8 q.b.k,.int .i64 q.b.n,.string q.b.s,.slice B2 q.b.ks.length d2] 75);obtain⟨pb,hpb⟩:=zX (y1.heap.size);have hpl:W.heap.size<=pb:=by rw[<-hpb];exact(zkb ah.out b1).size
   obtain⟨w5,ig⟩:=zX (y1.alloc (.cells #[.string q.s,.slice B1 q.ps.length d1,.int .u8 q.b.k,.int .i64 q.b.n,.string q.b.s,.slice B2 q.b.ks.length d2] 75));rw[ig]at fH k0 k1;rw[hpb,ig]at k2;have bU:=zh (Kpt.of_below (n0:=C.n0) (kb:=C.kb) fH);obtain⟨yh,h5⟩:=H.out.plus HC.out fH;have l0:=zkp k0;have l1:=zkp k1;have l2:=zkp k2;obtain⟨hi,hhi⟩:=zX (w5.heap.size);rw[hhi]at yh h5 l0 l1 l2;have gY:=zh yh;have K0:=zh k0;have K1:=zh k1;have K2:=zh k2;have HST:=zh (zlX yh h5);rw[show(C.plus W.heap.size hi).rb=rb from dm.out]at HST;have xg:=zh hpl;obtain⟨ss,hss⟩:=zX (t.ks.map (·.s));have ru:=zh (show ss.length=t.ks.length by rw[<-hss];simp);rw[hss]at HO K1;clear hb1 b1 dU dH az gV fH k0 k1 k2 yh h5 ow hpl aP gW iY HAN HK HJ hss;go_upto_region 9 with fail;clear p0 p1 p2 p3 p4 p5 e1 ig hpb;go_wp2_with fail;refine HST.out.mono ?_;rintro e w6 ⟨bT,hb6,ko⟩
   have dO:=zh (bU.out.trans (Kpt.less (C:=C) bT));have aV:=zh (show Below C.w.heap.size C.w w6 from hb6);have cz:match zkE C.F r with
    | .gas=>True
    | .err x=>e=zlE x
    | .ok r=>(∃u,e=.returned u)/\RI (C.plus W.heap.size hi) w6 r:=ko
   have uH:=zh bT;clear HST bT hb6 ko
   cases hy:zkE C.F r with
   | gas=>exact absurd (by rw[<-HO.out,hy];rfl) dn.out
   | err x =>
    rw[hy]at cz;subst cz;refine⟨rfl,dO.out,aV.out,?_⟩
    try rw[bP.out]
    rw[<-HO.out,hy];rfl
   | ok r1 =>
    rw[hy]at cz;obtain⟨⟨u3,rfl⟩,hr1⟩:=cz;have gG:=zh hr1;have qo:=zh (show(zkl r1 (zlQ r1.S q.ps ss)).bind (caR C.p.prs C.F g back i q.b)=o by rw[<-HO.out,hy];rfl);have bV:=zh (show FB r.n r1.S/\r1.n=r.n+1/\r1.ent=r.ent by obtain⟨rfl,-⟩:=zlz hy;exact⟨H.out.fb,rfl,rfl⟩);have j2:=uH.out.blk (.inr (.inr ⟨xg.out,l2⟩)) K2.out;have hSS:zW (fun w':World=>zv w' rb 6 (.pointer (some ⟨C.sb,0,none⟩))/\zv w' pb 1 (.slice B1 q.ps.length d1)) zU w6.drew:=⟨⟨by rw[<-dm.out];exact hr1.cells.1,zc j2 rfl⟩,trivial⟩
    clear hr1 hy j2;go_upto_region 10 with fail;refine zG hSS 9 ?_;refine zT 0 hSS ?_;refine zT 1 hSS ?_;refine zT 2 hSS ?_;refine zT 3 hSS ?_;refine zT 4 hSS ?_;refine zT 5 hSS ?_;refine zT 6 hSS ?_;refine zT 7 hSS ?_;obtain⟨R,hR⟩:=zX (zlQ r1.S q.ps ss);have HRR:=zh hR;have hbd:Below w6.heap.size w6 w6.drew:=zr.drew;have hpq:q.ps.length<=1000:=HC.out.ps q (List.mem_of_getElem? HQ.out);have hen:=(gG.out.later hbd).ks.enter q.ps ss B1 (some ⟨W.heap.size+1,0,none⟩) d1 t.ks.length (HPRR.out.row.later (zkb aV.out hbd)) ((zvZ (uH.out.blk (.inr (.inr ⟨Nat.le_succ _,l1⟩)) K1.out)).later hbd) (by omega) (by rw[ru.out];exact hlk2);rw[ru.out]at hen
    have had:Calls prog 203 [.pointer (some ⟨C.sb,0,none⟩),.slice B1 q.ps.length d1,.slice (some ⟨W.heap.size+1,0,none⟩) t.ks.length t.ks.length].toArray w6.drew fun e w'=>∃v,e=.returned v/\(v=.int .i64 R.1/\RI (C.plus W.heap.size hi) w' { r1 with S:=R.2 }/\Kpt C.n0 (C.plus W.heap.size hi).kb w6 w') :=
     hen.mono fun e w' ⟨h1,h2,h3⟩=>by
      have hs:=RI.store (C:=C.plus W.heap.size hi) (gG.out.later hbd) (hR▸h2) h3 (by rw[bV.out.2.1,<-hR];exact bV.out.1.enter _ _ hpq);exact⟨_,h1,by rw[hR],hs.1,(Kpt.of_below hbd).trans hs.2⟩
    refine zo 8 fun K hK=>?_;refine zlg (by rfl) (.func 203) [.tmp 50,.tmp 52,.tmp 53] _ (by rfl) 203 _ zwM (by rfl) _ (by rfl) _ had ?_;rintro v7 w7 ⟨rfl,nU,wF⟩;have uG:=zh (uH.out.trans wF);have j2:=uG.out.blk (.inr (.inr ⟨xg.out,l2⟩)) K2.out;have ou:=zh nU;have tN:(fun w':World=>zv w' rb 6 (.pointer (some ⟨C.sb,0,none⟩))/\zv w' pb 1 (.slice B1 q.ps.length d1)) w7:=⟨by rw[<-dm.out];exact nU.cells.1,zc j2 rfl⟩
    refine hK.out _ _ ⟨tN,trivial⟩ ?_;have HS7:=zh tN;have Ch:=zh nU.below;clear hK K had nU wF j2 tN hSS hen;(try simp only[zQ]);have xx:=zh (bU.out.trans (Kpt.less (C:=C) uG.out));rw[hR]at qo;have had:=zla ⟨rb,0,none⟩ R.1 w7;refine zp 9 fun K hK=>?_;refine zk4 (by rfl) (.func 180) [.tmp 46,.tmp 54] _ (by rfl) 180 _ zmi (by rfl) _ (by rfl) (fun v w'=>w'=w7/\R.1=0) (had.mono ?_) ?_
    ·rintro e y1 ⟨rfl,hv1⟩;rcases hv1 with⟨h0,u0,rfl⟩|⟨h0,rfl⟩
     ·exact .inl ⟨_,rfl,rfl,h0⟩
     ·refine .inr ⟨_,rfl,?_⟩;refine⟨rfl,xx.out,Ch.out,?_⟩
      try rw[bP.out]
      rw[<-qo.out,show zkl r1 R=.err R.1 by unfold zkl;rw[if_pos h0]];rfl
    rintro v8 w8 ⟨rfl,h0⟩;have kS:=zh (show caR C.p.prs C.F g back i q.b { r1 with S:=R.2 }=o by rw[<-qo.out,show zkl r1 R=.ok { r1 with S:=R.2 } by unfold zkl;rw[if_neg (by simpa using h0)]];rfl);refine hK.out _ _ HS7.out ?_;clear hK K had h0;(try simp only[zQ]);refine zd ?_;obtain⟨r2,hr2⟩:=zX (({ r1 with S:=R.2 }:RS));rw[hr2]at ou kS;have he2:r2.ent.length=C.p.prs.length:=ou.out.el;have hi2:i<r2.ent.length:=by rw[he2];exact vM.out
    have hn2:r2.ent.getD i 0+1<=r2.n:=by
     rw[<-hr2];simp only;rw[bV.out.2.2,bV.out.2.1,List.getD_eq_getElem?_getD,List.getElem?_eq_getElem (by rw[H.out.el];exact vM.out)];have:=H.out.en _ (List.getElem_mem (l:=r.ent) (n:=i) (by rw[H.out.el];exact vM.out));simp only[Option.getD_some];omega
    obtain⟨eg,ec,hev,hcz,hcf,hrc,hkc⟩:=ou.out.count gY.out hi2 hn2;have hev':C.ev=.slice (some ⟨eg,0,none⟩) r2.ent.length ec:=hev;obtain⟨-,-,-,e9,-⟩:=ou.out.cells;have e9':w8.cell? ⟨rb,9,none⟩=some (.slice (some ⟨eg,0,none⟩) z5 ec):=by
     rw[<-dm.out,<-pV.out,<-he2,<-hev'];exact e9
    have hnn:=ou.out.n;have zg:IntKind.i64.wrap ((r2.ent.getD i 0:Nat)+1:Int)=((r2.ent.getD i 0+1:Nat):Int):=by rw[IntWalk.i64_in _ (by omega)];omega
    have jU:=zh (show(runO C.p.prs C.F g back q.b { r2 with ent:=r2.ent.set i (r2.ent.getD i 0+1) }).bind (fun r=>(zkE C.F r).bind fun r=>zkl r (zl1 r.S))=o from kS.out);obtain⟨e0,he0⟩:=zX (r2.ent.getD i 0);rw[he0]at hcz hrc hkc zg jU;obtain⟨w9,dw⟩:=zX (w8.setCell ⟨eg,i,none⟩ (.int .i64 ((e0+1:Nat):Int)));rw[dw]at hrc hkc;obtain⟨r3,hr3⟩:=zX (({ r2 with ent:=r2.ent.set i (e0+1) }:RS));rw[hr3]at hrc jU;have bI:=zh hrc;have uF:=zh (uG.out.trans hkc);have gX:=zh (bU.out.trans (Kpt.less (C:=C) uF.out));have aF:=zh (show Below C.w.heap.size C.w w9 from hrc.below);have j2:=uF.out.blk (.inr (.inr ⟨xg.out,l2⟩)) K2.out;have hgu:runO C.p.prs C.F g back q.b r3 ≠ .gas:=fun e=>dn.out (by rw[<-jU.out,e];rfl);have aC:=zh (zlh HS.out gY.out bI.out q.b _ back HPRR.out.body hG1 hgu);rw[show(C.plus W.heap.size hi).rb=rb from dm.out]at aC;have HJ2:=zh j2
    have hi1:=uI.out;have hi0:(0:Int)<=(i:Int):=by omega
    rw[show((e0+1:Nat):Int)=(e0:Int)+1 by omega]at zg dw;clear hr2 he2 hi2 hn2 hev hev' e9 hnn he0 hr3 hrc hkc j2 hgu hG1 kS HS7 hbd hpq hR;go_upto_region 12 with fail;clear dw hcz hcf e9' zg;have q2:w9.cell? ⟨pb,2,none⟩=some (.int .u8 q.b.k):=zc HJ2.out rfl;have q3:w9.cell? ⟨pb,3,none⟩=some (.int .i64 q.b.n):=zc HJ2.out rfl;have q4:w9.cell? ⟨pb,4,none⟩=some (.string q.b.s):=zc HJ2.out rfl;have q5:w9.cell? ⟨pb,5,none⟩=some (.slice B2 q.b.ks.length d2):=zc HJ2.out rfl;go_wp2_with fail;refine aC.out.mono ?_;rintro e aT ⟨hk10,hb10,ho10⟩;have HK510:=zh (uF.out.trans hk10);have HK10:=zh (bU.out.trans (Kpt.less (C:=C) HK510.out));have dF:=zh (show Below C.w.heap.size C.w aT from hb10);have jQ:match runO C.p.prs C.F g back q.b r3 with
     | .gas=>True
     | .err x=>e=zlE x
     | .ok r=>(∃u,e=.returned u)/\RI (C.plus W.heap.size hi) aT r:=ho10
    clear q2 q3 q4 q5 hk10 hb10 ho10 aC
    cases hx:runO C.p.prs C.F g back q.b r3 with
    | gas=>exact absurd (by rw[<-jU.out,hx];rfl) dn.out
    | err x =>
     rw[hx]at jQ;subst jQ;refine⟨rfl,HK10.out,dF.out,?_⟩
     try rw[bP.out]
     rw[<-jU.out,hx];rfl
    | ok r4 =>
     rw[hx]at jQ;obtain⟨⟨u9,rfl⟩,hr4⟩:=jQ;have HST:=zh (zlX gY.out hr4);rw[show(C.plus W.heap.size hi).rb=rb from dm.out]at HST;have fI:=zh (show((zkE C.F r4).bind fun r=>zkl r (zl1 r.S))=o by rw[<-jU.out,hx];rfl);have qh:=zh hr4;clear hx hr4;go_wp2_with fail;refine HST.out.mono ?_;rintro e aO ⟨iq,pR,o8⟩;have HK511:=zh (HK510.out.trans iq);have dE:=zh (bU.out.trans (Kpt.less (C:=C) HK511.out));have bM:=zh (show Below C.w.heap.size C.w aO from pR);have jP:match zkE C.F r4 with
      | .gas=>True
      | .err x=>e=zlE x
      | .ok r=>(∃u,e=.returned u)/\RI (C.plus W.heap.size hi) aO r:=o8
     clear iq pR o8 HST
     cases hy:zkE C.F r4 with
     | gas=>exact absurd (by rw[<-fI.out,hy];rfl) dn.out
     | err x =>
      rw[hy]at jP;subst jP;refine⟨rfl,dE.out,bM.out,?_⟩
      try rw[bP.out]
      rw[<-fI.out,hy];rfl
     | ok r5 =>
      rw[hy]at jP;obtain⟨⟨u9,rfl⟩,jZ⟩:=jP;have kQ:=zh jZ;have iM:=zh (show FB r4.n r5.S/\r5.n=r4.n+1 by obtain⟨rfl,-⟩:=zlz hy;exact⟨qh.out.fb,rfl⟩);obtain⟨Rc,lF⟩:=zX (zl1 r5.S);have iF:=zh (show zkl r5 Rc=o by rw[<-fI.out,hy,<-lF];rfl);have y6:aO.cell? ⟨rb,6,none⟩=some (.pointer (some ⟨C.sb,0,none⟩)):=by rw[<-dm.out];exact jZ.cells.1
      clear jZ hy;go_wp2_with fail;refine(kQ.out.ks.leave).mono ?_;rintro e iO ⟨rfl,h2,h3⟩;have hs:=RI.store (C:=C.plus W.heap.size hi) kQ.out h2 h3 (by rw[iM.out.2];exact iM.out.1.leave);rw[lF]at hs ⊢;have mW:=zh hs.1;have HK512:=zh (HK511.out.trans hs.2);have gP:=zh hs.1.below;have jG:=zh (bU.out.trans (Kpt.less (C:=C) HK512.out));clear hs h2 h3 y6;go_wp2_with fail;refine(zla ⟨rb,0,none⟩ Rc.1 iO).mono ?_;rintro e y1 ⟨rfl,hv1⟩;rcases hv1 with⟨h0,u0,rfl⟩|⟨h0,rfl⟩
      ·have gJ:=zh (show o=.ok { r5 with S:=Rc.2 } by rw[<-iF.out];unfold zkl;rw[if_neg (by simpa using h0)]);have uz:=zh mW.out.less;clear h0;go_wp2_with fail;go_end0;refine⟨jG.out,gP.out,?_⟩
       try rw[bP.out]
       rw[gJ.out];exact⟨⟨_,rfl⟩,uz.out⟩
      ·refine⟨rfl,jG.out,gP.out,?_⟩
       try rw[bP.out]
       rw[<-iF.out,show zkl r5 Rc=.err Rc.1 by unfold zkl;rw[if_pos h0]]
theorem zq3{G:List PR->T->Prop}{g:Nat}(hS:IStC G g){C:RC}(hC:C.Ok){W:World}{r:RS}(h:RI C W r)(t:T)(v:Value)(back:Bool)(hv:NV C.w Any t v)(hk0:t.k=50)(i:Nat)(hi:prcI C.p.prs t.s=some i)(q:PR)(hq:C.p.prs[i]?=some q)(hG1:∀u∈q.b.ks,G C.p.prs u)
  (o:Out)(ho:caO C.p.prs C.F g back i q (t.ks.map (·.s)) r=o)(hog:o ≠ .gas) :
  Calls prog 137 #[.pointer (some ⟨C.rb,0,none⟩),v,.bool back] W (RunP C W o):=by
 have aD:=hog
 cases back
 ·skip
  obtain⟨k,n,s,ks⟩:=t;obtain rfl:k=50:=hk0;obtain⟨A,c,rfl,-,hlk,hlc,-⟩:=hv.open_;have hb0:=zka (zs W) (.cells #[.int .u8 50,.int .i64 n,.string s,.slice A ks.length c] 41);obtain⟨x0,x1,x2,x3⟩:=box4 (heap_alloc_new W (.cells #[.int .u8 50,.int .i64 n,.string s,.slice A ks.length c] 41));have aJ:=zh (Kpt.of_below (n0:=C.n0) (kb:=C.kb) hb0);have bg:=zh (show Calls prog 183 #[.pointer (some ⟨C.rb,0,none⟩),.agg #[.int .u8 50,.int .i64 n,.string s,.slice A ks.length c],.bool false] (W.alloc (.cells #[.int .u8 50,.int .i64 n,.string s,.slice A ks.length c] 41)) (RunP C _ o)from ho▸(zn6 hS hC (h.later hb0) _ _ false hv i hi q hq hG1 (ho▸hog)));clear hv hb0 h aD hG1 ho hi hq;go_enter func137,ntmps137;go_wp2_with fail;refine bg.out.mono ?_;rintro e w1 ⟨hk1,hb1,ho1⟩
  cases o with
  | gas=>exact absurd rfl hog
  | err x =>
   subst ho1;exact⟨rfl,aJ.out.trans hk1,hb1,rfl⟩
  | ok r1 =>
   obtain⟨⟨u,rfl⟩,hr1⟩:=ho1;have HR:=zh hr1;have aB:=zh (aJ.out.trans hk1);have HB1:=zh hb1;clear x0 x1 x2 x3 hr1 hk1 hb1;go_wp2_with fail;go_end0;exact⟨aB.out,HB1.out,⟨_,rfl⟩,HR.out⟩
 ·skip
  obtain⟨k,n,s,ks⟩:=t;obtain rfl:k=50:=hk0;obtain⟨A,c,rfl,-,hlk,hlc,-⟩:=hv.open_;have hb0:=zka (zs W) (.cells #[.int .u8 50,.int .i64 n,.string s,.slice A ks.length c] 41);obtain⟨x0,x1,x2,x3⟩:=box4 (heap_alloc_new W (.cells #[.int .u8 50,.int .i64 n,.string s,.slice A ks.length c] 41));have aJ:=zh (Kpt.of_below (n0:=C.n0) (kb:=C.kb) hb0);have bg:=zh (show Calls prog 183 #[.pointer (some ⟨C.rb,0,none⟩),.agg #[.int .u8 50,.int .i64 n,.string s,.slice A ks.length c],.bool true] (W.alloc (.cells #[.int .u8 50,.int .i64 n,.string s,.slice A ks.length c] 41)) (RunP C _ o)from ho▸(zn6 hS hC (h.later hb0) _ _ true hv i hi q hq hG1 (ho▸hog)));clear hv hb0 h aD hG1 ho hi hq;go_enter func137,ntmps137;go_wp2_with fail;refine bg.out.mono ?_;rintro e w1 ⟨hk1,hb1,ho1⟩
  cases o with
  | gas=>exact absurd rfl hog
  | err x =>
   subst ho1;exact⟨rfl,aJ.out.trans hk1,hb1,rfl⟩
  | ok r1 =>
   obtain⟨⟨u,rfl⟩,hr1⟩:=ho1;have HR:=zh hr1;have aB:=zh (aJ.out.trans hk1);have HB1:=zh hb1;clear x0 x1 x2 x3 hr1 hk1 hb1;go_wp2_with fail;go_end0;exact⟨aB.out,HB1.out,⟨_,rfl⟩,HR.out⟩
theorem zq2{G:List PR->T->Prop}{g:Nat}(hS:IStC G g){C:RC}(hC:C.Ok){W:World}{r:RS}(h:RI C W r)(t:T)(v:Value)(back:Bool)(hv:NV C.w Any t v)(hk0:t.k=51)(i:Nat)(hi:prcI C.p.prs t.s=some i)(q:PR)(hq:C.p.prs[i]?=some q)(hG1:∀u∈q.b.ks,G C.p.prs u)
  (o:Out)(ho:caO C.p.prs C.F g (!back) i q (t.ks.map (·.s)) r=o)(hog:o ≠ .gas) :
  Calls prog 137 #[.pointer (some ⟨C.rb,0,none⟩),v,.bool back] W (RunP C W o):=by
 have aD:=hog
 cases back
 ·skip
  change caO C.p.prs C.F g true i q (t.ks.map (·.s)) r=o at ho;obtain⟨k,n,s,ks⟩:=t;obtain rfl:k=51:=hk0;obtain⟨A,c,rfl,-,hlk,hlc,-⟩:=hv.open_;have hb0:=zka (zs W) (.cells #[.int .u8 51,.int .i64 n,.string s,.slice A ks.length c] 41);obtain⟨x0,x1,x2,x3⟩:=box4 (heap_alloc_new W (.cells #[.int .u8 51,.int .i64 n,.string s,.slice A ks.length c] 41));have aJ:=zh (Kpt.of_below (n0:=C.n0) (kb:=C.kb) hb0);have bg:=zh (show Calls prog 183 #[.pointer (some ⟨C.rb,0,none⟩),.agg #[.int .u8 51,.int .i64 n,.string s,.slice A ks.length c],.bool true] (W.alloc (.cells #[.int .u8 51,.int .i64 n,.string s,.slice A ks.length c] 41)) (RunP C _ o)from ho▸(zn6 hS hC (h.later hb0) _ _ true hv i hi q hq hG1 (ho▸hog)));clear hv hb0 h aD hG1 ho hi hq;go_enter func137,ntmps137;go_wp2_with fail;refine bg.out.mono ?_;rintro e w1 ⟨hk1,hb1,ho1⟩
  cases o with
  | gas=>exact absurd rfl hog
  | err x =>
   subst ho1;exact⟨rfl,aJ.out.trans hk1,hb1,rfl⟩
  | ok r1 =>
   obtain⟨⟨u,rfl⟩,hr1⟩:=ho1;have HR:=zh hr1;have aB:=zh (aJ.out.trans hk1);have HB1:=zh hb1;clear x0 x1 x2 x3 hr1 hk1 hb1;go_wp2_with fail;go_end0;exact⟨aB.out,HB1.out,⟨_,rfl⟩,HR.out⟩
 ·skip
  change caO C.p.prs C.F g false i q (t.ks.map (·.s)) r=o at ho;obtain⟨k,n,s,ks⟩:=t;obtain rfl:k=51:=hk0;obtain⟨A,c,rfl,-,hlk,hlc,-⟩:=hv.open_;have hb0:=zka (zs W) (.cells #[.int .u8 51,.int .i64 n,.string s,.slice A ks.length c] 41);obtain⟨x0,x1,x2,x3⟩:=box4 (heap_alloc_new W (.cells #[.int .u8 51,.int .i64 n,.string s,.slice A ks.length c] 41));have aJ:=zh (Kpt.of_below (n0:=C.n0) (kb:=C.kb) hb0);have bg:=zh (show Calls prog 183 #[.pointer (some ⟨C.rb,0,none⟩),.agg #[.int .u8 51,.int .i64 n,.string s,.slice A ks.length c],.bool false] (W.alloc (.cells #[.int .u8 51,.int .i64 n,.string s,.slice A ks.length c] 41)) (RunP C _ o)from ho▸(zn6 hS hC (h.later hb0) _ _ false hv i hi q hq hG1 (ho▸hog)));clear hv hb0 h aD hG1 ho hi hq;go_enter func137,ntmps137;go_wp2_with fail;refine bg.out.mono ?_;rintro e w1 ⟨hk1,hb1,ho1⟩
  cases o with
  | gas=>exact absurd rfl hog
  | err x =>
   subst ho1;exact⟨rfl,aJ.out.trans hk1,hb1,rfl⟩
  | ok r1 =>
   obtain⟨⟨u,rfl⟩,hr1⟩:=ho1;have HR:=zh hr1;have aB:=zh (aJ.out.trans hk1);have HB1:=zh hb1;clear x0 x1 x2 x3 hr1 hk1 hb1;go_wp2_with fail;go_end0;exact⟨aB.out,HB1.out,⟨_,rfl⟩,HR.out⟩
structure GC(G:List PR->T->Prop):Prop where
 two:∀prs t,G prs t->(t.k=52\/t.k=53)->t.ks.length=4/\(∀u∈(kid t 1).ks,G prs u)/\∀u∈(kid t 2).ks,G prs u
 loc:∀prs t,G prs t->t.k=54->t.ks.length=3/\∀u∈(kid t 1).ks,G prs u
 stk:∀prs t,G prs t->t.k=55->t.ks.length=1/\∀u∈(kid t 0).ks,G prs u
 cal:∀prs t,G prs t->(t.k=50\/t.k=51)->∃i q,prcI prs t.s=some i/\prs[i]?=some q/\∀u∈q.b.ks,G prs u
theorem getD_some{prs:List PR}{i:Nat}{q:PR}(h:prs[i]?=some q):prs.getD i ⟨⟨#[]⟩,[],nil0⟩=q:=by
 rw[List.getD_eq_getElem?_getD,h];rfl
theorem zrP{G:List PR->T->Prop}(hG:GC G):∀g,IStC G g
 | 0=>fun C hC W r h t v back hv vw hg=>absurd rfl hg
 | g+1=>fun C hC W r h t v back hv vw hg=>by
  have hS:=zrP hG g;by_cases lH:t.k=52
  ·obtain⟨h1,h2,h3⟩:=hG.two _ _ vw (.inl lH);have e:zkB C.p.prs C.F (g+1) back t r=brO C.p.prs C.F g back t r:=by rw[zkB,if_pos lH];rfl
   rw[e]at hg ⊢;exact zyb hS hC h t v back hv lH h1 h2 h3 _ rfl hg
  by_cases mJ:t.k=53
  ·obtain⟨h1,h2,h3⟩:=hG.two _ _ vw (.inr mJ);have e:zkB C.p.prs C.F (g+1) back t r=lpO C.p.prs C.F g back t r:=by rw[zkB,if_neg lH,if_pos mJ];rfl
   rw[e]at hg ⊢;exact ztD hS hC h t v back hv mJ h1 h2 h3 _ rfl hg
  by_cases eB:t.k=54
  ·obtain⟨h1,h2⟩:=hG.loc _ _ vw eB;have e:zkB C.p.prs C.F (g+1) back t r=loO C.p.prs C.F g back t r:=by rw[zkB,if_neg lH,if_neg mJ,if_pos eB];rfl
   rw[e]at hg ⊢;exact zsG hS hC h t v back hv eB h1 h2 _ rfl hg
  by_cases eU:t.k=55
  ·obtain⟨h1,h2⟩:=hG.stk _ _ vw eU;have e:zkB C.p.prs C.F (g+1) back t r=lsO C.p.prs C.F g back t r:=by rw[zkB,if_neg lH,if_neg mJ,if_neg eB,if_pos eU];rfl
   rw[e]at hg ⊢;exact zya hS hC h t v back hv eU h1 h2 hg
  by_cases h5:t.k=50\/t.k=51
  ·obtain⟨i,q,hi,hq,hb⟩:=hG.cal _ _ vw h5;have e:zkB C.p.prs C.F (g+1) back t r=caO C.p.prs C.F g (back != decide (t.k=51)) i q (t.ks.map (·.s)) r:=by
    rw[zkB,if_neg lH,if_neg mJ,if_neg eB,if_neg eU,if_pos h5,hi];dsimp only;rw[getD_some hq];rfl
   rw[e]at hg ⊢;rcases h5 with h50|lI
   ·have e2:(back != decide (t.k=51))=back:=by rw[show decide (t.k=51)=false by simp[h50]];cases back<;>rfl
    rw[e2]at hg ⊢;exact zq3 hS hC h t v back hv h50 i hi q hq hb _ rfl hg
   ·have e2:(back != decide (t.k=51)) = !back:=by rw[show decide (t.k=51)=true by simp[lI]];cases back<;>rfl
    rw[e2]at hg ⊢;exact zq2 hS hC h t v back hv lI i hi q hq hb _ rfl hg
  ·have e:zkB C.p.prs C.F (g+1) back t r=basO C.F back t r:=by
    rw[zkB,if_neg lH,if_neg mJ,if_neg eB,if_neg eU,if_neg h5];rfl
   rw[e];exact zv0 hC h t v back hv ⟨lH,mJ,eB,eU,fun h=>h5 (.inl h),fun h=>h5 (.inr h)⟩
end
end Go.Proofs.YtembgnhbpmfhpaaGreat
