
/-
  Texts of the proof, put together without their remarks: Ic, Iu, Iw, Ix, Iy, Il, Iv, Id, It, Ik, Im, Iz, Ia, Gf, Nz, Ib, Fw, Ig, Eqv.
-/
import Derived.Test.YthjinpodhacleaaGreatM6
import Derived.Tactics
import Derived.Tactics2
import Derived.Defers
set_option linter.unusedSimpArgs false
set_option linter.unusedVariables false
set_option maxHeartbeats 8000000
set_option maxRecDepth 100000
namespace Go.Proofs.YthjinpodhacleaaGreat
open Tryz
section
open Go Go.RowKit
def brO(prs:List PR)(F:Int)(g:Nat)(back:Bool)(t:T)(r:RS):Out :=
 zk7 F (fstT back t) r fun yes r=>(zkP (zkq prs F g back) (blkL back (if yes=true then kid t 1 else kid t 2)) r).bind (zkp F (lstT back t) yes)
theorem zt8{G:List PR->T->Prop}{g:Nat}(hS:IStC G g){C:RC}(hC:C.Ok){W:World}{r:RS}(h:RI C W r)(t:T)(v:Value)(back:Bool)(hv:NV C.w Any t v)(hk:t.ks.length=4)(hG1:∀u∈(kid t 1).ks,G C.p.prs u)(hG2:∀u∈(kid t 2).ks,G C.p.prs u)
  (aD:brO C.p.prs C.F g back t r ≠ .gas) :
  Calls prog 132 #[.pointer (some ⟨C.rb,0,none⟩),v,.bool back] W (RunP C W (brO C.p.prs C.F g back t r)):=by
 obtain⟨A,c,rfl,-,hlk,hlc,hrow⟩:=hv.open_;have ae:=zh hrow;have HS:=zh hS;have HV:=zh hv;have hb0:=zkb (zs W) (.cells #[zj t.k,zi t.n,.string t.s,.slice A t.ks.length c] 28);obtain⟨x0,x1,x2,x3⟩:=box4 (heap_alloc_new W (.cells #[zj t.k,zi t.n,.string t.s,.slice A t.ks.length c] 28));have HB0:=zh hb0;have H:=zh h;have HC:=zh hC;have HX:=zh (heap_alloc_new W (.cells #[zj t.k,zi t.n,.string t.s,.slice A t.ks.length c] 28));have nQ:=zh (fun w' (hb:zw W w')=>zqp t _ back C.w w' (zka h.below hb) hv zO);have qp:=zh hk;clear hrow hS hb0 h hv hk hC hlk;go_enter func132,ntmps132;go_wp2_with fail;refine(nQ.out _ HB0.out).mono ?_;rintro e w2 ⟨v1,v2,rfl,n1,n2,b2⟩;obtain⟨t1,ht1⟩:=zX (fstT back t);obtain⟨t2,ht2⟩:=zX (lstT back t);have HT1:=zh ht1;have HT2:=zh ht2;rw[ht1]at n1;rw[ht2]at n2;obtain⟨A1,c1,rfl,-⟩:=n1.open_
 obtain⟨A2,c2,rfl,-⟩:=n2.open_;have fA:=zh n1;have aF:=zh n2;have b3:=zkb (zkb (zka HB0.out b2) (.cells #[zj t1.k,zi t1.n,.string t1.s,.slice A1 t1.ks.length c1] 28)) (.cells #[zj t2.k,zi t2.n,.string t2.s,.slice A2 t2.ks.length c2] 28);have k0:=zkd (zkd (zkc HX.out b2) (.cells #[zj t1.k,zi t1.n,.string t1.s,.slice A1 t1.ks.length c1] 28)) (.cells #[zj t2.k,zi t2.n,.string t2.s,.slice A2 t2.ks.length c2] 28);have k1:=zkd (heap_alloc_new w2 (.cells #[zj t1.k,zi t1.n,.string t1.s,.slice A1 t1.ks.length c1] 28)) (.cells #[zj t2.k,zi t2.n,.string t2.s,.slice A2 t2.ks.length c2] 28);have k2:=heap_alloc_new (w2.alloc (.cells #[zj t1.k,zi t1.n,.string t1.s,.slice A1 t1.ks.length c1] 28)) (.cells #[zj t2.k,zi t2.n,.string t2.s,.slice A2 t2.ks.length c2] 28)
 simp only[World.size_alloc]at k2;obtain⟨w3,hw3⟩:=zX ((w2.alloc (.cells #[zj t1.k,zi t1.n,.string t1.s,.slice A1 t1.ks.length c1] 28)).alloc (.cells #[zj t2.k,zi t2.n,.string t2.s,.slice A2 t2.ks.length c2] 28));rw[hw3]at b3 k0 k1 k2;have hz2:=zka HB0.out b2;have hzz:=hz2.size;obtain⟨dh,h3⟩:=H.out.plus HC.out b3;have bR:=zh (Kpt.of_below (n0:=C.n0) (kb:=C.kb) b3);have l0:=zkf k0;have l1:=zkf k1;have l2:=zkf k2;obtain⟨hi,hhi⟩:=zX (w3.heap.size);rw[hhi]at dh h3 l0 l1 l2;have aZ:=zh dh;have H3:=zh h3;have K0:=zh k0;have K1:=zh k1;have K2:=zh k2;have iN:=zh (zoT dh h3 t1 _ n1)
 obtain⟨p1,⟨y0,y1,y2,y3⟩⟩:True/\(w3.cell? ⟨w2.heap.size,0,none⟩=some (zj t1.k)/\w3.cell? ⟨w2.heap.size,1,none⟩=some (zi t1.n)/\w3.cell? ⟨w2.heap.size,2,none⟩=some (.string t1.s)/\w3.cell? ⟨w2.heap.size,3,none⟩=some (.slice A1 t1.ks.length c1)):=⟨trivial,zc k1 rfl,zc k1 rfl,zc k1 rfl,zc k1 rfl⟩
 clear n1 n2 b2 b3 k0 k1 k2 hz2 dh h3 x0 x1 x2 x3 HX HB0 nQ p1 ht1 ht2;go_upto_region 2 with fail;clear hw3;go_wp2_with fail;refine iN.out.mono ?_;rintro e w4 ⟨hk4,hb4,eU⟩;have gT:=zh (bR.out.trans (Kpt.less (C:=C) hk4));have ay:=zh (show Below C.w.heap.size C.w w4 from hb4);clear y0 y1 y2 y3 iN;rcases eU with⟨x,rfl,hx⟩|⟨b,r1,rfl,hr1,hx⟩
 ·refine⟨rfl,gT.out,ay.out,?_⟩;rw[show brO C.p.prs C.F g back t r=.err x by unfold brO;rw[HT1.out];exact hx _]
 ·have k0:=hk4.blk (.inr (.inr ⟨zO,l0⟩)) K0.out;have k2:=hk4.blk (.inr (.inr ⟨zO,l2⟩)) K2.out;have HR4:=zh hr1;have lD:=zh (show brO C.p.prs C.F g back t r=(runO C.p.prs C.F g back (if b=true then kid t 1 else kid t 2) r1).bind (zkp C.F t2 b) by unfold brO;rw[HT1.out,HT2.out];exact hx _);have K4:=zh k0;have K5:=zh k2;have z3:w4.cell? ⟨W.heap.size,3,none⟩=some (.slice A t.ks.length c):=zc k0 rfl;have bA:=zh aD;clear hk4 hb4 hr1 hx k0 k2 aD
  cases b
  ·skip
   have hI:2<t.ks.length:=by have:=qp.out;omega
   have hI1:(2:Int)<(t.ks.length:Int):=zO
   obtain⟨a,u,Au,cu,rfl,-,hu,⟨p0,p1,p2,p3⟩,hnu⟩:=ae.out.nd hI;have gG:kid t 2=u:=by unfold kid;rw[List.getD_eq_getElem?_getD,List.getElem?_eq_getElem hI];exact hu.out
   have vD:=zh (show ∀x∈u.ks,G C.p.prs x by rw[<-gG];exact hG2);have gV:=zh (show brO C.p.prs C.F g back t r=(runO C.p.prs C.F g back u r1).bind (zkp C.F t2 false) by rw[lD.out];simp only[Bool.false_eq_true,if_false,if_true,gG]);have hgu:runO C.p.prs C.F g back u r1 ≠ .gas:=fun e=>bA.out (by rw[gV.out,e];rfl);have ax:=zh (zlq HS.out aZ.out HR4.out u _ back hnu vD.out hgu);have ha:a.add (2*4)=⟨a.block,a.off+8,none⟩:=by unfold Addr.add;split<;>simp_all
   rw[ha]at p0 p1 p2 p3;have q0:w4.cell? ⟨a.block,a.off+8,none⟩=some (zj u.k):=zb ay.out p0;have q1:w4.cell? ⟨a.block,a.off+8+1,none⟩=some (zi u.n):=zb ay.out p1;have q2:w4.cell? ⟨a.block,a.off+8+2,none⟩=some (.string u.s):=zb ay.out p2;have q3:w4.cell? ⟨a.block,a.off+8+3,none⟩=some (.slice Au u.ks.length cu):=zb ay.out p3;clear gG hnu hu p0 p1 p2 p3 hgu;go_wp2_with fail;refine ax.out.mono ?_;rintro e w5 ⟨hk5,hb5,lH⟩;have fM:=zh (gT.out.trans (Kpt.less (C:=C) hk5));have aS:=zh (show Below C.w.heap.size C.w w5 from hb5);have cz:match runO C.p.prs C.F g back u r1 with
    | .gas=>True
    | .err x=>e=zlM x
    | .ok r=>(∃u,e=.returned u)/\RI (C.plus W.heap.size hi) w5 r:=lH
   have k5:=hk5.blk (.inr (.inr ⟨zO,l2⟩)) K5.out;have K6:=zh k5;clear q0 q1 q2 q3 z3 hk5 hb5 lH k5
   cases hx:runO C.p.prs C.F g back u r1 with
   | gas=>exact absurd (by rw[gV.out,hx];rfl) bA.out
   | err x =>
    rw[hx]at cz;subst cz;refine⟨rfl,fM.out,aS.out,?_⟩;rw[gV.out,hx];rfl
   | ok r2 =>
    rw[hx]at cz;obtain⟨⟨u2,rfl⟩,hr2⟩:=cz;have HAS:=zh (zm9 aZ.out hr2 t2 _ aF.out false);have jS:=zh (show brO C.p.prs C.F g back t r=zkp C.F t2 false r2 by rw[gV.out,hx];rfl);have q0:w5.cell? ⟨w2.heap.size+1,0,none⟩=some (zj t2.k):=zc K6.out rfl;have q1:w5.cell? ⟨w2.heap.size+1,1,none⟩=some (zi t2.n):=zc K6.out rfl;have q2:w5.cell? ⟨w2.heap.size+1,2,none⟩=some (.string t2.s):=zc K6.out rfl;have q3:w5.cell? ⟨w2.heap.size+1,3,none⟩=some (.slice A2 t2.ks.length c2):=zc K6.out rfl;clear hx hr2;go_wp2_with fail;refine HAS.out.mono ?_;rintro e w6 ⟨bG,hb6,jV⟩;have eP:=zh (fM.out.trans (Kpt.less (C:=C) bG));have bB:=zh (show Below C.w.heap.size C.w w6 from hb6);have bZ:match zkp C.F t2 false r2 with
     | .gas=>True
     | .err x=>e=zlM x
     | .ok r=>(∃u,e=.returned u)/\RI (C.plus W.heap.size hi) w6 r:=jV
    clear q0 q1 q2 q3 bG hb6 jV
    cases hy:zkp C.F t2 false r2 with
    | gas=>exact absurd (by rw[jS.out,hy]) bA.out
    | err x =>
     rw[hy]at bZ;subst bZ;refine⟨rfl,eP.out,bB.out,?_⟩;rw[jS.out,hy]
    | ok r3 =>
     rw[hy]at bZ;obtain⟨⟨u3,rfl⟩,hr3⟩:=bZ;have dZ:=zh hr3.less;have vT:=zh (show brO C.p.prs C.F g back t r=.ok r3 by rw[jS.out,hy]);clear hr3 hy;go_wp2_with fail;go_end0;refine⟨eP.out,bB.out,?_⟩;rw[vT.out];exact⟨⟨_,rfl⟩,dZ.out⟩
  ·skip
   have hI:1<t.ks.length:=by have:=qp.out;omega
   have hI1:(1:Int)<(t.ks.length:Int):=zO
   obtain⟨a,u,Au,cu,rfl,-,hu,⟨p0,p1,p2,p3⟩,hnu⟩:=ae.out.nd hI;have gG:kid t 1=u:=by unfold kid;rw[List.getD_eq_getElem?_getD,List.getElem?_eq_getElem hI];exact hu.out
   have vD:=zh (show ∀x∈u.ks,G C.p.prs x by rw[<-gG];exact hG1);have gV:=zh (show brO C.p.prs C.F g back t r=(runO C.p.prs C.F g back u r1).bind (zkp C.F t2 true) by rw[lD.out];simp only[Bool.false_eq_true,if_false,if_true,gG]);have hgu:runO C.p.prs C.F g back u r1 ≠ .gas:=fun e=>bA.out (by rw[gV.out,e];rfl);have ax:=zh (zlq HS.out aZ.out HR4.out u _ back hnu vD.out hgu);have ha:a.add (1*4)=⟨a.block,a.off+4,none⟩:=by unfold Addr.add;split<;>simp_all
   rw[ha]at p0 p1 p2 p3;have q0:w4.cell? ⟨a.block,a.off+4,none⟩=some (zj u.k):=zb ay.out p0;have q1:w4.cell? ⟨a.block,a.off+4+1,none⟩=some (zi u.n):=zb ay.out p1;have q2:w4.cell? ⟨a.block,a.off+4+2,none⟩=some (.string u.s):=zb ay.out p2;have q3:w4.cell? ⟨a.block,a.off+4+3,none⟩=some (.slice Au u.ks.length cu):=zb ay.out p3;clear gG hnu hu p0 p1 p2 p3 hgu;go_wp2_with fail;refine ax.out.mono ?_;rintro e w5 ⟨hk5,hb5,lH⟩;have fM:=zh (gT.out.trans (Kpt.less (C:=C) hk5));have aS:=zh (show Below C.w.heap.size C.w w5 from hb5);have cz:match runO C.p.prs C.F g back u r1 with
    | .gas=>True
    | .err x=>e=zlM x
    | .ok r=>(∃u,e=.returned u)/\RI (C.plus W.heap.size hi) w5 r:=lH
   have k5:=hk5.blk (.inr (.inr ⟨zO,l2⟩)) K5.out;have K6:=zh k5;clear q0 q1 q2 q3 z3 hk5 hb5 lH k5
   cases hx:runO C.p.prs C.F g back u r1 with
   | gas=>exact absurd (by rw[gV.out,hx];rfl) bA.out
   | err x =>
    rw[hx]at cz;subst cz;refine⟨rfl,fM.out,aS.out,?_⟩;rw[gV.out,hx];rfl
   | ok r2 =>
    rw[hx]at cz;obtain⟨⟨u2,rfl⟩,hr2⟩:=cz;have HAS:=zh (zm9 aZ.out hr2 t2 _ aF.out true);have jS:=zh (show brO C.p.prs C.F g back t r=zkp C.F t2 true r2 by rw[gV.out,hx];rfl);have q0:w5.cell? ⟨w2.heap.size+1,0,none⟩=some (zj t2.k):=zc K6.out rfl;have q1:w5.cell? ⟨w2.heap.size+1,1,none⟩=some (zi t2.n):=zc K6.out rfl;have q2:w5.cell? ⟨w2.heap.size+1,2,none⟩=some (.string t2.s):=zc K6.out rfl;have q3:w5.cell? ⟨w2.heap.size+1,3,none⟩=some (.slice A2 t2.ks.length c2):=zc K6.out rfl;clear hx hr2;go_wp2_with fail;refine HAS.out.mono ?_;rintro e w6 ⟨bG,hb6,jV⟩;have eP:=zh (fM.out.trans (Kpt.less (C:=C) bG));have bB:=zh (show Below C.w.heap.size C.w w6 from hb6);have bZ:match zkp C.F t2 true r2 with
     | .gas=>True
     | .err x=>e=zlM x
     | .ok r=>(∃u,e=.returned u)/\RI (C.plus W.heap.size hi) w6 r:=jV
    clear q0 q1 q2 q3 bG hb6 jV
    cases hy:zkp C.F t2 true r2 with
    | gas=>exact absurd (by rw[jS.out,hy]) bA.out
    | err x =>
     rw[hy]at bZ;subst bZ;refine⟨rfl,eP.out,bB.out,?_⟩;rw[jS.out,hy]
    | ok r3 =>
     rw[hy]at bZ;obtain⟨⟨u3,rfl⟩,hr3⟩:=bZ;have dZ:=zh hr3.less;have vT:=zh (show brO C.p.prs C.F g back t r=.ok r3 by rw[jS.out,hy]);clear hr3 hy;go_wp2_with fail;go_end0;refine⟨eP.out,bB.out,?_⟩;rw[vT.out];exact⟨⟨_,rfl⟩,dZ.out⟩
def Up(n:Nat)(o:Out):Prop:=∀r,o=.ok r->n<=r.n
section
variable {m n:Nat} {o:Out} {F:Int} {t:T} {r:RS}
theorem Up.of(h:Good n o):Up n o:=h.2
theorem Up.mono(h:Up n o)(hm:m<=n):Up m o:=fun r e=>Nat.le_trans hm (h r e)
theorem Up.bind{f:RS->Out}(h:Up n o)(hf:∀r,n<=r.n->Up m (f r)):Up m (o.bind f):=by
 cases o with
 | gas=>intro r e;cases e
 | err x=>intro r e;cases e
 | ok r=>exact hf r (h r rfl)
theorem zrI{f:Int->RS->Out}(hf:∀x,Up m (f x r)):Up m (valO t r f):=by
 unfold valO
 split
 ·intro r e;cases e
 ·exact hf _
theorem zoU{f:Bool->RS->Out}(hf:∀b r',r.n+1<=r'.n->Up m (f b r')):Up m (zk7 F t r f):=by
 unfold zk7;exact(Up.of (zkt F r)).bind fun r' h=>zrI fun x=>hf _ _ h
theorem zm8{f:T->RS->Out}(hf:∀t r,Up r.n (f t r)):∀(l:List T) (r:RS),Up r.n (zkP f l r)
 | [],r=>fun r' e=>by injection e with e;subst e;exact zl
 | t::ts,r=>by
  rw[zkP];exact(hf t r).bind fun r1 h1=>(zm8 hf ts r1).mono h1
theorem zs3{f:T->RS->Out}(hf:∀t r,Up r.n (f t r)){entry test:T}{l1 l2:List T}:∀(m:Nat) (r:RS),Up r.n (zlS F f entry test l1 l2 m r)
 | 0,_=>fun r' e=>by cases e
 | m+1,r=>by
  rw[zlS];refine(zm8 hf l1 r).bind fun r1 h1=>zoU fun b r2 h2=>?_
  split
  ·intro r' e;injection e with e;subst e;omega
  ·refine(zm8 hf l2 r2).bind fun r3 h3=>(Up.of (zls F entry false r3)).bind fun r4 h4=>?_;exact(zs3 hf m r4).mono zO
end
theorem zon{prs:List PR}{F:Int}:∀(g:Nat) (back:Bool) (t:T) (r:RS),Up r.n (zkq prs F g back t r)
 | 0,_,_,_=>fun r' e=>by cases e
 | g+1,back,t,r=>by
  have hb:∀(back:Bool) l r1,Up r1.n (zkP (zkq prs F g back) l r1):=fun back l r1=>zm8 (fun u r2=>zon g back u r2) l r1;rw[zkq]
  split
  ·exact zoU fun b r1 h1=>(hb _ _ r1).bind fun r2 h2=>(Up.of (zls _ _ _ _)).mono zO
  ·split
   ·refine(Up.of (zls _ _ _ _)).bind fun r1 h1=>?_;exact(zs3 (fun u r2=>zon g back u r2) g r1).mono zO
   ·split
    ·refine(Up.of (zkt F r)).bind fun r1 h1=>zrI fun x=>?_;refine(Up.of (zkD r1 _)).bind fun r2 h2=>(hb _ _ r2).bind fun r3 h3=>(Up.of (zkt F r3)).bind fun r4 h4=>zrI fun x=>?_;exact(Up.of (zkD r4 _)).mono zO
    ·split
     ·refine(Up.of (zkt F r)).bind fun r1 h1=>?_;refine(Up.of (zkD r1 _)).bind fun r2 h2=>(hb _ _ r2).bind fun r3 h3=>(Up.of (zkt F r3)).bind fun r4 h4=>?_;exact(Up.of (zkD r4 _)).mono zO
     ·split
      ·split
       ·intro r' e;cases e
       ·refine(Up.of (zkt F r)).bind fun r1 h1=>?_;refine(Up.of (zkD r1 _)).bind fun r2 h2=>(hb _ _ _).bind fun r3 h3=>(Up.of (zkt F r3)).bind fun r4 h4=>?_;exact(Up.of (zkD r4 _)).mono (by simp only at h3;omega)
      ·refine(Up.of (zkt F r)).bind fun r1 h1=>?_;exact(Up.of (zkD r1 _)).mono zO
def lpO(prs:List PR)(F:Int)(g:Nat)(back:Bool)(t:T)(r:RS):Out :=
 (zkp F (fstT back t) true r).bind (zlS F (zkq prs F g back) (fstT back t) (lstT back t) (blkL back (kid t 1)) (blkL back (kid t 2)) g)
def stp(rb:Nat)(W:World):Nat:=match W.cell? ⟨rb,7,none⟩with
 | some (.int _ n)=>n.toNat
 | _=>0
theorem zyS{C:RC}{W:World}{r:RS}(h:RI C W r):stp C.rb W=r.n:=by
 unfold stp;rw[h.cells.2.1];simp
theorem zxF{G:List PR->T->Prop}{g:Nat}(hS:IStC G g){C:RC}(hC:C.Ok){W:World}{r:RS}(h:RI C W r)(t:T)(v:Value)(back:Bool)(hv:NV C.w Any t v)(hk:t.ks.length=4)(hG1:∀u∈(kid t 1).ks,G C.p.prs u)(hG2:∀u∈(kid t 2).ks,G C.p.prs u)
  (aD:lpO C.p.prs C.F g back t r ≠ .gas) :
  Calls prog 133 #[.pointer (some ⟨C.rb,0,none⟩),v,.bool back] W (RunP C W (lpO C.p.prs C.F g back t r)):=by
 obtain⟨A,c,rfl,-,hlk,hlc,hrow⟩:=hv.open_;have ae:=zh hrow;have HS:=zh hS;have HV:=zh hv;have hb0:=zkb (zs W) (.cells #[zj t.k,zi t.n,.string t.s,.slice A t.ks.length c] 28);obtain⟨x0,x1,x2,x3⟩:=box4 (heap_alloc_new W (.cells #[zj t.k,zi t.n,.string t.s,.slice A t.ks.length c] 28));have HB0:=zh hb0;have H:=zh h;have HC:=zh hC;have HX:=zh (heap_alloc_new W (.cells #[zj t.k,zi t.n,.string t.s,.slice A t.ks.length c] 28));have nQ:=zh (fun w' (hb:zw W w')=>zqp t _ back C.w w' (zka h.below hb) hv zO);have qp:=zh hk;clear hrow hS hb0 h hv hk hC hlk;go_enter func133,ntmps133;go_wp2_with fail;refine(nQ.out _ HB0.out).mono ?_;rintro e w2 ⟨v1,v2,rfl,n1,n2,b2⟩;obtain⟨t1,ht1⟩:=zX (fstT back t);obtain⟨t2,ht2⟩:=zX (lstT back t);have HT1:=zh ht1;have HT2:=zh ht2;rw[ht1]at n1;rw[ht2]at n2;obtain⟨A1,c1,rfl,-⟩:=n1.open_
 obtain⟨A2,c2,rfl,-⟩:=n2.open_;have fA:=zh n1;have aF:=zh n2;have b3:=zkb (zkb (zka HB0.out b2) (.cells #[zj t1.k,zi t1.n,.string t1.s,.slice A1 t1.ks.length c1] 28)) (.cells #[zj t2.k,zi t2.n,.string t2.s,.slice A2 t2.ks.length c2] 28);have k0:=zkd (zkd (zkc HX.out b2) (.cells #[zj t1.k,zi t1.n,.string t1.s,.slice A1 t1.ks.length c1] 28)) (.cells #[zj t2.k,zi t2.n,.string t2.s,.slice A2 t2.ks.length c2] 28);have k1:=zkd (heap_alloc_new w2 (.cells #[zj t1.k,zi t1.n,.string t1.s,.slice A1 t1.ks.length c1] 28)) (.cells #[zj t2.k,zi t2.n,.string t2.s,.slice A2 t2.ks.length c2] 28);have k2:=heap_alloc_new (w2.alloc (.cells #[zj t1.k,zi t1.n,.string t1.s,.slice A1 t1.ks.length c1] 28)) (.cells #[zj t2.k,zi t2.n,.string t2.s,.slice A2 t2.ks.length c2] 28)
 simp only[World.size_alloc]at k2;obtain⟨w3,hw3⟩:=zX ((w2.alloc (.cells #[zj t1.k,zi t1.n,.string t1.s,.slice A1 t1.ks.length c1] 28)).alloc (.cells #[zj t2.k,zi t2.n,.string t2.s,.slice A2 t2.ks.length c2] 28));rw[hw3]at b3 k0 k1 k2;have hz2:=zka HB0.out b2;have hzz:=hz2.size;obtain⟨dh,h3⟩:=H.out.plus HC.out b3;have bR:=zh (Kpt.of_below (n0:=C.n0) (kb:=C.kb) b3);have l0:=zkf k0;have l1:=zkf k1;have l2:=zkf k2;obtain⟨hi,hhi⟩:=zX (w3.heap.size);rw[hhi]at dh h3 l0 l1 l2;have aZ:=zh dh;have H3:=zh h3;have K0:=zh k0;have K1:=zh k1;have K2:=zh k2;have iN:=zh (zm9 dh h3 t1 _ n1 true)
 obtain⟨p1,⟨y0,y1,y2,y3⟩⟩:True/\(w3.cell? ⟨w2.heap.size,0,none⟩=some (zj t1.k)/\w3.cell? ⟨w2.heap.size,1,none⟩=some (zi t1.n)/\w3.cell? ⟨w2.heap.size,2,none⟩=some (.string t1.s)/\w3.cell? ⟨w2.heap.size,3,none⟩=some (.slice A1 t1.ks.length c1)):=⟨trivial,zc k1 rfl,zc k1 rfl,zc k1 rfl,zc k1 rfl⟩
 clear n1 n2 b2 b3 k0 k1 k2 hz2 dh h3 x0 x1 x2 x3 HX HB0 nQ p1 ht1 ht2;go_upto_region 2 with fail;clear hw3;obtain⟨o,ho⟩:=zX (lpO C.p.prs C.F g back t r);have HO:=zh (show(zkp C.F t1 true r).bind (zlS C.F (zkq C.p.prs C.F g back) t1 t2 (blkL back (kid t 1)) (blkL back (kid t 2)) g)=o by rw[<-ho];unfold lpO;rw[HT1.out,HT2.out]);rw[ho]at aD ⊢;have bA:=zh aD;have bO:=zh ho;clear aD ho;go_wp2_with fail;refine iN.out.mono ?_;rintro e w4 ⟨hk4,hb4,eU⟩;have gT:=zh (bR.out.trans (Kpt.less (C:=C) hk4));have ay:=zh (show Below C.w.heap.size C.w w4 from hb4);have bu:match zkp C.F t1 true r with
  | .gas=>True
  | .err x=>e=zlM x
  | .ok r=>(∃u,e=.returned u)/\RI (C.plus W.heap.size hi) w4 r:=eU
 have dI:=zh hk4;clear y0 y1 y2 y3 iN hk4 hb4 eU
 cases hy:zkp C.F t1 true r with
 | gas=>exact absurd (by rw[<-HO.out,hy];rfl) bA.out
 | err x =>
  rw[hy]at bu;subst bu;refine⟨rfl,gT.out,ay.out,?_⟩;rw[<-HO.out,hy];rfl
 | ok r1 =>
  rw[hy]at bu;obtain⟨⟨u3,rfl⟩,hr1⟩:=bu;have HR4:=zh hr1;have ja:=zh (show zlS C.F (zkq C.p.prs C.F g back) t1 t2 (blkL back (kid t 1)) (blkL back (kid t 2)) g r1=o by rw[<-HO.out,hy];rfl);clear hr1 hy;have hI1:(1:Int)<(t.ks.length:Int):=by have:=qp.out;omega
  have hI2:(2:Int)<(t.ks.length:Int):=by have:=qp.out;omega
  have hi1:1<t.ks.length:=zO
  have hi2:2<t.ks.length:=zO
  obtain⟨a,u,Au,cu,rfl,-,hu,⟨p0,p1,p2,p3⟩,hnu⟩:=ae.out.nd hi1;obtain⟨a',u',Au',cu',e',-,hu',⟨p4,p5,p6,p7⟩,hnu'⟩:=ae.out.nd hi2;injection e' with e';subst e';have gG:kid t 1=u:=by unfold kid;rw[List.getD_eq_getElem?_getD,List.getElem?_eq_getElem hi1];exact hu.out
  have sM:kid t 2=u':=by unfold kid;rw[List.getD_eq_getElem?_getD,List.getElem?_eq_getElem hi2];exact hu'.out
  rw[gG]at hG1;rw[sM]at hG2;rw[gG,sM]at ja;have vH:=zh hG1;have HG2:=zh hG2;have uR:=zh hnu;have HNU':=zh hnu';have ha:a.add (1*4)=⟨a.block,a.off+4,none⟩:=by unfold Addr.add;split<;>simp_all
  have ha':a.add (2*4)=⟨a.block,a.off+8,none⟩:=by unfold Addr.add;split<;>simp_all
  rw[ha]at p0 p1 p2 p3;rw[ha']at p4 p5 p6 p7;have HPP:=zh (show ∀w',Below C.w.heap.size C.w w'->(w'.cell? ⟨a.block,a.off+4,none⟩=some (zj u.k)/\w'.cell? ⟨a.block,a.off+4+1,none⟩=some (zi u.n)/\w'.cell? ⟨a.block,a.off+4+2,none⟩=some (.string u.s)/\w'.cell? ⟨a.block,a.off+4+3,none⟩=some (.slice Au u.ks.length cu))/\(w'.cell? ⟨a.block,a.off+8,none⟩=some (zj u'.k)/\w'.cell? ⟨a.block,a.off+8+1,none⟩=some (zi u'.n)/\w'.cell? ⟨a.block,a.off+8+2,none⟩=some (.string u'.s)/\w'.cell? ⟨a.block,a.off+8+3,none⟩=some (.slice Au' u'.ks.length cu'))from fun w' hb=>⟨⟨zb hb p0,zb hb p1,zb hb p2,zb hb p3⟩,⟨zb hb p4,zb hb p5,zb hb p6,zb hb p7⟩⟩);clear gG sM hnu hnu' hu hu' p0 p1 p2 p3 p4 p5 p6 p7 ha ha' hG1 hG2;have hz0:W.heap.size<hi:=l0;go_wp2_with fail
  go_loopw [] (fun wr=>∃(m:Nat) (r1:RS),Hid (RI (C.plus W.heap.size hi) wr r1)/\Hid (Kpt C.n0 (C.plus W.heap.size hi).kb w3 wr)/\Hid (zlS C.F (zkq C.p.prs C.F g back) t1 t2 (blkL back u) (blkL back u') m r1=o)) (fun wr=>C.F.toNat-stp C.rb wr)
  case atStart=>exact⟨g,r1,HR4,dI,ja⟩
  case round =>
   obtain⟨m,r3,HR,HK,HL⟩:=hrel;have j0:=HK.out.blk (.inr (.inr ⟨zO,l0⟩)) K0.out;have j1:=HK.out.blk (.inr (.inr ⟨zO,l1⟩)) K1.out;have j2:=HK.out.blk (.inr (.inr ⟨zO,l2⟩)) K2.out;have z3:wr.cell? ⟨W.heap.size,3,none⟩=some (.slice (some a) t.ks.length c):=zc j0 rfl
   cases m with
   | zero=>exact absurd HL.out.symm bA.out
   | succ m =>
    have HL2:=zh (show(runO C.p.prs C.F g back u r3).bind (fun r=>zk7 C.F t2 r fun b r=>if b=true then .ok r else(runO C.p.prs C.F g back u' r).bind fun r=>(zkp C.F t1 false r).bind (zlS C.F (zkq C.p.prs C.F g back) t1 t2 (blkL back u) (blkL back u') m))=o from HL.out);have hgu:runO C.p.prs C.F g back u r3 ≠ .gas:=fun e=>bA.out (by rw[<-HL2.out,e];rfl);have ax:=zh (zlq HS.out aZ.out HR.out u _ back uR.out vH.out hgu);obtain⟨⟨q0,q1,q2,q3⟩,-⟩:=HPP.out wr HR.out.below;clear hgu j0 j1 j2;go_wp2_with fail;refine ax.out.mono ?_;rintro e w5 ⟨hk5,hb5,lH⟩;have fM:=zh (HK.out.trans hk5);have aS:=zh (show Below C.w.heap.size C.w w5 from hb5);have cz:match runO C.p.prs C.F g back u r3 with
     | .gas=>True
     | .err x=>e=zlM x
     | .ok r=>(∃u,e=.returned u)/\RI (C.plus W.heap.size hi) w5 r:=lH
    clear q0 q1 q2 q3 z3 hk5 hb5 lH ax
    cases hx:runO C.p.prs C.F g back u r3 with
    | gas=>exact absurd (by rw[<-HL2.out,hx];rfl) bA.out
    | err x =>
     rw[hx]at cz;subst cz;refine⟨rfl,bR.out.trans (Kpt.less (C:=C) fM.out),aS.out,?_⟩
     try rw[bO.out]
     rw[<-HL2.out,hx];rfl
    | ok r4 =>
     rw[hx]at cz;obtain⟨⟨u2,rfl⟩,hr4⟩:=cz;have wK:=zh (zm8 (fun t r=>zon g back t r) (blkL back u) r3 r4 hx);have yn:=zh (show(zk7 C.F t2 r4 fun b r=>if b=true then .ok r else(runO C.p.prs C.F g back u' r).bind fun r=>(zkp C.F t1 false r).bind (zlS C.F (zkq C.p.prs C.F g back) t1 t2 (blkL back u) (blkL back u') m))=o by rw[<-HL2.out,hx];rfl);have HHO2:=zh (zoT aZ.out hr4 t2 _ aF.out);have j2:=fM.out.blk (.inr (.inr ⟨zO,l2⟩)) K2.out;have q0:w5.cell? ⟨w2.heap.size+1,0,none⟩=some (zj t2.k):=zc j2 rfl;have q1:w5.cell? ⟨w2.heap.size+1,1,none⟩=some (zi t2.n):=zc j2 rfl;have q2:w5.cell? ⟨w2.heap.size+1,2,none⟩=some (.string t2.s):=zc j2 rfl;have q3:w5.cell? ⟨w2.heap.size+1,3,none⟩=some (.slice A2 t2.ks.length c2):=zc j2 rfl;clear hx hr4 j2;go_wp2_with fail;refine HHO2.out.mono ?_;rintro e w6 ⟨bG,hb6,jV⟩;have eP:=zh (fM.out.trans bG)
     have bB:=zh (show Below C.w.heap.size C.w w6 from hb6);clear q0 q1 q2 q3 bG hb6 HHO2;rcases jV with⟨x,rfl,hx⟩|⟨b,r5,rfl,kG,hx⟩
     ·refine⟨rfl,bR.out.trans (Kpt.less (C:=C) eP.out),bB.out,?_⟩
      try rw[bO.out]
      rw[<-yn.out,show ∀f,zk7 C.F t2 r4 f=.err x from hx]
     ·have dZ:=zh kG;have HL4:=zh (show(if b=true then .ok r5 else(runO C.p.prs C.F g back u' r5).bind fun r=>(zkp C.F t1 false r).bind (zlS C.F (zkq C.p.prs C.F g back) t1 t2 (blkL back u) (blkL back u') m))=o by rw[<-yn.out,show ∀f,zk7 C.F t2 r4 f=f b r5 from hx]);have HUP2:=zh (zoU (t:=t2) (F:=C.F) (r:=r4) (m:=r4.n+1) (f:=fun _ r=>.ok r) (fun b r' h r'' e=>by injection e with e;subst e;exact h) r5 (hx _));clear hx kG
      cases b
      ·have wS:=zh (show(runO C.p.prs C.F g back u' r5).bind (fun r=>(zkp C.F t1 false r).bind (zlS C.F (zkq C.p.prs C.F g back) t1 t2 (blkL back u) (blkL back u') m))=o from HL4.out);have hgu:runO C.p.prs C.F g back u' r5 ≠ .gas:=fun e=>bA.out (by rw[<-wS.out,e];rfl);have ax:=zh (zlq HS.out aZ.out dZ.out u' _ back HNU'.out HG2.out hgu);have j0:=eP.out.blk (.inr (.inr ⟨zO,l0⟩)) K0.out;have z3:w6.cell? ⟨W.heap.size,3,none⟩=some (.slice (some a) t.ks.length c):=zc j0 rfl;obtain⟨-,q0,q1,q2,q3⟩:=HPP.out w6 bB.out;clear hgu j0;go_wp2_with fail;refine ax.out.mono ?_;rintro e w7 ⟨mr,eF,ho7⟩;have uZ:=zh (eP.out.trans mr);have kD:=zh (show Below C.w.heap.size C.w w7 from eF);have oV:match runO C.p.prs C.F g back u' r5 with
        | .gas=>True
        | .err x=>e=zlM x
        | .ok r=>(∃u,e=.returned u)/\RI (C.plus W.heap.size hi) w7 r:=ho7
       clear q0 q1 q2 q3 z3 mr eF ho7 ax
       cases hx:runO C.p.prs C.F g back u' r5 with
       | gas=>exact absurd (by rw[<-wS.out,hx];rfl) bA.out
       | err x =>
        rw[hx]at oV;subst oV;refine⟨rfl,bR.out.trans (Kpt.less (C:=C) uZ.out),kD.out,?_⟩
        try rw[bO.out]
        rw[<-wS.out,hx];rfl
       | ok r6 =>
        rw[hx]at oV;obtain⟨⟨u2,rfl⟩,df⟩:=oV;have HUP3:=zh (zm8 (fun t r=>zon g back t r) (blkL back u') r5 r6 hx);have Cs:=zh (show(zkp C.F t1 false r6).bind (zlS C.F (zkq C.p.prs C.F g back) t1 t2 (blkL back u) (blkL back u') m)=o by rw[<-wS.out,hx];rfl);have HAS:=zh (zm9 aZ.out df t1 _ fA.out false);have j1:=uZ.out.blk (.inr (.inr ⟨zO,l1⟩)) K1.out;have q0:w7.cell? ⟨w2.heap.size,0,none⟩=some (zj t1.k):=zc j1 rfl;have q1:w7.cell? ⟨w2.heap.size,1,none⟩=some (zi t1.n):=zc j1 rfl;have q2:w7.cell? ⟨w2.heap.size,2,none⟩=some (.string t1.s):=zc j1 rfl;have q3:w7.cell? ⟨w2.heap.size,3,none⟩=some (.slice A1 t1.ks.length c1):=zc j1 rfl;clear hx df j1;go_wp2_with fail;refine HAS.out.mono ?_;rintro e w8 ⟨lI,dM,qG⟩;have qw:=zh (uZ.out.trans lI);have iQ:=zh (show Below C.w.heap.size C.w w8 from dM)
        have bY:match zkp C.F t1 false r6 with
         | .gas=>True
         | .err x=>e=zlM x
         | .ok r=>(∃u,e=.returned u)/\RI (C.plus W.heap.size hi) w8 r:=qG
        clear q0 q1 q2 q3 lI dM qG HAS
        cases hy:zkp C.F t1 false r6 with
        | gas=>exact absurd (by rw[<-Cs.out,hy];rfl) bA.out
        | err x =>
         rw[hy]at bY;subst bY;refine⟨rfl,bR.out.trans (Kpt.less (C:=C) qw.out),iQ.out,?_⟩
         try rw[bO.out]
         rw[<-Cs.out,hy];rfl
        | ok r7 =>
         rw[hy]at bY;obtain⟨⟨u3,rfl⟩,eT⟩:=bY;have kr:=zh eT;have HL7:=zh (show zlS C.F (zkq C.p.prs C.F g back) t1 t2 (blkL back u) (blkL back u') m r7=o by rw[<-Cs.out,hy];rfl);have hmm:C.F.toNat-stp C.rb w8<C.F.toNat-stp C.rb wr:=by
          have e1:stp C.rb w8=r7.n:=zyS (C:=C.plus W.heap.size hi) kr.out;have e2:stp C.rb wr=r3.n:=zyS (C:=C.plus W.heap.size hi) HR.out;obtain⟨e3,e4⟩:=zn2 hy;have e5:=wK.out;have e6:=HUP2.out;have e7:=HUP3.out;have e8:r7.n=r6.n+1:=by rw[e3]
          omega
         have wR:=zh hmm;clear eT hy hmm;go_wp2_with fail
         go_roundw
         case rel=>exact⟨m,r7,kr,qw,HL7⟩
         case measure=>exact wR.out
      ·have wS:=zh (show o=.ok r5 from HL4.out.symm);have oD:=zh dZ.out.less;go_wp2_with fail;go_end0;refine⟨bR.out.trans (Kpt.less (C:=C) eP.out),bB.out,?_⟩
       try rw[bO.out]
       rw[wS.out];exact⟨⟨_,rfl⟩,oD.out⟩
section
variable {C:RC} {W W':World} {r:RS} {S':ST}
theorem RI.store(h:RI C W r)(hk:KS C.w C.n0 C.sb (fun b=>C.kb b\/b=C.rb\/C.ev.ownBlock=some b) W' S')(hp:Kpt C.n0 (fun b=>C.kb b\/b=C.rb\/C.ev.ownBlock=some b) W W')(hf:FB r.n S') :
  RI C W' { r with S:=S' }/\Kpt C.n0 C.kb W W' :=
 ⟨⟨hk,hp.blk (.inr (.inr (.inl rfl))) h.box,znV h.ent fun b hb=>hp.kept b (h.ent.lt b hb).2 (.inr (.inr (.inr hb))),h.el,h.en,h.n,hf⟩,⟨hp.size,fun b hb hk=>hp.kept b hb (hk.imp id .inl)⟩⟩
end
theorem FB.fr{j:Nat}{S S':ST}(h:FB j S)(hf:FrK S S'):FB (j+1) S':=by
 obtain⟨h1,h2,_⟩:=hf;unfold FB;rw[h1,h2];exact h.mono (Nat.le_succ _)
theorem FB.cur{j:Nat}{S:ST}(h:FB j S):S.cur.vs.length<=1000+j:=by
 rcases Nat.eq_zero_or_pos S.calls.length with h0|h0
 ·rw[zmS h0];have:=h.1;omega
 ·rw[zna h0];exact h.2 _ (List.getElem_mem _)
theorem FB.setCur{j:Nat}{S:ST}(h:FB j S)(f:FR)(hf:f.vs.length<=S.cur.vs.length+1):FB (j+1) (S.setCur f):=by
 unfold ST.setCur;by_cases h0:S.calls.length=0
 ·rw[if_pos h0];rw[zmS h0]at hf;exact⟨by have:=h.1;show f.vs.length<=_;omega,(h.mono (Nat.le_succ _)).2⟩
 ·rw[if_neg h0];refine⟨(h.mono (Nat.le_succ _)).1,fun g hg=>?_⟩;rw[zna zO]at hf;rcases List.mem_or_eq_of_mem_set hg with hg|rfl
  ·exact(h.mono (Nat.le_succ _)).2 g hg
  ·have:=h.2 _ (List.getElem_mem (l:=S.calls) (n:=S.calls.length-1) zO);omega
theorem FB.open_{j:Nat}{S:ST}(h:FB j S)(v:VD)(x:Int):FB (j+1) (zlv S v x).2:=by
 unfold zlv
 repeat' split
 all_goals first|exact h.mono (Nat.le_succ _)|exact FB.setCur (S:=S.newCell _) h _ (by rw[znh];simp[FR.push])
theorem FB.close_{j:Nat}{S:ST}(h:FB j S)(s:ByteArray)(x:Int):FB (j+1) (zkW S s x).2:=by
 unfold zkW
 repeat' split
 all_goals first|exact h.mono (Nat.le_succ _)|skip
 all_goals exact h.setCur _ (by simp[FR.pop];omega)
theorem FB.enter{j:Nat}{S:ST}(h:FB j S)(ps:List VD)(ss:List ByteArray)(hp:ps.length<=1000):FB (j+1) (zly S ps ss).2:=by
 unfold zly
 split
 ·exact h.mono (Nat.le_succ _)
 ·rcases he:entL S.cur ⟨[],[],0⟩ (ps.zip ss)with e|f
  ·exact h.mono (Nat.le_succ _)
  ·unfold entR;dsimp only
   split
   ·exact h.mono (Nat.le_succ _)
   ·refine⟨(h.mono (Nat.le_succ _)).1,fun g hg=>?_⟩;rcases List.mem_append.1 hg with hg|hg
    ·exact(h.mono (Nat.le_succ _)).2 g hg
    ·simp at hg;subst hg;have:=zth _ _ _ he;simp at this;omega
theorem FB.leave{j:Nat}{S:ST}(h:FB j S):FB (j+1) (zlL S).2:=by
 unfold zlL
 split
 ·exact h.mono (Nat.le_succ _)
 ·exact⟨(h.mono (Nat.le_succ _)).1,fun g hg=>(h.mono (Nat.le_succ _)).2 g (List.mem_of_mem_take hg)⟩
theorem FB.do_{j:Nat}{S:ST}(h:FB j S)(t:T):FB (j+1) (doE S t).2:=h.fr (zv8 _ _)
theorem FB.undo{j:Nat}{S:ST}(h:FB j S)(t:T):FB (j+1) (zmi S t).2:=h.fr (zw8 _ _)
theorem zle{P:Program}{ops:Array Oper}{o:Oper}{a:Act}{w:World}{K:Act->World->Prop}{Q:Exit->Act->World->Prop}{F:Prop}(hw:Region.wanted o (yielded ops a.tmps)=true)(x:Operand)(xs:List Operand)(ats:Array TypeId)
  (ho:o.op=.call { callee:=.value x,args:=xs.toArray,argTypes:=ats })(f:FuncId)(fn:Func)(hf:IsFn P f fn)(hv:a.eval x=.func (.func f) #[] #[])(l:List Value)(hargs:xs.map a.eval=l)(R:Value->World->Prop)
  (hc:Calls P f l.toArray w fun e w'=>(∃v,e=.returned v/\R v w')\/∃ch,e=.panicked ch/\Q (.panic ch) a w')(h:∀v w',R v w'->K (a.put o.dst v) w') :
  if Region.wanted o (yielded ops a.tmps)=true then Oper.wp P o a w K Q else F:=by
 rw[if_pos hw];subst hargs;have e:(execOp a.eval o).run P w=.ok (.enter f (xs.map a.eval).toArray) w:=by
  unfold execOp;simp only[ho,resolve,hv,Deferred.ofValue,Sem.run_bind,Sem.run_pure,Result.andThen_ok,invoke,zkH hf,Array.empty_append,List.map_toArray,Array.append_empty]
 unfold Oper.wp;rw[e,Oper.upon_enter];refine hc.mono ?_;rintro e w' (⟨v,rfl,hR⟩|⟨ch,rfl,hq⟩)
 ·exact h v w' hR
 ·exact hq
theorem zvF:IsFn prog 154 f154:=⟨func154,zK,zK⟩
theorem zmA:IsFn prog 136 f136:=⟨func136,zK,zK⟩
theorem zvK:IsFn prog 137 f137:=⟨func137,zK,zK⟩
theorem ztb:IsFn prog 138 f138:=⟨func138,zK,zK⟩
def loR(prs:List PR)(F:Int)(g:Nat)(back:Bool)(t t2:T)(r:RS):Out :=
 (zkP (zkq prs F g back) (blkL back (kid t 1)) r).bind fun r=>(zkA F r).bind fun r=>valO t2 r fun x r=>zkk r (zkW r.S t.s x)
def loO(prs:List PR)(F:Int)(g:Nat)(back:Bool)(t:T)(r:RS):Out :=
 (zkA F r).bind fun r=>valO (fstT back t) r fun x r=>(zkk r (zlv r.S ⟨t.s,1,0⟩ x)).bind (loR prs F g back t (lstT back t))
theorem zvh{G:List PR->T->Prop}{g:Nat}(hS:IStC G g){C:RC}(hC:C.Ok){W:World}{r:RS}(h:RI C W r)(t:T)(v:Value)(back:Bool)(hv:NV C.w Any t v)(hk:t.ks.length=3)(hG1:∀u∈(kid t 1).ks,G C.p.prs u)
  (aD:loO C.p.prs C.F g back t r ≠ .gas) :
  Calls prog 134 #[.pointer (some ⟨C.rb,0,none⟩),v,.bool back] W (RunP C W (loO C.p.prs C.F g back t r)):=by
 obtain⟨A,c,rfl,-,hlk,hlc,hrow⟩:=hv.open_;have ae:=zh hrow;have HS:=zh hS;have HV:=zh hv;have hb0:=zkb (zs W) (.cells #[zj t.k,zi t.n,.string t.s,.slice A t.ks.length c] 28);obtain⟨x0,x1,x2,x3⟩:=box4 (heap_alloc_new W (.cells #[zj t.k,zi t.n,.string t.s,.slice A t.ks.length c] 28));have HB0:=zh hb0;have H:=zh h;have HC:=zh hC;have HX:=zh (heap_alloc_new W (.cells #[zj t.k,zi t.n,.string t.s,.slice A t.ks.length c] 28));have nQ:=zh (fun w' (hb:zw W w')=>zqp t _ back C.w w' (zka h.below hb) hv zO);have qp:=zh hk;clear hrow hS hb0 h hv hk hC hlk;go_enter func134,ntmps134;go_wp2_with fail;refine(nQ.out _ HB0.out).mono ?_;rintro e w2 ⟨v1,v2,rfl,n1,n2,b2⟩;obtain⟨t1,ht1⟩:=zX (fstT back t);obtain⟨t2,ht2⟩:=zX (lstT back t);have HT1:=zh ht1;have HT2:=zh ht2;rw[ht1]at n1;rw[ht2]at n2;obtain⟨A1,c1,rfl,-⟩:=n1.open_
 obtain⟨A2,c2,rfl,-⟩:=n2.open_;have fA:=zh n1;have aF:=zh n2;have b3:=zkb (zkb (zka HB0.out b2) (.cells #[zj t1.k,zi t1.n,.string t1.s,.slice A1 t1.ks.length c1] 28)) (.cells #[zj t2.k,zi t2.n,.string t2.s,.slice A2 t2.ks.length c2] 28);have k0:=zkd (zkd (zkc HX.out b2) (.cells #[zj t1.k,zi t1.n,.string t1.s,.slice A1 t1.ks.length c1] 28)) (.cells #[zj t2.k,zi t2.n,.string t2.s,.slice A2 t2.ks.length c2] 28);have k1:=zkd (heap_alloc_new w2 (.cells #[zj t1.k,zi t1.n,.string t1.s,.slice A1 t1.ks.length c1] 28)) (.cells #[zj t2.k,zi t2.n,.string t2.s,.slice A2 t2.ks.length c2] 28);have k2:=heap_alloc_new (w2.alloc (.cells #[zj t1.k,zi t1.n,.string t1.s,.slice A1 t1.ks.length c1] 28)) (.cells #[zj t2.k,zi t2.n,.string t2.s,.slice A2 t2.ks.length c2] 28)
 simp only[World.size_alloc]at k2;obtain⟨w3,hw3⟩:=zX ((w2.alloc (.cells #[zj t1.k,zi t1.n,.string t1.s,.slice A1 t1.ks.length c1] 28)).alloc (.cells #[zj t2.k,zi t2.n,.string t2.s,.slice A2 t2.ks.length c2] 28));rw[hw3]at b3 k0 k1 k2;have hz2:=zka HB0.out b2;have hzz:=hz2.size;obtain⟨dh,h3⟩:=H.out.plus HC.out b3;have bR:=zh (Kpt.of_below (n0:=C.n0) (kb:=C.kb) b3);have l0:=zkf k0;have l1:=zkf k1;have l2:=zkf k2;obtain⟨hi,hhi⟩:=zX (w3.heap.size);rw[hhi]at dh h3 l0 l1 l2;have aZ:=zh dh;have H3:=zh h3;have K0:=zh k0;have K1:=zh k1;have K2:=zh k2;have iN:=zh (zl9 dh h3)
 obtain⟨p1,⟨y0,y1,y2,y3⟩⟩:True/\(w3.cell? ⟨w2.heap.size,0,none⟩=some (zj t1.k)/\w3.cell? ⟨w2.heap.size,1,none⟩=some (zi t1.n)/\w3.cell? ⟨w2.heap.size,2,none⟩=some (.string t1.s)/\w3.cell? ⟨w2.heap.size,3,none⟩=some (.slice A1 t1.ks.length c1)):=⟨trivial,zc k1 rfl,zc k1 rfl,zc k1 rfl,zc k1 rfl⟩
 clear n1 n2 b2 b3 k0 k1 k2 hz2 dh h3 x0 x1 x2 x3 HX HB0 nQ p1 ht1 ht2;go_upto_region 2 with fail;clear hw3;obtain⟨o,ho⟩:=zX (loO C.p.prs C.F g back t r);have HO:=zh (show(zkA C.F r).bind (fun r=>valO t1 r fun x r=>(zkk r (zlv r.S ⟨t.s,1,0⟩ x)).bind (loR C.p.prs C.F g back t t2))=o by rw[<-ho];unfold loO loR;rw[HT1.out,HT2.out]);rw[ho]at aD ⊢;have bA:=zh aD;have bO:=zh ho;clear aD ho;go_wp2_with fail;refine iN.out.mono ?_;rintro e w4 ⟨hk4,hb4,eU⟩;have gT:=zh (bR.out.trans (Kpt.less (C:=C) hk4));have ay:=zh (show Below C.w.heap.size C.w w4 from hb4);have bu:match zkA C.F r with
  | .gas=>True
  | .err x=>e=zlM x
  | .ok r=>(∃u,e=.returned u)/\RI (C.plus W.heap.size hi) w4 r:=eU
 have dI:=zh hk4;clear y0 y1 y2 y3 iN hk4 hb4 eU
 cases hy:zkA C.F r with
 | gas=>exact absurd (by rw[<-HO.out,hy];rfl) bA.out
 | err x =>
  rw[hy]at bu;subst bu;refine⟨rfl,gT.out,ay.out,?_⟩;rw[<-HO.out,hy];rfl
 | ok r1 =>
  rw[hy]at bu;obtain⟨⟨u3,rfl⟩,hr1⟩:=bu;have HR4:=zh hr1;have ja:=zh (show(valO t1 r1 fun x r=>(zkk r (zlv r.S ⟨t.s,1,0⟩ x)).bind (loR C.p.prs C.F g back t t2))=o by rw[<-HO.out,hy];rfl);have iP:=zh (show FB r.n r1.S/\r1.n=r.n+1 by obtain⟨rfl,-⟩:=zkQ hy;exact⟨H.out.fb,rfl⟩);have j0:=dI.out.blk (.inr (.inr ⟨zO,l0⟩)) K0.out;have j1:=dI.out.blk (.inr (.inr ⟨zO,l1⟩)) K1.out;have dG:=zh (fun w' (hb:zw w4 w')=>zqE (hr1.later hb) t1 _ fA.out);have az:=zh (show ∀w',zw w4 w'->(fun w':World=>zv w' C.rb 6 (.pointer (some ⟨C.sb,0,none⟩))/\zv w' W.heap.size 2 (.string t.s)/\zN4 w' w2.heap.size (zj t1.k) (zi t1.n) (.string t1.s) (.slice A1 t1.ks.length c1)) w' from fun w' hb=>⟨zb hb hr1.cells.1,zb hb (zc j0 rfl),zb hb (zc j1 rfl),zb hb (zc j1 rfl),zb hb (zc j1 rfl),zb hb (zc j1 rfl)⟩);have ig:=zh (az.out _ zr.drew)
  clear hr1 hy j0 j1;go_upto_region 3 with fail;have hSS:zW (fun w':World=>zv w' C.rb 6 (.pointer (some ⟨C.sb,0,none⟩))/\zv w' W.heap.size 2 (.string t.s)/\zN4 w' w2.heap.size (zj t1.k) (zi t1.n) (.string t1.s) (.slice A1 t1.ks.length c1)) zU w4.drew:=⟨ig.out,trivial⟩
  refine zG hSS 12 ?_;refine zT 0 hSS ?_;refine zT 1 hSS ?_;refine zT 2 hSS ?_;refine zT 3 hSS ?_;refine zT 4 hSS ?_;refine zT 5 hSS ?_;refine zT 6 hSS ?_;refine zT 7 hSS ?_;refine zT 8 hSS ?_;refine zT 9 hSS ?_;have had:Calls prog 154 [.pointer (some ⟨C.rb,0,none⟩),nv t1.k t1.n t1.s A1 t1.ks.length c1].toArray w4.drew (ValP (C.plus W.heap.size hi) w4.drew t1 r1):=dG.out _ zr.drew;refine zo 10 fun K hK=>?_;refine zle zR (.func 154) [.tmp 24,.tmp 25] _ zR 154 _ zvF zR _ zR (fun v w'=>zw w4 w'/\∃x,v=zi x/\I64 x/\∀f,valO t1 r1 f=f x r1) (had.mono ?_) ?_
  ·rintro e y1 ⟨bE,hv1⟩;have b1:=zka (zs w4).drew bE;rcases hv1 with⟨x,rfl,hx⟩|⟨x,rfl,oM,hx⟩
   ·refine .inr ⟨_,rfl,?_⟩;refine⟨rfl,gT.out.trans (Kpt.of_below b1),zka ay.out b1,?_⟩
    try rw[bO.out]
    rw[<-ja.out,hx]
   ·exact .inl ⟨_,rfl,b1,x,rfl,oM,hx⟩
  rintro v5 w5 ⟨b5,x,rfl,hx,xe⟩;have aS:=zh b5;have uz:=zh hx;have iJ:=zh (show(zkk r1 (zlv r1.S ⟨t.s,1,0⟩ x)).bind (loR C.p.prs C.F g back t t2)=o by rw[<-ja.out,xe]);refine hK.out _ _ ⟨az.out _ b5,trivial⟩ ?_;clear hK K had b5 hx xe hSS dG;(try simp only[zQ]);obtain⟨R,hR⟩:=zX (zlv r1.S ⟨t.s,1,0⟩ x);have HRR:=zh hR;have dV:=iP.out.1.cur;have iB:=H.out.n;have had:Calls prog 137 [.pointer (some ⟨C.sb,0,none⟩),.agg #[.string t.s,zj 1,zi 0],zi x].toArray w5 fun e w'=>∃v,e=.returned v/\(v=zi R.1/\RI (C.plus W.heap.size hi) w' { r1 with S:=R.2 }/\Kpt C.n0 (C.plus W.heap.size hi).kb w5 w') :=
   ((HR4.out.later aS.out).ks.open_ ⟨t.s,1,0⟩ (by obtain⟨_,_,_,hf,-⟩:=HV.out.open_;exact⟨hf.2.2,⟨by simp only;omega,by simp only;omega⟩,⟨by simp only;omega,by simp only;omega⟩⟩) x uz.out zO).mono fun e w' ⟨h1,h2,h3⟩=>⟨_,h1,by rw[hR],(RI.store (C:=C.plus W.heap.size hi) (HR4.out.later aS.out) (hR▸h2) h3 (by rw[iP.out.2,<-hR];exact iP.out.1.open_ _ _))⟩
  refine zo 11 fun K hK=>?_;refine zln zR (.func 137) [.tmp 20,.tmp 23,.tmp 26] _ zR 137 _ zvK zR _ zR _ had ?_;rintro v6 w6 ⟨rfl,df,bG⟩;have fE:=zh (dI.out.trans ((Kpt.of_below aS.out).trans bG));have j0:=fE.out.blk (.inr (.inr ⟨zO,l0⟩)) K0.out;have j1:=fE.out.blk (.inr (.inr ⟨zO,l1⟩)) K1.out;have dZ:=zh df;have au:(fun w':World=>zv w' C.rb 6 (.pointer (some ⟨C.sb,0,none⟩))/\zv w' W.heap.size 2 (.string t.s)/\zN4 w' w2.heap.size (zj t1.k) (zi t1.n) (.string t1.s) (.slice A1 t1.ks.length c1)) w6:=⟨df.cells.1,zc j0 rfl,zc j1 rfl,zc j1 rfl,zc j1 rfl,zc j1 rfl⟩
  refine hK.out _ _ ⟨au,trivial⟩ ?_;have nE:=zh au;have bB:=zh df.below;clear hK K had df bG j0 j1 au ig az;(try simp only[zQ]);have eP:=zh (bR.out.trans (Kpt.less (C:=C) fE.out));rw[hR]at iJ;have had:=zlk ⟨C.rb,0,none⟩ R.1 w6;refine zp 12 fun K hK=>?_;refine zle zR (.func 136) [.tmp 16,.tmp 27] _ zR 136 _ zmA zR _ zR (fun v w'=>w'=w6/\R.1=0) (had.mono ?_) ?_
  ·rintro e y1 ⟨rfl,hv1⟩;rcases hv1 with⟨h0,u0,rfl⟩|⟨h0,rfl⟩
   ·exact .inl ⟨_,rfl,rfl,h0⟩
   ·refine .inr ⟨_,rfl,?_⟩;refine⟨rfl,eP.out,bB.out,?_⟩
    try rw[bO.out]
    rw[<-iJ.out,show zkk r1 R=.err R.1 by unfold zkk;rw[if_pos h0]];rfl
  rintro v7 w7 ⟨rfl,h0⟩;have qi:=zh (show loR C.p.prs C.F g back t t2 { r1 with S:=R.2 }=o by rw[<-iJ.out,show zkk r1 R=.ok { r1 with S:=R.2 } by unfold zkk;rw[if_neg (by simpa using h0)]];rfl);refine hK.out _ _ nE.out ?_;clear hK K had h0;(try simp only[zQ]);refine zd ?_;obtain⟨r2,hr2⟩:=zX (({ r1 with S:=R.2 }:RS));rw[hr2]at dZ qi;have hI:1<t.ks.length:=by have:=qp.out;omega
  have hI1:(1:Int)<(t.ks.length:Int):=zO
  obtain⟨a,u,Au,cu,rfl,-,hu,⟨p0,p1,p2,p3⟩,hnu⟩:=ae.out.nd hI;have gG:kid t 1=u:=by unfold kid;rw[List.getD_eq_getElem?_getD,List.getElem?_eq_getElem hI];exact hu.out
  have vD:=zh (show ∀x∈u.ks,G C.p.prs x by rw[<-gG];exact hG1);have kZ:=zh (show(runO C.p.prs C.F g back u r2).bind (fun r=>(zkA C.F r).bind fun r=>valO t2 r fun x r=>zkk r (zkW r.S t.s x))=o by rw[<-qi.out,<-gG];rfl);have hgu:runO C.p.prs C.F g back u r2 ≠ .gas:=fun e=>bA.out (by rw[<-kZ.out,e];rfl);have ax:=zh (zlq HS.out aZ.out dZ.out u _ back hnu vD.out hgu);have ha:a.add (1*4)=⟨a.block,a.off+4,none⟩:=by unfold Addr.add;split<;>simp_all
  rw[ha]at p0 p1 p2 p3;have q0:=zb bB.out p0;have q1:=zb bB.out p1;have q2:=zb bB.out p2;have q3:=zb bB.out p3;have j0:=fE.out.blk (.inr (.inr ⟨zO,l0⟩)) K0.out;have q4:=zc (i:=3) j0 rfl;clear gG hnu hu p0 p1 p2 p3 hgu ha j0 dV iB;go_wp2_with fail;refine ax.out.mono ?_;rintro e w8 ⟨lI,dM,qG⟩;have nM:=zh (fE.out.trans lI);have qw:=zh (bR.out.trans (Kpt.less (C:=C) nM.out));have iQ:=zh (show Below C.w.heap.size C.w w8 from dM);have bY:match runO C.p.prs C.F g back u r2 with
   | .gas=>True
   | .err x=>e=zlM x
   | .ok r=>(∃u,e=.returned u)/\RI (C.plus W.heap.size hi) w8 r:=qG
  clear q0 q1 q2 q3 q4 lI dM qG ax
  cases hx:runO C.p.prs C.F g back u r2 with
  | gas=>exact absurd (by rw[<-kZ.out,hx];rfl) bA.out
  | err x =>
   rw[hx]at bY;subst bY;refine⟨rfl,qw.out,iQ.out,?_⟩
   try rw[bO.out]
   rw[<-kZ.out,hx];rfl
  | ok r3 =>
   rw[hx]at bY;obtain⟨⟨u9,rfl⟩,hr3⟩:=bY;have HST:=zh (zl9 aZ.out hr3);have ku:=zh (show((zkA C.F r3).bind fun r=>valO t2 r fun x r=>zkk r (zkW r.S t.s x))=o by rw[<-kZ.out,hx];rfl);have oD:=zh hr3;clear hx hr3;go_wp2_with fail;refine HST.out.mono ?_;rintro e w9 ⟨aM,aP,dE⟩;have iM:=zh (nM.out.trans aM);have jN:=zh (bR.out.trans (Kpt.less (C:=C) iM.out));have bD:=zh (show Below C.w.heap.size C.w w9 from aP);have gB:match zkA C.F r3 with
    | .gas=>True
    | .err x=>e=zlM x
    | .ok r=>(∃u,e=.returned u)/\RI (C.plus W.heap.size hi) w9 r:=dE
   clear aM aP dE HST
   cases hy:zkA C.F r3 with
   | gas=>exact absurd (by rw[<-ku.out,hy];rfl) bA.out
   | err x =>
    rw[hy]at gB;subst gB;refine⟨rfl,jN.out,bD.out,?_⟩
    try rw[bO.out]
    rw[<-ku.out,hy];rfl
   | ok r4 =>
    rw[hy]at gB;obtain⟨⟨u9,rfl⟩,hr4⟩:=gB;have oC:=zh hr4;have fK:=zh (show(valO t2 r4 fun x r=>zkk r (zkW r.S t.s x))=o by rw[<-ku.out,hy];rfl);have iO:=zh (show FB r3.n r4.S/\r4.n=r3.n+1 by obtain⟨rfl,-⟩:=zkQ hy;exact⟨oD.out.fb,rfl⟩);have j0:=iM.out.blk (.inr (.inr ⟨zO,l0⟩)) K0.out;have j2:=iM.out.blk (.inr (.inr ⟨zO,l2⟩)) K2.out;have dG:=zh (fun w' (hb:zw w9 w')=>zqE (hr4.later hb) t2 _ aF.out);have az:=zh (show ∀w',zw w9 w'->(fun w':World=>zv w' C.rb 6 (.pointer (some ⟨C.sb,0,none⟩))/\zv w' W.heap.size 2 (.string t.s)/\zN4 w' (w2.heap.size+1) (zj t2.k) (zi t2.n) (.string t2.s) (.slice A2 t2.ks.length c2)) w' from fun w' hb=>⟨zb hb hr4.cells.1,zb hb (zc j0 rfl),zb hb (zc j2 rfl),zb hb (zc j2 rfl),zb hb (zc j2 rfl),zb hb (zc j2 rfl)⟩);clear hr4 hy j0 j2;go_upto_region 6 with fail
    have hSS:zW (fun w':World=>zv w' C.rb 6 (.pointer (some ⟨C.sb,0,none⟩))/\zv w' W.heap.size 2 (.string t.s)/\zN4 w' (w2.heap.size+1) (zj t2.k) (zi t2.n) (.string t2.s) (.slice A2 t2.ks.length c2)) zU w9.drew:=⟨az.out _ zr.drew,trivial⟩
    refine zG hSS 11 ?_;refine zT 0 hSS ?_;refine zT 1 hSS ?_;refine zT 2 hSS ?_;refine zT 3 hSS ?_;refine zT 4 hSS ?_;refine zT 5 hSS ?_;refine zT 6 hSS ?_;refine zT 7 hSS ?_;refine zT 8 hSS ?_;have had:Calls prog 154 [.pointer (some ⟨C.rb,0,none⟩),nv t2.k t2.n t2.s A2 t2.ks.length c2].toArray w9.drew (ValP (C.plus W.heap.size hi) w9.drew t2 r4):=dG.out _ zr.drew;refine zo 9 fun K hK=>?_;refine zle zR (.func 154) [.tmp 45,.tmp 46] _ zR 154 _ zvF zR _ zR (fun v w'=>zw w9 w'/\∃x,v=zi x/\I64 x/\∀f,valO t2 r4 f=f x r4) (had.mono ?_) ?_
    ·rintro e y1 ⟨bE,hv1⟩;have b1:=zka (zs w9).drew bE;rcases hv1 with⟨x,rfl,hx⟩|⟨x,rfl,oM,hx⟩
     ·refine .inr ⟨_,rfl,?_⟩;refine⟨rfl,jN.out.trans (Kpt.of_below b1),zka bD.out b1,?_⟩
      try rw[bO.out]
      rw[<-fK.out,hx]
     ·exact .inl ⟨_,rfl,b1,x,rfl,oM,hx⟩
    rintro v10 aW ⟨b10,z,rfl,hx,xe⟩;have nW:=zh b10;obtain⟨Rc,lL⟩:=zX (zkW r4.S t.s z);have iK:=zh (show zkk r4 Rc=o by rw[<-fK.out,xe,lL]);refine hK.out _ _ ⟨az.out _ b10,trivial⟩ ?_;clear hK K had b10 hx xe hSS dG;(try simp only[zQ]);have had:Calls prog 138 [.pointer (some ⟨C.sb,0,none⟩),.string t.s,zi z].toArray aW fun e w'=>∃v,e=.returned v/\(v=zi Rc.1/\RI (C.plus W.heap.size hi) w' { r4 with S:=Rc.2 }/\Kpt C.n0 (C.plus W.heap.size hi).kb aW w') :=
     ((oC.out.later nW.out).ks.close t.s z).mono fun e w' ⟨h1,h2,h3⟩=>⟨_,h1,by rw[lL],(RI.store (C:=C.plus W.heap.size hi) (oC.out.later nW.out) (lL▸h2) h3 (by rw[iO.out.2,<-lL];exact iO.out.1.close_ _ _))⟩
    refine zo 10 fun K hK=>?_;refine zln zR (.func 138) [.tmp 42,.tmp 44,.tmp 47] _ zR 138 _ ztb zR _ zR _ had ?_;rintro v11 aN ⟨rfl,gq,iC⟩;have fO:=zh (iM.out.trans ((Kpt.of_below nW.out).trans iC));have j0:=fO.out.blk (.inr (.inr ⟨zO,l0⟩)) K0.out;have j2:=fO.out.blk (.inr (.inr ⟨zO,l2⟩)) K2.out;have kY:=zh gq;have au:(fun w':World=>zv w' C.rb 6 (.pointer (some ⟨C.sb,0,none⟩))/\zv w' W.heap.size 2 (.string t.s)/\zN4 w' (w2.heap.size+1) (zj t2.k) (zi t2.n) (.string t2.s) (.slice A2 t2.ks.length c2)) aN:=⟨gq.cells.1,zc j0 rfl,zc j2 rfl,zc j2 rfl,zc j2 rfl,zc j2 rfl⟩
    refine hK.out _ _ ⟨au,trivial⟩ ?_;have nE:=zh au;have jT:=zh gq.below;clear hK K had gq iC j0 j2 au az;(try simp only[zQ]);have jO:=zh (bR.out.trans (Kpt.less (C:=C) fO.out));have had:=zlk ⟨C.rb,0,none⟩ Rc.1 aN;refine zp 11 fun K hK=>?_;refine zle zR (.func 136) [.tmp 38,.tmp 48] _ zR 136 _ zmA zR _ zR (fun v w'=>w'=aN/\Rc.1=0) (had.mono ?_) ?_
    ·rintro e y1 ⟨rfl,hv1⟩;rcases hv1 with⟨h0,u0,rfl⟩|⟨h0,rfl⟩
     ·exact .inl ⟨_,rfl,rfl,h0⟩
     ·refine .inr ⟨_,rfl,?_⟩;refine⟨rfl,jO.out,jT.out,?_⟩
      try rw[bO.out]
      rw[<-iK.out,show zkk r4 Rc=.err Rc.1 by unfold zkk;rw[if_pos h0]]
    rintro v12 ek ⟨rfl,h0⟩;have ed:=zh (show o=.ok { r4 with S:=Rc.2 } by rw[<-iK.out];unfold zkk;rw[if_neg (by simpa using h0)]);refine hK.out _ _ nE.out ?_;clear hK K had h0;(try simp only[zQ]);refine zd ?_;have nI:=zh kY.out.less;go_wp2_with fail;go_end0;refine⟨jO.out,jT.out,?_⟩
    try rw[bO.out]
    rw[ed.out];exact⟨⟨_,rfl⟩,nI.out⟩
theorem zzr{G:List PR->T->Prop}{g:Nat}(hS:IStC G g){C:RC}(hC:C.Ok){W:World}{r:RS}(h:RI C W r)(t:T)(v:Value)(back:Bool)(hv:NV C.w Any t v)(hk0:t.k=52)(hk:t.ks.length=4)(hG1:∀u∈(kid t 1).ks,G C.p.prs u)(hG2:∀u∈(kid t 2).ks,G C.p.prs u)
  (o:Out)(ho:brO C.p.prs C.F g back t r=o)(hog:o ≠ .gas) :
  Calls prog 108 #[.pointer (some ⟨C.rb,0,none⟩),v,.bool back] W (RunP C W o):=by
 have aD:=hog;obtain⟨k,n,s,ks⟩:=t;obtain rfl:k=52:=hk0;obtain⟨A,c,rfl,-,hlk,hlc,-⟩:=hv.open_;have hb0:=zkb (zs W) (.cells #[zj 52,zi n,.string s,.slice A ks.length c] 28);obtain⟨x0,x1,x2,x3⟩:=box4 (heap_alloc_new W (.cells #[zj 52,zi n,.string s,.slice A ks.length c] 28));have aG:=zh (Kpt.of_below (n0:=C.n0) (kb:=C.kb) hb0);have aI:=zh (show Calls prog 132 #[.pointer (some ⟨C.rb,0,none⟩),.agg #[zj 52,zi n,.string s,.slice A ks.length c],.bool back] (W.alloc (.cells #[zj 52,zi n,.string s,.slice A ks.length c] 28)) (RunP C _ o)from(ho▸(zt8 hS hC (h.later hb0) _ _ back hv hk hG1 hG2 (ho▸hog))));clear hv hb0 h aD hG1 ho hk;go_enter func108,ntmps108;go_wp2_with fail;refine aI.out.mono ?_;rintro e w1 ⟨hk1,hb1,ho1⟩
 cases o with
 | gas=>exact absurd rfl hog
 | err x =>
  subst ho1;exact⟨rfl,aG.out.trans hk1,hb1,rfl⟩
 | ok r1 =>
  obtain⟨⟨u,rfl⟩,hr1⟩:=ho1;have HR:=zh hr1;have aC:=zh (aG.out.trans hk1);have HB1:=zh hb1;clear x0 x1 x2 x3 hr1 hk1 hb1;go_wp2_with fail;go_end0;exact⟨aC.out,HB1.out,⟨_,rfl⟩,HR.out⟩
theorem zuF{G:List PR->T->Prop}{g:Nat}(hS:IStC G g){C:RC}(hC:C.Ok){W:World}{r:RS}(h:RI C W r)(t:T)(v:Value)(back:Bool)(hv:NV C.w Any t v)(hk0:t.k=53)(hk:t.ks.length=4)(hG1:∀u∈(kid t 1).ks,G C.p.prs u)(hG2:∀u∈(kid t 2).ks,G C.p.prs u)
  (o:Out)(ho:lpO C.p.prs C.F g back t r=o)(hog:o ≠ .gas) :
  Calls prog 108 #[.pointer (some ⟨C.rb,0,none⟩),v,.bool back] W (RunP C W o):=by
 have aD:=hog;obtain⟨k,n,s,ks⟩:=t;obtain rfl:k=53:=hk0;obtain⟨A,c,rfl,-,hlk,hlc,-⟩:=hv.open_;have hb0:=zkb (zs W) (.cells #[zj 53,zi n,.string s,.slice A ks.length c] 28);obtain⟨x0,x1,x2,x3⟩:=box4 (heap_alloc_new W (.cells #[zj 53,zi n,.string s,.slice A ks.length c] 28));have aG:=zh (Kpt.of_below (n0:=C.n0) (kb:=C.kb) hb0);have aI:=zh (show Calls prog 133 #[.pointer (some ⟨C.rb,0,none⟩),.agg #[zj 53,zi n,.string s,.slice A ks.length c],.bool back] (W.alloc (.cells #[zj 53,zi n,.string s,.slice A ks.length c] 28)) (RunP C _ o)from(ho▸(zxF hS hC (h.later hb0) _ _ back hv hk hG1 hG2 (ho▸hog))));clear hv hb0 h aD hG1 ho hk;go_enter func108,ntmps108;go_wp2_with fail;refine aI.out.mono ?_;rintro e w1 ⟨hk1,hb1,ho1⟩
 cases o with
 | gas=>exact absurd rfl hog
 | err x =>
  subst ho1;exact⟨rfl,aG.out.trans hk1,hb1,rfl⟩
 | ok r1 =>
  obtain⟨⟨u,rfl⟩,hr1⟩:=ho1;have HR:=zh hr1;have aC:=zh (aG.out.trans hk1);have HB1:=zh hb1;clear x0 x1 x2 x3 hr1 hk1 hb1;go_wp2_with fail;go_end0;exact⟨aC.out,HB1.out,⟨_,rfl⟩,HR.out⟩
theorem ztz{G:List PR->T->Prop}{g:Nat}(hS:IStC G g){C:RC}(hC:C.Ok){W:World}{r:RS}(h:RI C W r)(t:T)(v:Value)(back:Bool)(hv:NV C.w Any t v)(hk0:t.k=54)(hk:t.ks.length=3)(hG1:∀u∈(kid t 1).ks,G C.p.prs u)
  (o:Out)(ho:loO C.p.prs C.F g back t r=o)(hog:o ≠ .gas) :
  Calls prog 108 #[.pointer (some ⟨C.rb,0,none⟩),v,.bool back] W (RunP C W o):=by
 have aD:=hog;obtain⟨k,n,s,ks⟩:=t;obtain rfl:k=54:=hk0;obtain⟨A,c,rfl,-,hlk,hlc,-⟩:=hv.open_;have hb0:=zkb (zs W) (.cells #[zj 54,zi n,.string s,.slice A ks.length c] 28);obtain⟨x0,x1,x2,x3⟩:=box4 (heap_alloc_new W (.cells #[zj 54,zi n,.string s,.slice A ks.length c] 28));have aG:=zh (Kpt.of_below (n0:=C.n0) (kb:=C.kb) hb0);have aI:=zh (show Calls prog 134 #[.pointer (some ⟨C.rb,0,none⟩),.agg #[zj 54,zi n,.string s,.slice A ks.length c],.bool back] (W.alloc (.cells #[zj 54,zi n,.string s,.slice A ks.length c] 28)) (RunP C _ o)from(ho▸(zvh hS hC (h.later hb0) _ _ back hv hk hG1 (ho▸hog))));clear hv hb0 h aD hG1 ho hk;go_enter func108,ntmps108;go_wp2_with fail;refine aI.out.mono ?_;rintro e w1 ⟨hk1,hb1,ho1⟩
 cases o with
 | gas=>exact absurd rfl hog
 | err x =>
  subst ho1;exact⟨rfl,aG.out.trans hk1,hb1,rfl⟩
 | ok r1 =>
  obtain⟨⟨u,rfl⟩,hr1⟩:=ho1;have HR:=zh hr1;have aC:=zh (aG.out.trans hk1);have HB1:=zh hb1;clear x0 x1 x2 x3 hr1 hk1 hb1;go_wp2_with fail;go_end0;exact⟨aC.out,HB1.out,⟨_,rfl⟩,HR.out⟩
theorem zL2:IsFn prog 141 f141:=⟨func141,zK,zK⟩
theorem zzY:IsFn prog 140 f140:=⟨func140,zK,zK⟩
def basO(F:Int)(back:Bool)(t:T)(r:RS):Out:=(zkA F r).bind fun r=>zkk r (if back=true then zmi r.S t else doE r.S t)
theorem zxc{C:RC}(hC:C.Ok){W:World}{r:RS}(h:RI C W r)(t:T)(v:Value)(back:Bool)(hv:NV C.w Any t v)(hk:t.k≠52/\t.k≠53/\t.k≠54/\t.k≠55/\t.k≠50/\t.k≠51) :
  Calls prog 108 #[.pointer (some ⟨C.rb,0,none⟩),v,.bool back] W (RunP C W (basO C.F back t r)):=by
 have HV:=zh hv;have H:=zh h;obtain⟨A,c,rfl,-,hlk,hlc,-⟩:=hv.open_;have e0:(t.k==52)=false:=by simpa using hk.1
 have e1:(t.k==53)=false:=by simpa using hk.2.1
 have e2:(t.k==54)=false:=by simpa using hk.2.2.1
 have e3:(t.k==55)=false:=by simpa using hk.2.2.2.1
 have e4:(t.k==50)=false:=by simpa using hk.2.2.2.2.1
 have e5:(t.k==51)=false:=by simpa using hk.2.2.2.2.2
 have hb0:=zkb (zs W) (.cells #[zj t.k,zi t.n,.string t.s,.slice A t.ks.length c] 28);obtain⟨bz,h1⟩:=h.plus hC hb0;have k0:=heap_alloc_new W (.cells #[zj t.k,zi t.n,.string t.s,.slice A t.ks.length c] 28);obtain⟨x0,x1,x2,x3⟩:=box4 k0;have bR:=zh (Kpt.of_below (n0:=C.n0) (kb:=C.kb) hb0);obtain⟨w3,hw3⟩:=zX (W.alloc (.cells #[zj t.k,zi t.n,.string t.s,.slice A t.ks.length c] 28));rw[hw3]at bz h1 k0 x0 x1 x2 x3 bR;have l0:=zkf k0;have K0:=zh k0;obtain⟨hi,hhi⟩:=zX (w3.heap.size);rw[hhi]at bz h1 l0;have iN:=zh (zl9 bz h1);obtain⟨o,ho⟩:=zX (basO C.F back t r);have bO:=zh ho;have HO:=zh (show(zkA C.F r).bind (fun r=>zkk r (if back=true then zmi r.S t else doE r.S t))=o from ho);rw[ho];clear hv hb0 bz h1 k0 h hk ho;go_enter func108,ntmps108;go_wp2_with fail;refine iN.out.mono ?_;rintro e w4 ⟨hk4,hb4,eU⟩
 have gT:=zh (bR.out.trans (Kpt.less (C:=C) hk4));have ay:=zh (show Below C.w.heap.size C.w w4 from hb4);have bu:match zkA C.F r with
  | .gas=>True
  | .err x=>e=zlM x
  | .ok r=>(∃u,e=.returned u)/\RI (C.plus W.heap.size hi) w4 r:=eU
 have dI:=zh hk4;clear x0 x1 x2 x3 iN hk4 hb4 eU hw3
 cases hy:zkA C.F r with
 | gas=>exact absurd hy (zkt _ _).1
 | err x =>
  rw[hy]at bu;subst bu;refine⟨rfl,gT.out,ay.out,?_⟩
  try rw[bO.out]
  rw[<-HO.out,hy];rfl
 | ok r1 =>
  rw[hy]at bu;obtain⟨⟨u3,rfl⟩,hr1⟩:=bu;have HR4:=zh hr1;have ja:=zh (show zkk r1 (if back=true then zmi r1.S t else doE r1.S t)=o by rw[<-HO.out,hy];rfl);have iP:=zh (show FB r.n r1.S/\r1.n=r.n+1 by obtain⟨rfl,-⟩:=zkQ hy;exact⟨H.out.fb,rfl⟩);have j0:=dI.out.blk (.inr (.inr ⟨zl,l0⟩)) K0.out;have hSS:zW (fun w':World=>zv w' C.rb 6 (.pointer (some ⟨C.sb,0,none⟩))/\zN4 w' W.heap.size (zj t.k) (zi t.n) (.string t.s) (.slice A t.ks.length c)) zU w4.drew:=⟨⟨hr1.cells.1,zc j0 rfl,zc j0 rfl,zc j0 rfl,zc j0 rfl⟩,trivial⟩
  clear hr1 hy j0
  cases back
  ·skip
   go_upto_region 5 with fail;refine zG hSS 7 ?_;refine zT 0 hSS ?_;refine zT 1 hSS ?_;refine zT 2 hSS ?_;refine zT 3 hSS ?_;refine zT 4 hSS ?_;refine zT 5 hSS ?_;obtain⟨R,hR⟩:=zX (doE r1.S t);have iJ:=zh (show zkk r1 R=o by rw[<-hR];exact ja.out);have hbd:zw w4 w4.drew:=zr.drew;have had:Calls prog 141 [.pointer (some ⟨C.sb,0,none⟩),.agg #[zj t.k,zi t.n,.string t.s,.slice A t.ks.length c]].toArray w4.drew fun e w'=>∃v,e=.returned v/\(v=zi R.1/\RI (C.plus W.heap.size hi) w' { r1 with S:=R.2 }/\Kpt C.n0 (C.plus W.heap.size hi).kb w4 w') :=
    ((HR4.out.later hbd).ks.do_ t _ (HV.out.later (zka ay.out hbd))).mono fun e w' ⟨h1,h2,h3⟩=>by
     have hs:=RI.store (C:=C.plus W.heap.size hi) (HR4.out.later hbd) h2 h3 (by rw[iP.out.2];exact iP.out.1.do_ _);rw[hR]at h1 hs;exact⟨_,h1,rfl,hs.1,(Kpt.of_below hbd).trans hs.2⟩
   refine zo 6 fun K hK=>?_;refine zln zR (.func 141) [.tmp 23,.tmp 24] _ zR 141 _ zL2 zR _ zR _ had ?_;rintro v6 w6 ⟨rfl,df,bG⟩;have eP:=zh (gT.out.trans (Kpt.less (C:=C) bG));have j0:=(dI.out.trans bG).blk (.inr (.inr ⟨zl,l0⟩)) K0.out;have au:(fun w':World=>zv w' C.rb 6 (.pointer (some ⟨C.sb,0,none⟩))/\zN4 w' W.heap.size (zj t.k) (zi t.n) (.string t.s) (.slice A t.ks.length c)) w6:=⟨df.cells.1,zc j0 rfl,zc j0 rfl,zc j0 rfl,zc j0 rfl⟩
   have dZ:=zh df.less;have bB:=zh df.below;refine hK.out _ _ ⟨au,trivial⟩ ?_;have nE:=zh au;clear hK K had df bG j0 au hSS;(try simp only[zQ]);have had:=zlk ⟨C.rb,0,none⟩ R.1 w6;refine zp 7 fun K hK=>?_;refine zle zR (.func 136) [.tmp 19,.tmp 25] _ zR 136 _ zmA zR _ zR (fun v w'=>w'=w6/\R.1=0) (had.mono ?_) ?_
   ·rintro e y1 ⟨rfl,hv1⟩;rcases hv1 with⟨h0,u0,rfl⟩|⟨h0,rfl⟩
    ·exact .inl ⟨_,rfl,rfl,h0⟩
    ·refine .inr ⟨_,rfl,?_⟩;refine⟨rfl,eP.out,bB.out,?_⟩
     try rw[bO.out]
     rw[<-iJ.out,show zkk r1 R=.err R.1 by unfold zkk;rw[if_pos h0]]
   rintro v12 ek ⟨rfl,h0⟩;have ed:=zh (show o=.ok { r1 with S:=R.2 } by rw[<-iJ.out];unfold zkk;rw[if_neg (by simpa using h0)]);refine hK.out _ _ nE.out ?_;clear hK K had h0;(try simp only[zQ]);refine zd ?_;go_wp2_with fail;go_end0;refine⟨eP.out,bB.out,?_⟩
   try rw[bO.out]
   rw[ed.out];exact⟨⟨_,rfl⟩,dZ.out⟩
  ·skip
   go_upto_region 4 with fail;refine zkl (fun w':World=>zv w' C.rb 6 (.pointer (some ⟨C.sb,0,none⟩))/\zN4 w' W.heap.size (zj t.k) (zi t.n) (.string t.s) (.slice A t.ks.length c)) zU 7 zK ?_;refine zT 0 hSS ?_;refine zT 1 hSS ?_;refine zT 2 hSS ?_;refine zT 3 hSS ?_;refine zT 4 hSS ?_;refine zT 5 hSS ?_;obtain⟨R,hR⟩:=zX (zmi r1.S t);have iJ:=zh (show zkk r1 R=o by rw[<-hR];exact ja.out);have hbd:zw w4 w4.drew:=zr.drew;have had:Calls prog 140 [.pointer (some ⟨C.sb,0,none⟩),.agg #[zj t.k,zi t.n,.string t.s,.slice A t.ks.length c]].toArray w4.drew fun e w'=>∃v,e=.returned v/\(v=zi R.1/\RI (C.plus W.heap.size hi) w' { r1 with S:=R.2 }/\Kpt C.n0 (C.plus W.heap.size hi).kb w4 w') :=
    ((HR4.out.later hbd).ks.undo t _ (HV.out.later (zka ay.out hbd))).mono fun e w' ⟨h1,h2,h3⟩=>by
     have hs:=RI.store (C:=C.plus W.heap.size hi) (HR4.out.later hbd) h2 h3 (by rw[iP.out.2];exact iP.out.1.undo _);rw[hR]at h1 hs;exact⟨_,h1,rfl,hs.1,(Kpt.of_below hbd).trans hs.2⟩
   refine zo 6 fun K hK=>?_;refine zln zR (.func 140) [.tmp 15,.tmp 16] _ zR 140 _ zzY zR _ zR _ had ?_;rintro v6 w6 ⟨rfl,df,bG⟩;have eP:=zh (gT.out.trans (Kpt.less (C:=C) bG));have j0:=(dI.out.trans bG).blk (.inr (.inr ⟨zl,l0⟩)) K0.out;have au:(fun w':World=>zv w' C.rb 6 (.pointer (some ⟨C.sb,0,none⟩))/\zN4 w' W.heap.size (zj t.k) (zi t.n) (.string t.s) (.slice A t.ks.length c)) w6:=⟨df.cells.1,zc j0 rfl,zc j0 rfl,zc j0 rfl,zc j0 rfl⟩
   have dZ:=zh df.less;have bB:=zh df.below;refine hK.out _ _ ⟨au,trivial⟩ ?_;have nE:=zh au;clear hK K had df bG j0 au hSS;(try simp only[zQ]);have had:=zlk ⟨C.rb,0,none⟩ R.1 w6;refine zp 7 fun K hK=>?_;refine zle zR (.func 136) [.tmp 11,.tmp 17] _ zR 136 _ zmA zR _ zR (fun v w'=>w'=w6/\R.1=0) (had.mono ?_) ?_
   ·rintro e y1 ⟨rfl,hv1⟩;rcases hv1 with⟨h0,u0,rfl⟩|⟨h0,rfl⟩
    ·exact .inl ⟨_,rfl,rfl,h0⟩
    ·refine .inr ⟨_,rfl,?_⟩;refine⟨rfl,eP.out,bB.out,?_⟩
     try rw[bO.out]
     rw[<-iJ.out,show zkk r1 R=.err R.1 by unfold zkk;rw[if_pos h0]]
   rintro v12 ek ⟨rfl,h0⟩;have ed:=zh (show o=.ok { r1 with S:=R.2 } by rw[<-iJ.out];unfold zkk;rw[if_neg (by simpa using h0)]);refine hK.out _ _ nE.out ?_;clear hK K had h0;(try simp only[zQ]);refine zd ?_;go_wp2_with fail;go_end0;refine⟨eP.out,bB.out,?_⟩
   try rw[bO.out]
   rw[ed.out];exact⟨⟨_,rfl⟩,dZ.out⟩
def lsR(prs:List PR)(F:Int)(g:Nat)(back:Bool)(t:T)(r:RS):Out :=
 (zkP (zkq prs F g back) (blkL back (kid t 0)) r).bind fun r=>(zkA F r).bind fun r=>zkk r (zkW r.S t.s 0)
def lsO(prs:List PR)(F:Int)(g:Nat)(back:Bool)(t:T)(r:RS):Out :=
 (zkA F r).bind fun r=>(zkk r (zlv r.S ⟨t.s,3,0⟩ 0)).bind (lsR prs F g back t)
theorem zzq{G:List PR->T->Prop}{g:Nat}(hS:IStC G g){C:RC}(hC:C.Ok){W:World}{r:RS}(h:RI C W r)(t:T)(v:Value)(back:Bool)(hv:NV C.w Any t v)(hk0:t.k=55)(hk:t.ks.length=1)(hG1:∀u∈(kid t 0).ks,G C.p.prs u)
  (aD:lsO C.p.prs C.F g back t r ≠ .gas) :
  Calls prog 108 #[.pointer (some ⟨C.rb,0,none⟩),v,.bool back] W (RunP C W (lsO C.p.prs C.F g back t r)):=by
 have HV:=zh hv;have H:=zh h;have HS:=zh hS;have qp:=zh hk;obtain⟨A,c,rfl,-,hlk,hlc,hrow⟩:=hv.open_;have ae:=zh hrow;have hb0:=zkb (zs W) (.cells #[zj t.k,zi t.n,.string t.s,.slice A t.ks.length c] 28);obtain⟨bz,h1⟩:=h.plus hC hb0;have k0:=heap_alloc_new W (.cells #[zj t.k,zi t.n,.string t.s,.slice A t.ks.length c] 28);obtain⟨x0,x1,x2,x3⟩:=box4 k0;have bR:=zh (Kpt.of_below (n0:=C.n0) (kb:=C.kb) hb0);obtain⟨w3,hw3⟩:=zX (W.alloc (.cells #[zj t.k,zi t.n,.string t.s,.slice A t.ks.length c] 28));rw[hw3]at bz h1 k0 x0 x1 x2 x3 bR;have l0:=zkf k0;have K0:=zh k0;obtain⟨hi,hhi⟩:=zX (w3.heap.size);rw[hhi]at bz h1 l0;have lW:=zh bz;have iN:=zh (zl9 bz h1);obtain⟨o,ho⟩:=zX (lsO C.p.prs C.F g back t r);have bO:=zh ho;have HO:=zh (show(zkA C.F r).bind (fun r=>(zkk r (zlv r.S ⟨t.s,3,0⟩ 0)).bind (lsR C.p.prs C.F g back t))=o from ho)
 rw[ho]at aD ⊢;have bA:=zh aD;rw[hk0]at hw3;have hw3':=hw3;clear hv hb0 bz h1 k0 h hk ho aD hrow hS hlk;have HKK:=zh hk0;rw[hk0]at x0;rw[hk0];clear hk0;go_enter func108,ntmps108;go_wp2_with fail;refine iN.out.mono ?_;rintro e w4 ⟨hk4,hb4,eU⟩;have gT:=zh (bR.out.trans (Kpt.less (C:=C) hk4));have ay:=zh (show Below C.w.heap.size C.w w4 from hb4);have bu:match zkA C.F r with
  | .gas=>True
  | .err x=>e=zlM x
  | .ok r=>(∃u,e=.returned u)/\RI (C.plus W.heap.size hi) w4 r:=eU
 have dI:=zh hk4;clear x0 x1 x2 x3 iN hk4 hb4 eU hw3 hw3'
 cases hy:zkA C.F r with
 | gas=>exact absurd hy (zkt _ _).1
 | err x =>
  rw[hy]at bu;subst bu;refine⟨rfl,gT.out,ay.out,?_⟩
  try rw[bO.out]
  rw[<-HO.out,hy];rfl
 | ok r1 =>
  rw[hy]at bu;obtain⟨⟨u3,rfl⟩,hr1⟩:=bu;have HR4:=zh hr1;have ja:=zh (show(zkk r1 (zlv r1.S ⟨t.s,3,0⟩ 0)).bind (lsR C.p.prs C.F g back t)=o by rw[<-HO.out,hy];rfl);have iP:=zh (show FB r.n r1.S/\r1.n=r.n+1 by obtain⟨rfl,-⟩:=zkQ hy;exact⟨H.out.fb,rfl⟩);have j0:=dI.out.blk (.inr (.inr ⟨zl,l0⟩)) K0.out;have hSS:zW (fun w':World=>zv w' C.rb 6 (.pointer (some ⟨C.sb,0,none⟩))/\zv w' W.heap.size 2 (.string t.s)) zU w4.drew:=⟨⟨hr1.cells.1,zc j0 rfl⟩,trivial⟩
  clear hr1 hy j0;go_upto_region 14 with fail;refine zG hSS 9 ?_;refine zT 0 hSS ?_;refine zT 1 hSS ?_;refine zT 2 hSS ?_;refine zT 3 hSS ?_;refine zT 4 hSS ?_;refine zT 5 hSS ?_;refine zT 6 hSS ?_;refine zT 7 hSS ?_;obtain⟨R,hR⟩:=zX (zlv r1.S ⟨t.s,3,0⟩ 0);have HRR:=zh hR;have dV:=iP.out.1.cur;have iB:=H.out.n;have hbd:zw w4 w4.drew:=zr.drew;have had:Calls prog 137 [.pointer (some ⟨C.sb,0,none⟩),.agg #[.string t.s,zj 3,zi 0],zi 0].toArray w4.drew fun e w'=>∃v,e=.returned v/\(v=zi R.1/\RI (C.plus W.heap.size hi) w' { r1 with S:=R.2 }/\Kpt C.n0 (C.plus W.heap.size hi).kb w4 w') :=
   ((HR4.out.later hbd).ks.open_ ⟨t.s,3,0⟩ (by obtain⟨_,_,_,hf,-⟩:=HV.out.open_;exact⟨hf.2.2,⟨by simp only;omega,by simp only;omega⟩,⟨by simp only;omega,by simp only;omega⟩⟩) 0 zero_I64 zO).mono fun e w' ⟨h1,h2,h3⟩=>by
    have hs:=RI.store (C:=C.plus W.heap.size hi) (HR4.out.later hbd) (hR▸h2) h3 (by rw[iP.out.2,<-hR];exact iP.out.1.open_ _ _);exact⟨_,h1,by rw[hR],hs.1,(Kpt.of_below hbd).trans hs.2⟩
  refine zo 8 fun K hK=>?_;refine zln zR (.func 137) [.tmp 53,.tmp 56,.const (zi 0)] _ zR 137 _ zvK zR _ zR _ had ?_;rintro v6 w6 ⟨rfl,df,bG⟩;have fE:=zh (dI.out.trans bG);have j0:=fE.out.blk (.inr (.inr ⟨zl,l0⟩)) K0.out;have dZ:=zh df;have au:(fun w':World=>zv w' C.rb 6 (.pointer (some ⟨C.sb,0,none⟩))/\zv w' W.heap.size 2 (.string t.s)) w6:=⟨df.cells.1,zc j0 rfl⟩
  refine hK.out _ _ ⟨au,trivial⟩ ?_;have nE:=zh au;have bB:=zh df.below;clear hK K had df bG j0 au hSS;(try simp only[zQ]);have eP:=zh (bR.out.trans (Kpt.less (C:=C) fE.out));rw[hR]at ja;have had:=zlk ⟨C.rb,0,none⟩ R.1 w6;refine zp 9 fun K hK=>?_;refine zle zR (.func 136) [.tmp 49,.tmp 57] _ zR 136 _ zmA zR _ zR (fun v w'=>w'=w6/\R.1=0) (had.mono ?_) ?_
  ·rintro e y1 ⟨rfl,hv1⟩;rcases hv1 with⟨h0,u0,rfl⟩|⟨h0,rfl⟩
   ·exact .inl ⟨_,rfl,rfl,h0⟩
   ·refine .inr ⟨_,rfl,?_⟩;refine⟨rfl,eP.out,bB.out,?_⟩
    try rw[bO.out]
    rw[<-ja.out,show zkk r1 R=.err R.1 by unfold zkk;rw[if_pos h0]];rfl
  rintro v7 w7 ⟨rfl,h0⟩;have qi:=zh (show lsR C.p.prs C.F g back t { r1 with S:=R.2 }=o by rw[<-ja.out,show zkk r1 R=.ok { r1 with S:=R.2 } by unfold zkk;rw[if_neg (by simpa using h0)]];rfl);refine hK.out _ _ nE.out ?_;clear hK K had h0;(try simp only[zQ]);refine zd ?_;obtain⟨r2,hr2⟩:=zX (({ r1 with S:=R.2 }:RS));rw[hr2]at dZ qi;have hI:0<t.ks.length:=by have:=qp.out;omega
  have hI1:(0:Int)<(t.ks.length:Int):=zO
  obtain⟨a,u,Au,cu,rfl,-,hu,⟨p0,p1,p2,p3⟩,hnu⟩:=ae.out.nd hI;have gG:kid t 0=u:=by unfold kid;rw[List.getD_eq_getElem?_getD,List.getElem?_eq_getElem hI];exact hu.out
  have vD:=zh (show ∀x∈u.ks,G C.p.prs x by rw[<-gG];exact hG1);have kZ:=zh (show(runO C.p.prs C.F g back u r2).bind (fun r=>(zkA C.F r).bind fun r=>zkk r (zkW r.S t.s 0))=o by rw[<-qi.out,<-gG];rfl);have hgu:runO C.p.prs C.F g back u r2 ≠ .gas:=fun e=>bA.out (by rw[<-kZ.out,e];rfl);have ax:=zh (zlq HS.out lW.out dZ.out u _ back hnu vD.out hgu);have ha:a.add (0*4)=a:=by unfold Addr.add;simp
  rw[ha]at p0 p1 p2 p3;have q0:=zb bB.out p0;have q1:=zb bB.out p1;have q2:=zb bB.out p2;have q3:=zb bB.out p3;have j0:=fE.out.blk (.inr (.inr ⟨zl,l0⟩)) K0.out;have q4:=zc (i:=3) j0 rfl;clear gG hnu hu p0 p1 p2 p3 hgu ha j0 dV iB hG1;go_wp2_with fail;refine ax.out.mono ?_;rintro e w8 ⟨lI,dM,qG⟩;have nM:=zh (fE.out.trans lI);have qw:=zh (bR.out.trans (Kpt.less (C:=C) nM.out));have iQ:=zh (show Below C.w.heap.size C.w w8 from dM);have bY:match runO C.p.prs C.F g back u r2 with
   | .gas=>True
   | .err x=>e=zlM x
   | .ok r=>(∃u,e=.returned u)/\RI (C.plus W.heap.size hi) w8 r:=qG
  clear q0 q1 q2 q3 q4 lI dM qG ax
  cases hx:runO C.p.prs C.F g back u r2 with
  | gas=>exact absurd (by rw[<-kZ.out,hx];rfl) bA.out
  | err x =>
   rw[hx]at bY;subst bY;refine⟨rfl,qw.out,iQ.out,?_⟩
   try rw[bO.out]
   rw[<-kZ.out,hx];rfl
  | ok r3 =>
   rw[hx]at bY;obtain⟨⟨u9,rfl⟩,hr3⟩:=bY;have HST:=zh (zl9 lW.out hr3);have ku:=zh (show((zkA C.F r3).bind fun r=>zkk r (zkW r.S t.s 0))=o by rw[<-kZ.out,hx];rfl);have oD:=zh hr3;clear hx hr3;go_wp2_with fail;refine HST.out.mono ?_;rintro e w9 ⟨aM,aP,dE⟩;have iM:=zh (nM.out.trans aM);have jN:=zh (bR.out.trans (Kpt.less (C:=C) iM.out));have bD:=zh (show Below C.w.heap.size C.w w9 from aP);have gB:match zkA C.F r3 with
    | .gas=>True
    | .err x=>e=zlM x
    | .ok r=>(∃u,e=.returned u)/\RI (C.plus W.heap.size hi) w9 r:=dE
   clear aM aP dE HST
   cases hy:zkA C.F r3 with
   | gas=>exact absurd (by rw[<-ku.out,hy];rfl) bA.out
   | err x =>
    rw[hy]at gB;subst gB;refine⟨rfl,jN.out,bD.out,?_⟩
    try rw[bO.out]
    rw[<-ku.out,hy];rfl
   | ok r4 =>
    rw[hy]at gB;obtain⟨⟨u9,rfl⟩,hr4⟩:=gB;have oC:=zh hr4;have iO:=zh (show FB r3.n r4.S/\r4.n=r3.n+1 by obtain⟨rfl,-⟩:=zkQ hy;exact⟨oD.out.fb,rfl⟩);obtain⟨Rc,lL⟩:=zX (zkW r4.S t.s 0);have iK:=zh (show zkk r4 Rc=o by rw[<-ku.out,hy,<-lL];rfl);have j0:=iM.out.blk (.inr (.inr ⟨zl,l0⟩)) K0.out;have hSS:zW (fun w':World=>zv w' C.rb 6 (.pointer (some ⟨C.sb,0,none⟩))/\zv w' W.heap.size 2 (.string t.s)) zU w9.drew:=⟨⟨hr4.cells.1,zc j0 rfl⟩,trivial⟩
    clear hr4 hy j0;go_upto_region 17 with fail;refine zG hSS 8 ?_;refine zT 0 hSS ?_;refine zT 1 hSS ?_;refine zT 2 hSS ?_;refine zT 3 hSS ?_;refine zT 4 hSS ?_;refine zT 5 hSS ?_;refine zT 6 hSS ?_;have tF:zw w9 w9.drew:=zr.drew;have had:Calls prog 138 [.pointer (some ⟨C.sb,0,none⟩),.string t.s,zi 0].toArray w9.drew fun e w'=>∃v,e=.returned v/\(v=zi Rc.1/\RI (C.plus W.heap.size hi) w' { r4 with S:=Rc.2 }/\Kpt C.n0 (C.plus W.heap.size hi).kb w9 w') :=
     ((oC.out.later tF).ks.close t.s 0).mono fun e w' ⟨h1,h2,h3⟩=>by
      have hs:=RI.store (C:=C.plus W.heap.size hi) (oC.out.later tF) (lL▸h2) h3 (by rw[iO.out.2,<-lL];exact iO.out.1.close_ _ _);exact⟨_,h1,by rw[lL],hs.1,(Kpt.of_below tF).trans hs.2⟩
    refine zo 7 fun K hK=>?_;refine zln zR (.func 138) [.tmp 72,.tmp 74,.const (zi 0)] _ zR 138 _ ztb zR _ zR _ had ?_;rintro v11 aN ⟨rfl,gq,iC⟩;have fO:=zh (iM.out.trans iC);have j0:=fO.out.blk (.inr (.inr ⟨zl,l0⟩)) K0.out;have kY:=zh gq;have au:(fun w':World=>zv w' C.rb 6 (.pointer (some ⟨C.sb,0,none⟩))/\zv w' W.heap.size 2 (.string t.s)) aN:=⟨gq.cells.1,zc j0 rfl⟩
    refine hK.out _ _ ⟨au,trivial⟩ ?_;have nE:=zh au;have jT:=zh gq.below;clear hK K had gq iC j0 au hSS;(try simp only[zQ]);have jO:=zh (bR.out.trans (Kpt.less (C:=C) fO.out));have had:=zlk ⟨C.rb,0,none⟩ Rc.1 aN;refine zp 8 fun K hK=>?_;refine zle zR (.func 136) [.tmp 68,.tmp 75] _ zR 136 _ zmA zR _ zR (fun v w'=>w'=aN/\Rc.1=0) (had.mono ?_) ?_
    ·rintro e y1 ⟨rfl,hv1⟩;rcases hv1 with⟨h0,u0,rfl⟩|⟨h0,rfl⟩
     ·exact .inl ⟨_,rfl,rfl,h0⟩
     ·refine .inr ⟨_,rfl,?_⟩;refine⟨rfl,jO.out,jT.out,?_⟩
      try rw[bO.out]
      rw[<-iK.out,show zkk r4 Rc=.err Rc.1 by unfold zkk;rw[if_pos h0]]
    rintro v12 ek ⟨rfl,h0⟩;have ed:=zh (show o=.ok { r4 with S:=Rc.2 } by rw[<-iK.out];unfold zkk;rw[if_neg (by simpa using h0)]);refine hK.out _ _ nE.out ?_;clear hK K had h0;(try simp only[zQ]);refine zd ?_;have nI:=zh kY.out.less;go_wp2_with fail;go_end0;refine⟨jO.out,jT.out,?_⟩
    try rw[bO.out]
    rw[ed.out];exact⟨⟨_,rfl⟩,nI.out⟩
theorem zp8:∀(prs:List PR) (s:ByteArray) (i:Nat),prcI prs s=some i->zlO prs s=(i:Int)/\i<prs.length
 | [],_,_,h=>by simp[prcI]at h
 | q::qs,s,i,h=>by
  unfold prcI at h;unfold zlO idxP;rw[List.findIdx?_cons]
  split at h
  ·rename_i h0;injection h with h;subst h;rw[if_pos h0];exact⟨rfl,zS⟩
  ·rename_i h0;rw[if_neg h0];obtain⟨j,hj,rfl⟩:=Option.map_eq_some_iff.1 h;have h5:=zp8 qs s j hj;unfold zlO idxP at h5
   cases hf:List.findIdx? (fun r=>r.s.toList==s.toList) qs with
   | none =>
    rw[hf]at h5;have h6:(-1:Int)=(j:Int):=h5.1;omega
   | some m =>
    rw[hf]at h5;have h6:(m:Int)=(j:Int):=h5.1;exact⟨by show((m+1:Nat):Int)=((j+1:Nat):Int);omega,by have:=h5.2;simp;omega⟩
def strA(l:List ByteArray):Array Value:=(l.map Value.string).toArray
theorem zKT:(prog.info? 9).map (fun i=>(i.zero,i.size,i.bytes))=some (some (.string ⟨#[]⟩),1,16):=zK
theorem zxE(n:Nat):madeCells (Value.string ⟨#[]⟩).cells (n*1)=strA (List.replicate n ⟨#[]⟩):=by
 unfold strA;apply Array.ext';apply List.ext_getElem
 ·rw[Array.length_toList,size_madeCells];simp
 ·intro i h1 h2;have e:i % 1=0:=zO
  simp[madeCells,Value.cells,e]
theorem zLu(n:Nat)(hn:n<=17592186044416)(w:World):(Instr.makeSlice 196 (zi (n:Int)) (zi (n:Int))).run prog w=.ok (.slice (some ⟨w.heap.size,0,none⟩) n n) (w.alloc (.cells (strA (List.replicate n ⟨#[]⟩)) 9)):=by
 have h:=zKT;obtain⟨i,hi,hz⟩:=Option.map_eq_some_iff.1 h;injection hz with h1 h2;injection h2 with h2 h3;have:=zlf (P:=prog) 196 9 i (.string ⟨#[]⟩) underlying196 hi h1 .i64 .i64 n n zl (by rw[h3];omega) zO w;rw[h2,zxE]at this;exact this
def argL(ks:List T)(j:Nat):List ByteArray:=(ks.take j).map (·.s)++List.replicate (ks.length-j) ⟨#[]⟩
theorem zy6(ks:List T):argL ks 0=List.replicate ks.length ⟨#[]⟩:=by simp[argL]
theorem zyt(ks:List T):argL ks ks.length=ks.map (·.s):=by simp[argL]
theorem zys(ks:List T){j:Nat}(hj:j<=ks.length):(argL ks j).length=ks.length:=by simp[argL];omega
theorem zyr(ks:List T){j:Nat}(hj:j<ks.length):(strA (argL ks j)).setIfInBounds j (.string ks[j].s)=strA (argL ks (j+1)):=by
 unfold strA;rw[List.setIfInBounds_toArray,<-List.map_set];congr 2;unfold argL;refine List.ext_getElem (by simp;omega) fun i h1 h2=>?_;rw[List.getElem_set];simp only[List.length_append,List.length_map,List.length_take,List.length_replicate,List.length_set]at h1 h2;by_cases e:j=i
 ·subst e;rw[if_pos rfl,List.getElem_append_left (by simp;omega)];simp
 ·rw[if_neg e];by_cases hi:i<j
  ·rw[List.getElem_append_left (by simp;omega),List.getElem_append_left (by simp;omega)];simp
  ·rw[List.getElem_append_right (by simp;omega),List.getElem_append_right (by simp;omega)];simp
theorem zxb{W:World}{b:Nat}{E:TypeId}{l:List ByteArray}(h:W.heap[b]?=some (.cells (strA l) E (0,0))):RowS W (some ⟨b,0,none⟩) l:=fun i hi=>by
 have ha:(⟨b,0,none⟩:Addr).add i=⟨b,i,none⟩:=by rw[Addr.add_lit,Nat.zero_add]
 refine⟨⟨b,0,none⟩,rfl,?_⟩;rw[ha];simp only[World.cell?,h];simp[strA,hi]
theorem RI.count{C:RC}(hC:C.Ok){W:World}{r:RS}(h:RI C W r){i:Nat}(hi:i<r.ent.length)(hn:r.ent.getD i 0+1<=r.n) :
  ∃g c,C.ev=.slice (some ⟨g,0,none⟩) r.ent.length c/\W.cell? ⟨g,i,none⟩=some (zi (r.ent.getD i 0:Nat))/\W.frozen? ⟨g,i,none⟩=false /\
   RI C (W.setCell ⟨g,i,none⟩ (zi ((r.ent.getD i 0+1:Nat):Int))) { r with ent:=r.ent.set i (r.ent.getD i 0+1) }/\Kpt C.n0 C.kb W (W.setCell ⟨g,i,none⟩ (zi ((r.ent.getD i 0+1:Nat):Int))):=by
 obtain⟨e1,h2⟩:=h.ent;rcases h2 with h2|⟨g,cap,cur,hev,hb,hg,hcap,hlen,hsz,dV⟩
 ·have hn0:r.ent.length=0:=h2.2;omega
 ·have hcz:cur[i]?=some (zi (r.ent.getD i 0:Nat)):=by
   have h3:(zki (r.ent.map Int.ofNat))[i]?=some (zi (r.ent.getD i 0:Nat)):=by simp[zki,hi]
   rw[<-dV,List.getElem?_take]at h3
   split at h3
   ·simpa using h3
   ·cases h3
  have hci:i<cur.size:=by
   rcases Nat.lt_or_ge i cur.size with h|h
   ·exact h
   ·rw[Array.getElem?_eq_none h]at hcz;cases hcz
  have hrb:g≠C.rb:=fun e=>hC.ev.1 (by rw[hev,<-e];rfl);have hkb:¬ C.kb g:=hC.ev.2 g (by rw[hev];rfl);have hch:Chg (fun b=>b=g) W (W.setCell ⟨g,i,none⟩ (zi ((r.ent.getD i 0+1:Nat):Int))):=(Chg.refl (fun b=>b=g) W).setCell (p:=⟨g,i,none⟩) (.inl rfl) _;have hnn:=h.ks.hn;refine⟨g,cap,hev,zc hg hcz,zf hg,⟨h.ks.chg hch fun b _ e=>⟨zO,.inr (.inr (.inr (by rw[hev,e];rfl)))⟩,?_,?_,by simp[h.el],?_,h.n,h.fb⟩,Kpt.chg hch fun b e=>⟨zO,by rw[e];exact hkb⟩⟩
  ·rw[Below.heap_setCell _ _ _ _ (fun e=>hrb (by simpa using e.symm))];exact h.box
  ·have hs:=heap_setCell_same W g i _ _ (zi ((r.ent.getD i 0+1:Nat):Int)) hg;refine⟨by simp[zki],.inr ⟨g,cap,_,by rw[hev];simp,hb,hs,by simpa using hcap,by simpa using hlen,by simpa using hsz,?_⟩⟩;have e2:((cur.setIfInBounds i (zi ((r.ent.getD i 0+1:Nat):Int))).toList.take ((r.ent.set i (r.ent.getD i 0+1)).length*1))=(cur.toList.take (r.ent.length*1)).set i (zi ((r.ent.getD i 0+1:Nat):Int)):=by
    rw[Array.toList_setIfInBounds,List.length_set,List.take_set]
   rw[e2,dV];simp[zki,List.map_set]
  ·intro c hc;rcases List.mem_or_eq_of_mem_set hc with hc|rfl
   ·exact h.en c hc
   ·exact hn
theorem zx2:IsFn prog 158 f158:=⟨func158,zK,zK⟩
def caR(prs:List PR)(F:Int)(g:Nat)(back:Bool)(i:Nat)(b:T)(r:RS):Out :=
 (zkP (zkq prs F g back) (blkL back b) { r with ent:=r.ent.set i (r.ent.getD i 0+1) }).bind fun r=>(zkA F r).bind fun r=>zkk r (zlL r.S)
def caO(prs:List PR)(F:Int)(g:Nat)(back:Bool)(i:Nat)(q:PR)(ss:List ByteArray)(r:RS):Out :=
 (zkA F r).bind fun r=>(zkk r (zly r.S q.ps ss)).bind (caR prs F g back i q.b)
theorem zor{G:List PR->T->Prop}{g:Nat}(hS:IStC G g){C:RC}(hC:C.Ok){W:World}{r:RS}(h:RI C W r)(t:T)(v:Value)(back:Bool)(hv:NV C.w Any t v)(i:Nat)(hi:prcI C.p.prs t.s=some i)(q:PR)(hq:C.p.prs[i]?=some q)(hG1:∀u∈q.b.ks,G C.p.prs u)
  (aD:caO C.p.prs C.F g back i q (t.ks.map (·.s)) r ≠ .gas) :
  Calls prog 139 #[.pointer (some ⟨C.rb,0,none⟩),v,.bool back] W (RunP C W (caO C.p.prs C.F g back i q (t.ks.map (·.s)) r)):=by
 have HV:=zh hv;have H:=zh h;have HS:=zh hS;have HC:=zh hC;obtain⟨hpi,hil⟩:=zp8 _ _ _ hi;obtain⟨A,c,rfl,-,hlk,hlc,hrow⟩:=hv.open_;have ae:=zh hrow;have hb0:=zkb (zs W) (.cells #[zj t.k,zi t.n,.string t.s,.slice A t.ks.length c] 28);have k0:=heap_alloc_new W (.cells #[zj t.k,zi t.n,.string t.s,.slice A t.ks.length c] 28);obtain⟨x0,x1,x2,x3⟩:=box4 k0;have kC:=zh h.below;obtain⟨w1,hw1⟩:=zX (W.alloc (.cells #[zj t.k,zi t.n,.string t.s,.slice A t.ks.length c] 28));have hz1:w1.heap.size=W.heap.size+1:=by rw[<-hw1];simp
 rw[hw1]at hb0 k0 x0 x1 x2 x3;have hmk:=zLu t.ks.length (by unfold LK at hlk;omega);have hb1:=zkb hb0 (.cells (strA (List.replicate t.ks.length ⟨#[]⟩)) 9);have k1:=heap_alloc_new w1 (.cells (strA (List.replicate t.ks.length ⟨#[]⟩)) 9);have j0:=zkd k0 (.cells (strA (List.replicate t.ks.length ⟨#[]⟩)) 9);rw[hz1]at k1;rw[<-zy6]at hmk;have hz2:(w1.alloc (.cells (strA (argL t.ks 0)) 9)).heap.size=W.heap.size+2:=by simp[hz1]
 rw[<-zy6]at hb1 k1 j0;have HB1:=zh hb1;have K1:=zh k1;have J0:=zh j0;obtain⟨o,ho⟩:=zX (caO C.p.prs C.F g back i q (t.ks.map (·.s)) r);have bO:=zh ho;have HO:=zh (show(zkA C.F r).bind (fun r=>(zkk r (zly r.S q.ps (t.ks.map (·.s)))).bind (caR C.p.prs C.F g back i q.b))=o from ho);rw[ho]at aD ⊢;have bA:=zh aD;have HPI:=zh hpi;have wT:=zh hil;have HQ:=zh hq;have hlk2:t.ks.length<=17592186044416:=by unfold LK at hlk;omega
 have HZ2:=zh hz2;clear hv hb0 k0 h ho aD hrow hS hC hlk hpi hil hq hi hb1 k1 j0 hz2;go_enter func139,ntmps139;go_wp2_with fail;clear x0 x1 x2 x3 hw1 hmk;have jU:=zh (fun j (hj:j<t.ks.length)=>zyr t.ks hj);have HAN:=zh (fun j (hj:j<=t.ks.length)=>zys t.ks hj)
 go_loopw [18] (fun x wr=>∃j:Nat,j<=t.ks.length/\x=zi j/\Hid (zw W wr)/\Hid (wr.heap[W.heap.size]?=some (.cells #[zj t.k,zi t.n,.string t.s,.slice A t.ks.length c] 28 (0,0)))/\Hid (wr.heap[W.heap.size+1]?=some (.cells (strA (argL t.ks j)) 9 (0,0)))) (fun x _=>t.ks.length-(intOf x).toNat)
 case atStart=>exact⟨0,Nat.zero_le _,rfl,HB1,J0,K1⟩
 case round =>
  obtain⟨j,hj,rfl,ag,HJ,HK⟩:=hrel;clear HB1 J0 K1;by_cases hlt:j<t.ks.length
  ·obtain⟨a,u,Au,cu,rfl,-,Hu,⟨p0,p1,p2,p3⟩,-⟩:=ae.out.nd hlt;have hbb:=zka kC.out ag.out;have q0:=zb hbb p0;have q1:=zb hbb p1;have q2:=zb hbb p2;have q3:=zb hbb p3;have hj1:(j:Int)<(t.ks.length:Int):=zO
   have hj0:(0:Int)<=(j:Int):=zO
   have kz:=zkd HK.out (.cells #[zj u.k,zi u.n,.string u.s,.slice Au u.ks.length cu] 28);have jz:=zkd HJ.out (.cells #[zj u.k,zi u.n,.string u.s,.slice Au u.ks.length cu] 28);have hbz:=zkb ag.out (.cells #[zj u.k,zi u.n,.string u.s,.slice Au u.ks.length cu] 28);have zc:∃y,(strA (argL t.ks j))[j]?=some y:=⟨_,Array.getElem?_eq_getElem (by simp[strA,HAN.out j hj];exact hlt)⟩
   obtain⟨y,hy⟩:=zc;have zy:=zc kz hy;have zf:(wr.alloc (.cells #[zj u.k,zi u.n,.string u.s,.slice Au u.ks.length cu] 28)).frozen? ⟨W.heap.size+1,j,none⟩=false:=zf kz;have zH:=zh hbz;have HKZ:=zh kz;have HJZ:=zh jz;have hwlt:W.heap.size+1<wr.heap.size:=zkf HK.out;clear hbb p0 p1 p2 p3 kz jz hbz hy;go_wp2_with fail
   go_roundw
   case rel =>
    have hch:=(Chg.refl (fun b=>b=W.heap.size+1) wr).setCell (p:=⟨W.heap.size+1,j,none⟩) (.inl rfl) (.string u.s);refine⟨j+1,zO,by go_num,zh (zkb (ag.out.trans (hch.below ag.out.size fun b e=>zO)) _),zh (zkd (hch.keep HJ.out zO) _),zh ?_⟩;have:=heap_setCell_same _ (W.heap.size+1) j _ _ (.string u.s) HK.out;refine zkd ?_ _;rw[this,<-jU.out j hlt,Hu.out]
   case measure=>simp[intOf];omega
  ·obtain rfl:j=t.ks.length:=zO
   rw[zyt]at HK;have hj1:¬ (t.ks.length:Int)<(t.ks.length:Int):=zO
   have hrn:=H.out.n;have hel:=H.out.el;obtain⟨pa,q1,B1,d1,B2,d2,hA2,-,Hq1,⟨p0,p1,p2,p3,p4,p5⟩,hpr⟩:=HC.out.pg.procs.nd wT.out;obtain rfl:q=q1:=by
    have e:=HQ.out;rw[List.getElem?_eq_getElem wT.out,Hq1.out]at e;injection e with e;exact e.symm
   have HPRR:=zh hpr;have hbb:=zka kC.out ag.out;have dK:=zh hbb;have bV:=zh (fun w' (hb:zw wr w')=>znH C.p Any (pv C.A1 C.p.vs.length C.c1 C.A2 C.p.prs.length C.c2 C.p.m.k C.p.m.n C.p.m.s C.A3 C.p.m.ks.length C.c3) t.s w' ⟨_,_,_,_,_,_,rfl,HC.out.pg.later (zka dK.out hb)⟩);rw[HPI.out]at bV;have HXB:=zh (zkc H.out.box ag.out);rw[hA2]at bV;have lQ:Hid (wr.cell? ⟨C.rb,0,none⟩=some (.slice C.A1 C.p.vs.length C.c1)/\wr.cell? ⟨C.rb,1,none⟩=some (.slice (some pa) C.p.prs.length C.c2)/\wr.cell? ⟨C.rb,2,none⟩=some (zj C.p.m.k)/\wr.cell? ⟨C.rb,3,none⟩=some (zi C.p.m.n)/\wr.cell? ⟨C.rb,4,none⟩=some (.string C.p.m.s)/\wr.cell? ⟨C.rb,5,none⟩=some (.slice C.A3 C.p.m.ks.length C.c3)) :=
    zh ⟨zc HXB.out rfl,by rw[<-hA2];exact zc HXB.out rfl,zc HXB.out rfl,zc HXB.out rfl,zc HXB.out rfl,zc HXB.out rfl⟩
   have vz:=zh (show(i:Int)<(C.p.prs.length:Int) by have:=wT.out;omega);obtain⟨rb,hrb⟩:=zX (C.rb);obtain⟨z1,hz1⟩:=zX (C.A1);obtain⟨z2,hz2⟩:=zX (C.p.vs.length);obtain⟨z3,hz3⟩:=zX (C.c1);obtain⟨z5,qE⟩:=zX (C.p.prs.length);obtain⟨z6,dL⟩:=zX (C.c2);obtain⟨z7,iU⟩:=zX (C.p.m.k);obtain⟨z8,rG⟩:=zX (C.p.m.n);obtain⟨z9,vZ⟩:=zX (C.p.m.s);obtain⟨z10,mf⟩:=zX (C.A3);obtain⟨z11,rJ⟩:=zX (C.p.m.ks.length);obtain⟨z12,rH⟩:=zX (C.c3);rw[hz1,hz2,hz3,qE,dL,iU,rG,vZ,mf,rJ,rH]at bV;rw[hrb,hz1,hz2,hz3,qE,dL,iU,rG,vZ,mf,rJ,rH]at lQ;have az:=zh (show ∀w',zw wr w'->(fun w':World=>zv w' rb 0 (.slice z1 z2 z3)/\zv w' rb 1 (.slice (some pa) z5 z6)/\zv w' rb 2 (zj z7)/\zv w' rb 3 (zi z8)/\zv w' rb 4 (.string z9)/\zv w' rb 5 (.slice z10 z11 z12)/\zv w' W.heap.size 2 (.string t.s)) w' from fun w' hb=>by
    obtain⟨y0,y1,y2,y3,y4,y5⟩:=lQ.out;exact⟨zb hb y0,zb hb y1,zb hb y2,zb hb y3,zb hb y4,zb hb y5,zb hb (zc HJ.out rfl)⟩)
   have ig:=zh (az.out _ zr.drew);have oF:=zh (show C.w.cell? (pa.add (i*6))=_/\_/\_/\_/\_/\_ from⟨p0,p1,p2,p3,p4,p5⟩);clear p0 p1 p2 p3 p4 p5 hpr hbb hz1 hz2 hz3 dL iU rG vZ mf rJ rH hel hrn hj1;have uw:=zh qE;rw[qE]at vz;clear qE;have cB:=zh hrb;clear hrb hA2;rw[cB.out];have hj1:¬ (t.ks.length:Int)<(t.ks.length:Int):=zO
   go_upto_region 7 with fail
   go_region_held3 (fun w':World=>zv w' rb 0 (.slice z1 z2 z3)/\zv w' rb 1 (.slice (some pa) z5 z6)/\zv w' rb 2 (zj z7)/\zv w' rb 3 (zi z8)/\zv w' rb 4 (.string z9)/\zv w' rb 5 (.slice z10 z11 z12)/\zv w' W.heap.size 2 (.string t.s))
    (first|with_reducible exact bI.out|with_reducible exact ig.out)
    (first
     | (go_at_call 57;refine(bV.out _ zr.drew).mono ?_;rintro e y1 ⟨rfl,bE⟩;have b1:=zka (zs wr).drew bE;have bI:=zh (az.out _ b1))
     | fail)
   have hb1:=zka dK.out b1;have p0:=zb hb1 oF.out.1;have p1:=zb hb1 oF.out.2.1;have p2:=zb hb1 oF.out.2.2.1;have p3:=zb hb1 oF.out.2.2.2.1;have p4:=zb hb1 oF.out.2.2.2.2.1;have p5:=zb hb1 oF.out.2.2.2.2.2;obtain⟨-,e1,-⟩:=bI.out;have hi1:=vz.out;have hi0:(0:Int)<=(i:Int):=zO
   have dO:=zkb (zka ag.out b1) (.cells #[.string q.s,.slice B1 q.ps.length d1,zj q.b.k,zi q.b.n,.string q.b.s,.slice B2 q.b.ks.length d2] 100);have k0:=zkd (zkc HJ.out b1) (.cells #[.string q.s,.slice B1 q.ps.length d1,zj q.b.k,zi q.b.n,.string q.b.s,.slice B2 q.b.ks.length d2] 100);have k1:=zkd (zkc HK.out b1) (.cells #[.string q.s,.slice B1 q.ps.length d1,zj q.b.k,zi q.b.n,.string q.b.s,.slice B2 q.b.ks.length d2] 100);have k2:=heap_alloc_new y1 (.cells #[.string q.s,.slice B1 q.ps.length d1,zj q.b.k,zi q.b.n,.string q.b.s,.slice B2 q.b.ks.length d2] 100);obtain⟨pb,hpb⟩:=zX (y1.heap.size);have hpl:W.heap.size<=pb:=by rw[<-hpb];exact(zka ag.out b1).size
   obtain⟨w5,mi⟩:=zX (y1.alloc (.cells #[.string q.s,.slice B1 q.ps.length d1,zj q.b.k,zi q.b.n,.string q.b.s,.slice B2 q.b.ks.length d2] 100));rw[mi]at dO k0 k1;rw[hpb,mi]at k2;have bR:=zh (Kpt.of_below (n0:=C.n0) (kb:=C.kb) dO);obtain⟨yU,h5⟩:=H.out.plus HC.out dO;have l0:=zkf k0;have l1:=zkf k1;have l2:=zkf k2;obtain⟨hi,hhi⟩:=zX (w5.heap.size);rw[hhi]at yU h5 l0 l1 l2;have bK:=zh yU;have K0:=zh k0;have K1:=zh k1;have K2:=zh k2;have HST:=zh (zl9 yU h5);rw[show(C.plus W.heap.size hi).rb=rb from cB.out]at HST;have xZ:=zh hpl;obtain⟨ss,hss⟩:=zX (t.ks.map (·.s));have HSL:=zh (show ss.length=t.ks.length by rw[<-hss];simp);rw[hss]at HO K1;clear hb1 b1 bE bI az ig dO k0 k1 k2 yU h5 oF hpl lQ bV jU HAN HK HJ hss;go_upto_region 9 with fail;clear p0 p1 p2 p3 p4 p5 e1 mi hpb;go_wp2_with fail;refine HST.out.mono ?_;rintro e w6 ⟨bG,hb6,jV⟩
   have eP:=zh (bR.out.trans (Kpt.less (C:=C) bG));have bB:=zh (show Below C.w.heap.size C.w w6 from hb6);have bZ:match zkA C.F r with
    | .gas=>True
    | .err x=>e=zlM x
    | .ok r=>(∃u,e=.returned u)/\RI (C.plus W.heap.size hi) w6 r:=jV
   have ve:=zh bG;clear HST bG hb6 jV
   cases hy:zkA C.F r with
   | gas=>exact absurd (by rw[<-HO.out,hy];rfl) bA.out
   | err x =>
    rw[hy]at bZ;subst bZ;refine⟨rfl,eP.out,bB.out,?_⟩
    try rw[bO.out]
    rw[<-HO.out,hy];rfl
   | ok r1 =>
    rw[hy]at bZ;obtain⟨⟨u3,rfl⟩,hr1⟩:=bZ;have dZ:=zh hr1;have qi:=zh (show(zkk r1 (zly r1.S q.ps ss)).bind (caR C.p.prs C.F g back i q.b)=o by rw[<-HO.out,hy];rfl);have iP:=zh (show FB r.n r1.S/\r1.n=r.n+1/\r1.ent=r.ent by obtain⟨rfl,-⟩:=zkQ hy;exact⟨H.out.fb,rfl,rfl⟩);have j2:=ve.out.blk (.inr (.inr ⟨xZ.out,l2⟩)) K2.out;have hSS:zW (fun w':World=>zv w' rb 6 (.pointer (some ⟨C.sb,0,none⟩))/\zv w' pb 1 (.slice B1 q.ps.length d1)) zU w6.drew:=⟨⟨by rw[<-cB.out];exact hr1.cells.1,zc j2 rfl⟩,trivial⟩
    clear hr1 hy j2;go_upto_region 10 with fail;refine zG hSS 9 ?_;refine zT 0 hSS ?_;refine zT 1 hSS ?_;refine zT 2 hSS ?_;refine zT 3 hSS ?_;refine zT 4 hSS ?_;refine zT 5 hSS ?_;refine zT 6 hSS ?_;refine zT 7 hSS ?_;obtain⟨R,hR⟩:=zX (zly r1.S q.ps ss);have HRR:=zh hR;have hbd:zw w6 w6.drew:=zr.drew;have hpq:q.ps.length<=1000:=HC.out.ps q (List.mem_of_getElem? HQ.out);have hen:=(dZ.out.later hbd).ks.enter q.ps ss B1 (some ⟨W.heap.size+1,0,none⟩) d1 t.ks.length (HPRR.out.row.later (zka bB.out hbd)) ((zxb (ve.out.blk (.inr (.inr ⟨Nat.le_succ _,l1⟩)) K1.out)).later hbd) zO (by rw[HSL.out];exact hlk2);rw[HSL.out]at hen
    have had:Calls prog 158 [.pointer (some ⟨C.sb,0,none⟩),.slice B1 q.ps.length d1,.slice (some ⟨W.heap.size+1,0,none⟩) t.ks.length t.ks.length].toArray w6.drew fun e w'=>∃v,e=.returned v/\(v=zi R.1/\RI (C.plus W.heap.size hi) w' { r1 with S:=R.2 }/\Kpt C.n0 (C.plus W.heap.size hi).kb w6 w') :=
     hen.mono fun e w' ⟨h1,h2,h3⟩=>by
      have hs:=RI.store (C:=C.plus W.heap.size hi) (dZ.out.later hbd) (hR▸h2) h3 (by rw[iP.out.2.1,<-hR];exact iP.out.1.enter _ _ hpq);exact⟨_,h1,by rw[hR],hs.1,(Kpt.of_below hbd).trans hs.2⟩
    refine zo 8 fun K hK=>?_;refine zln zR (.func 158) [.tmp 50,.tmp 52,.tmp 53] _ zR 158 _ zx2 zR _ zR _ had ?_;rintro v7 w7 ⟨rfl,eT,mr⟩;have u7:=zh (ve.out.trans mr);have j2:=u7.out.blk (.inr (.inr ⟨xZ.out,l2⟩)) K2.out;have kr:=zh eT;have tX:(fun w':World=>zv w' rb 6 (.pointer (some ⟨C.sb,0,none⟩))/\zv w' pb 1 (.slice B1 q.ps.length d1)) w7:=⟨by rw[<-cB.out];exact eT.cells.1,zc j2 rfl⟩
    refine hK.out _ _ ⟨tX,trivial⟩ ?_;have HS7:=zh tX;have kD:=zh eT.below;clear hK K had eT mr j2 tX hSS hen;(try simp only[zQ]);have uZ:=zh (bR.out.trans (Kpt.less (C:=C) u7.out));rw[hR]at qi;have had:=zlk ⟨rb,0,none⟩ R.1 w7;refine zp 9 fun K hK=>?_;refine zle zR (.func 136) [.tmp 46,.tmp 54] _ zR 136 _ zmA zR _ zR (fun v w'=>w'=w7/\R.1=0) (had.mono ?_) ?_
    ·rintro e y1 ⟨rfl,hv1⟩;rcases hv1 with⟨h0,u0,rfl⟩|⟨h0,rfl⟩
     ·exact .inl ⟨_,rfl,rfl,h0⟩
     ·refine .inr ⟨_,rfl,?_⟩;refine⟨rfl,uZ.out,kD.out,?_⟩
      try rw[bO.out]
      rw[<-qi.out,show zkk r1 R=.err R.1 by unfold zkk;rw[if_pos h0]];rfl
    rintro v8 w8 ⟨rfl,h0⟩;have kZ:=zh (show caR C.p.prs C.F g back i q.b { r1 with S:=R.2 }=o by rw[<-qi.out,show zkk r1 R=.ok { r1 with S:=R.2 } by unfold zkk;rw[if_neg (by simpa using h0)]];rfl);refine hK.out _ _ HS7.out ?_;clear hK K had h0;(try simp only[zQ]);refine zd ?_;obtain⟨r2,hr2⟩:=zX (({ r1 with S:=R.2 }:RS));rw[hr2]at kr kZ;have he2:r2.ent.length=C.p.prs.length:=kr.out.el;have hi2:i<r2.ent.length:=by rw[he2];exact wT.out
    have hn2:r2.ent.getD i 0+1<=r2.n:=by
     rw[<-hr2];simp only;rw[iP.out.2.2,iP.out.2.1,List.getD_eq_getElem?_getD,List.getElem?_eq_getElem (by rw[H.out.el];exact wT.out)];have:=H.out.en _ (List.getElem_mem (l:=r.ent) (n:=i) (by rw[H.out.el];exact wT.out));simp only[Option.getD_some];omega
    obtain⟨eg,ec,hev,hcz,hcf,hrc,hkc⟩:=kr.out.count bK.out hi2 hn2;have hev':C.ev=.slice (some ⟨eg,0,none⟩) r2.ent.length ec:=hev;obtain⟨-,-,-,e9,-⟩:=kr.out.cells;have e9':w8.cell? ⟨rb,9,none⟩=some (.slice (some ⟨eg,0,none⟩) z5 ec):=by
     rw[<-cB.out,<-uw.out,<-he2,<-hev'];exact e9
    have hnn:=kr.out.n;have Aw:IntKind.i64.wrap ((r2.ent.getD i 0:Nat)+1:Int)=((r2.ent.getD i 0+1:Nat):Int):=by rw[IntWalk.i64_in _ zO];omega
    have ku:=zh (show(runO C.p.prs C.F g back q.b { r2 with ent:=r2.ent.set i (r2.ent.getD i 0+1) }).bind (fun r=>(zkA C.F r).bind fun r=>zkk r (zlL r.S))=o from kZ.out);obtain⟨e0,he0⟩:=zX (r2.ent.getD i 0);rw[he0]at hcz hrc hkc Aw ku;obtain⟨w9,eD⟩:=zX (w8.setCell ⟨eg,i,none⟩ (zi ((e0+1:Nat):Int)));rw[eD]at hrc hkc;obtain⟨r3,hr3⟩:=zX (({ r2 with ent:=r2.ent.set i (e0+1) }:RS));rw[hr3]at hrc ku;have oC:=zh hrc;have u6:=zh (u7.out.trans hkc);have jN:=zh (bR.out.trans (Kpt.less (C:=C) u6.out));have bD:=zh (show Below C.w.heap.size C.w w9 from hrc.below);have j2:=u6.out.blk (.inr (.inr ⟨xZ.out,l2⟩)) K2.out;have hgu:runO C.p.prs C.F g back q.b r3 ≠ .gas:=fun e=>bA.out (by rw[<-ku.out,e];rfl);have ax:=zh (zlq HS.out bK.out oC.out q.b _ back HPRR.out.body hG1 hgu);rw[show(C.plus W.heap.size hi).rb=rb from cB.out]at ax;have HJ2:=zh j2
    have hi1:=vz.out;have hi0:(0:Int)<=(i:Int):=zO
    rw[show((e0+1:Nat):Int)=(e0:Int)+1 by omega]at Aw eD;clear hr2 he2 hi2 hn2 hev hev' e9 hnn he0 hr3 hrc hkc j2 hgu hG1 kZ HS7 hbd hpq hR;go_upto_region 12 with fail;clear eD hcz hcf e9' Aw;have q2:w9.cell? ⟨pb,2,none⟩=some (zj q.b.k):=zc HJ2.out rfl;have q3:w9.cell? ⟨pb,3,none⟩=some (zi q.b.n):=zc HJ2.out rfl;have q4:w9.cell? ⟨pb,4,none⟩=some (.string q.b.s):=zc HJ2.out rfl;have q5:w9.cell? ⟨pb,5,none⟩=some (.slice B2 q.b.ks.length d2):=zc HJ2.out rfl;go_wp2_with fail;refine ax.out.mono ?_;rintro e aW ⟨hk10,eY,kH⟩;have HK510:=zh (u6.out.trans hk10);have HK10:=zh (bR.out.trans (Kpt.less (C:=C) HK510.out));have nW:=zh (show Below C.w.heap.size C.w aW from eY);have jX:match runO C.p.prs C.F g back q.b r3 with
     | .gas=>True
     | .err x=>e=zlM x
     | .ok r=>(∃u,e=.returned u)/\RI (C.plus W.heap.size hi) aW r:=kH
    clear q2 q3 q4 q5 hk10 eY kH ax
    cases hx:runO C.p.prs C.F g back q.b r3 with
    | gas=>exact absurd (by rw[<-ku.out,hx];rfl) bA.out
    | err x =>
     rw[hx]at jX;subst jX;refine⟨rfl,HK10.out,nW.out,?_⟩
     try rw[bO.out]
     rw[<-ku.out,hx];rfl
    | ok r4 =>
     rw[hx]at jX;obtain⟨⟨u9,rfl⟩,hr4⟩:=jX;have HST:=zh (zl9 bK.out hr4);rw[show(C.plus W.heap.size hi).rb=rb from cB.out]at HST;have fK:=zh (show((zkA C.F r4).bind fun r=>zkk r (zlL r.S))=o by rw[<-ku.out,hx];rfl);have uL:=zh hr4;clear hx hr4;go_wp2_with fail;refine HST.out.mono ?_;rintro e aN ⟨iC,pV,oW⟩;have HK511:=zh (HK510.out.trans iC);have jO:=zh (bR.out.trans (Kpt.less (C:=C) HK511.out));have jT:=zh (show Below C.w.heap.size C.w aN from pV);have jW:match zkA C.F r4 with
      | .gas=>True
      | .err x=>e=zlM x
      | .ok r=>(∃u,e=.returned u)/\RI (C.plus W.heap.size hi) aN r:=oW
     clear iC pV oW HST
     cases hy:zkA C.F r4 with
     | gas=>exact absurd (by rw[<-fK.out,hy];rfl) bA.out
     | err x =>
      rw[hy]at jW;subst jW;refine⟨rfl,jO.out,jT.out,?_⟩
      try rw[bO.out]
      rw[<-fK.out,hy];rfl
     | ok r5 =>
      rw[hy]at jW;obtain⟨⟨u9,rfl⟩,kG⟩:=jW;have kY:=zh kG;have iO:=zh (show FB r4.n r5.S/\r5.n=r4.n+1 by obtain⟨rfl,-⟩:=zkQ hy;exact⟨uL.out.fb,rfl⟩);obtain⟨Rc,lL⟩:=zX (zlL r5.S);have iK:=zh (show zkk r5 Rc=o by rw[<-fK.out,hy,<-lL];rfl);have y6:aN.cell? ⟨rb,6,none⟩=some (.pointer (some ⟨C.sb,0,none⟩)):=by rw[<-cB.out];exact kG.cells.1
      clear kG hy;go_wp2_with fail;refine(kY.out.ks.leave).mono ?_;rintro e ek ⟨rfl,h2,h3⟩;have hs:=RI.store (C:=C.plus W.heap.size hi) kY.out h2 h3 (by rw[iO.out.2];exact iO.out.1.leave);rw[lL]at hs ⊢;have nI:=zh hs.1;have HK512:=zh (HK511.out.trans hs.2);have gW:=zh hs.1.below;have nO:=zh (bR.out.trans (Kpt.less (C:=C) HK512.out));clear hs h2 h3 y6;go_wp2_with fail;refine(zlk ⟨rb,0,none⟩ Rc.1 ek).mono ?_;rintro e y1 ⟨rfl,hv1⟩;rcases hv1 with⟨h0,u0,rfl⟩|⟨h0,rfl⟩
      ·have ed:=zh (show o=.ok { r5 with S:=Rc.2 } by rw[<-iK.out];unfold zkk;rw[if_neg (by simpa using h0)]);have HR13:=zh nI.out.less;clear h0;go_wp2_with fail;go_end0;refine⟨nO.out,gW.out,?_⟩
       try rw[bO.out]
       rw[ed.out];exact⟨⟨_,rfl⟩,HR13.out⟩
      ·refine⟨rfl,nO.out,gW.out,?_⟩
       try rw[bO.out]
       rw[<-iK.out,show zkk r5 Rc=.err Rc.1 by unfold zkk;rw[if_pos h0]]
theorem zrP{G:List PR->T->Prop}{g:Nat}(hS:IStC G g){C:RC}(hC:C.Ok){W:World}{r:RS}(h:RI C W r)(t:T)(v:Value)(back:Bool)(hv:NV C.w Any t v)(hk0:t.k=50)(i:Nat)(hi:prcI C.p.prs t.s=some i)(q:PR)(hq:C.p.prs[i]?=some q)(hG1:∀u∈q.b.ks,G C.p.prs u)
  (o:Out)(ho:caO C.p.prs C.F g back i q (t.ks.map (·.s)) r=o)(hog:o ≠ .gas) :
  Calls prog 108 #[.pointer (some ⟨C.rb,0,none⟩),v,.bool back] W (RunP C W o):=by
 have aD:=hog
 cases back
 ·skip
  obtain⟨k,n,s,ks⟩:=t;obtain rfl:k=50:=hk0;obtain⟨A,c,rfl,-,hlk,hlc,-⟩:=hv.open_;have hb0:=zkb (zs W) (.cells #[zj 50,zi n,.string s,.slice A ks.length c] 28);obtain⟨x0,x1,x2,x3⟩:=box4 (heap_alloc_new W (.cells #[zj 50,zi n,.string s,.slice A ks.length c] 28));have aG:=zh (Kpt.of_below (n0:=C.n0) (kb:=C.kb) hb0);have aI:=zh (show Calls prog 139 #[.pointer (some ⟨C.rb,0,none⟩),.agg #[zj 50,zi n,.string s,.slice A ks.length c],.bool false] (W.alloc (.cells #[zj 50,zi n,.string s,.slice A ks.length c] 28)) (RunP C _ o)from ho▸(zor hS hC (h.later hb0) _ _ false hv i hi q hq hG1 (ho▸hog)));clear hv hb0 h aD hG1 ho hi hq;go_enter func108,ntmps108;go_wp2_with fail;refine aI.out.mono ?_;rintro e w1 ⟨hk1,hb1,ho1⟩
  cases o with
  | gas=>exact absurd rfl hog
  | err x =>
   subst ho1;exact⟨rfl,aG.out.trans hk1,hb1,rfl⟩
  | ok r1 =>
   obtain⟨⟨u,rfl⟩,hr1⟩:=ho1;have HR:=zh hr1;have aC:=zh (aG.out.trans hk1);have HB1:=zh hb1;clear x0 x1 x2 x3 hr1 hk1 hb1;go_wp2_with fail;go_end0;exact⟨aC.out,HB1.out,⟨_,rfl⟩,HR.out⟩
 ·skip
  obtain⟨k,n,s,ks⟩:=t;obtain rfl:k=50:=hk0;obtain⟨A,c,rfl,-,hlk,hlc,-⟩:=hv.open_;have hb0:=zkb (zs W) (.cells #[zj 50,zi n,.string s,.slice A ks.length c] 28);obtain⟨x0,x1,x2,x3⟩:=box4 (heap_alloc_new W (.cells #[zj 50,zi n,.string s,.slice A ks.length c] 28));have aG:=zh (Kpt.of_below (n0:=C.n0) (kb:=C.kb) hb0);have aI:=zh (show Calls prog 139 #[.pointer (some ⟨C.rb,0,none⟩),.agg #[zj 50,zi n,.string s,.slice A ks.length c],.bool true] (W.alloc (.cells #[zj 50,zi n,.string s,.slice A ks.length c] 28)) (RunP C _ o)from ho▸(zor hS hC (h.later hb0) _ _ true hv i hi q hq hG1 (ho▸hog)));clear hv hb0 h aD hG1 ho hi hq;go_enter func108,ntmps108;go_wp2_with fail;refine aI.out.mono ?_;rintro e w1 ⟨hk1,hb1,ho1⟩
  cases o with
  | gas=>exact absurd rfl hog
  | err x =>
   subst ho1;exact⟨rfl,aG.out.trans hk1,hb1,rfl⟩
  | ok r1 =>
   obtain⟨⟨u,rfl⟩,hr1⟩:=ho1;have HR:=zh hr1;have aC:=zh (aG.out.trans hk1);have HB1:=zh hb1;clear x0 x1 x2 x3 hr1 hk1 hb1;go_wp2_with fail;go_end0;exact⟨aC.out,HB1.out,⟨_,rfl⟩,HR.out⟩
theorem zrO{G:List PR->T->Prop}{g:Nat}(hS:IStC G g){C:RC}(hC:C.Ok){W:World}{r:RS}(h:RI C W r)(t:T)(v:Value)(back:Bool)(hv:NV C.w Any t v)(hk0:t.k=51)(i:Nat)(hi:prcI C.p.prs t.s=some i)(q:PR)(hq:C.p.prs[i]?=some q)(hG1:∀u∈q.b.ks,G C.p.prs u)
  (o:Out)(ho:caO C.p.prs C.F g (!back) i q (t.ks.map (·.s)) r=o)(hog:o ≠ .gas) :
  Calls prog 108 #[.pointer (some ⟨C.rb,0,none⟩),v,.bool back] W (RunP C W o):=by
 have aD:=hog
 cases back
 ·skip
  change caO C.p.prs C.F g true i q (t.ks.map (·.s)) r=o at ho;obtain⟨k,n,s,ks⟩:=t;obtain rfl:k=51:=hk0;obtain⟨A,c,rfl,-,hlk,hlc,-⟩:=hv.open_;have hb0:=zkb (zs W) (.cells #[zj 51,zi n,.string s,.slice A ks.length c] 28);obtain⟨x0,x1,x2,x3⟩:=box4 (heap_alloc_new W (.cells #[zj 51,zi n,.string s,.slice A ks.length c] 28));have aG:=zh (Kpt.of_below (n0:=C.n0) (kb:=C.kb) hb0);have aI:=zh (show Calls prog 139 #[.pointer (some ⟨C.rb,0,none⟩),.agg #[zj 51,zi n,.string s,.slice A ks.length c],.bool true] (W.alloc (.cells #[zj 51,zi n,.string s,.slice A ks.length c] 28)) (RunP C _ o)from ho▸(zor hS hC (h.later hb0) _ _ true hv i hi q hq hG1 (ho▸hog)));clear hv hb0 h aD hG1 ho hi hq;go_enter func108,ntmps108;go_wp2_with fail;refine aI.out.mono ?_;rintro e w1 ⟨hk1,hb1,ho1⟩
  cases o with
  | gas=>exact absurd rfl hog
  | err x =>
   subst ho1;exact⟨rfl,aG.out.trans hk1,hb1,rfl⟩
  | ok r1 =>
   obtain⟨⟨u,rfl⟩,hr1⟩:=ho1;have HR:=zh hr1;have aC:=zh (aG.out.trans hk1);have HB1:=zh hb1;clear x0 x1 x2 x3 hr1 hk1 hb1;go_wp2_with fail;go_end0;exact⟨aC.out,HB1.out,⟨_,rfl⟩,HR.out⟩
 ·skip
  change caO C.p.prs C.F g false i q (t.ks.map (·.s)) r=o at ho;obtain⟨k,n,s,ks⟩:=t;obtain rfl:k=51:=hk0;obtain⟨A,c,rfl,-,hlk,hlc,-⟩:=hv.open_;have hb0:=zkb (zs W) (.cells #[zj 51,zi n,.string s,.slice A ks.length c] 28);obtain⟨x0,x1,x2,x3⟩:=box4 (heap_alloc_new W (.cells #[zj 51,zi n,.string s,.slice A ks.length c] 28));have aG:=zh (Kpt.of_below (n0:=C.n0) (kb:=C.kb) hb0);have aI:=zh (show Calls prog 139 #[.pointer (some ⟨C.rb,0,none⟩),.agg #[zj 51,zi n,.string s,.slice A ks.length c],.bool false] (W.alloc (.cells #[zj 51,zi n,.string s,.slice A ks.length c] 28)) (RunP C _ o)from ho▸(zor hS hC (h.later hb0) _ _ false hv i hi q hq hG1 (ho▸hog)));clear hv hb0 h aD hG1 ho hi hq;go_enter func108,ntmps108;go_wp2_with fail;refine aI.out.mono ?_;rintro e w1 ⟨hk1,hb1,ho1⟩
  cases o with
  | gas=>exact absurd rfl hog
  | err x =>
   subst ho1;exact⟨rfl,aG.out.trans hk1,hb1,rfl⟩
  | ok r1 =>
   obtain⟨⟨u,rfl⟩,hr1⟩:=ho1;have HR:=zh hr1;have aC:=zh (aG.out.trans hk1);have HB1:=zh hb1;clear x0 x1 x2 x3 hr1 hk1 hb1;go_wp2_with fail;go_end0;exact⟨aC.out,HB1.out,⟨_,rfl⟩,HR.out⟩
structure GC(G:List PR->T->Prop):Prop where
 two:∀prs t,G prs t->(t.k=52\/t.k=53)->t.ks.length=4/\(∀u∈(kid t 1).ks,G prs u)/\∀u∈(kid t 2).ks,G prs u
 loc:∀prs t,G prs t->t.k=54->t.ks.length=3/\∀u∈(kid t 1).ks,G prs u
 stk:∀prs t,G prs t->t.k=55->t.ks.length=1/\∀u∈(kid t 0).ks,G prs u
 cal:∀prs t,G prs t->(t.k=50\/t.k=51)->∃i q,prcI prs t.s=some i/\prs[i]?=some q/\∀u∈q.b.ks,G prs u
theorem getD_some{prs:List PR}{i:Nat}{q:PR}(h:prs[i]?=some q):prs.getD i ⟨⟨#[]⟩,[],nil0⟩=q:=by
 rw[List.getD_eq_getElem?_getD,h];rfl
theorem zsG{G:List PR->T->Prop}(hG:GC G):∀g,IStC G g
 | 0=>fun C hC W r h t v back hv wI hg=>absurd rfl hg
 | g+1=>fun C hC W r h t v back hv wI hg=>by
  have hS:=zsG hG g;by_cases lM:t.k=52
  ·obtain⟨h1,h2,h3⟩:=hG.two _ _ wI (.inl lM);have e:zkq C.p.prs C.F (g+1) back t r=brO C.p.prs C.F g back t r:=by rw[zkq,if_pos lM];rfl
   rw[e]at hg ⊢;exact zzr hS hC h t v back hv lM h1 h2 h3 _ rfl hg
  by_cases mU:t.k=53
  ·obtain⟨h1,h2,h3⟩:=hG.two _ _ wI (.inr mU);have e:zkq C.p.prs C.F (g+1) back t r=lpO C.p.prs C.F g back t r:=by rw[zkq,if_neg lM,if_pos mU];rfl
   rw[e]at hg ⊢;exact zuF hS hC h t v back hv mU h1 h2 h3 _ rfl hg
  by_cases eG:t.k=54
  ·obtain⟨h1,h2⟩:=hG.loc _ _ wI eG;have e:zkq C.p.prs C.F (g+1) back t r=loO C.p.prs C.F g back t r:=by rw[zkq,if_neg lM,if_neg mU,if_pos eG];rfl
   rw[e]at hg ⊢;exact ztz hS hC h t v back hv eG h1 h2 _ rfl hg
  by_cases eZ:t.k=55
  ·obtain⟨h1,h2⟩:=hG.stk _ _ wI eZ;have e:zkq C.p.prs C.F (g+1) back t r=lsO C.p.prs C.F g back t r:=by rw[zkq,if_neg lM,if_neg mU,if_neg eG,if_pos eZ];rfl
   rw[e]at hg ⊢;exact zzq hS hC h t v back hv eZ h1 h2 hg
  by_cases h5:t.k=50\/t.k=51
  ·obtain⟨i,q,hi,hq,hb⟩:=hG.cal _ _ wI h5;have e:zkq C.p.prs C.F (g+1) back t r=caO C.p.prs C.F g (back != decide (t.k=51)) i q (t.ks.map (·.s)) r:=by
    rw[zkq,if_neg lM,if_neg mU,if_neg eG,if_neg eZ,if_pos h5,hi];dsimp only;rw[getD_some hq];rfl
   rw[e]at hg ⊢;rcases h5 with h50|lN
   ·have e2:(back != decide (t.k=51))=back:=by rw[show decide (t.k=51)=false by simp[h50]];cases back<;>rfl
    rw[e2]at hg ⊢;exact zrP hS hC h t v back hv h50 i hi q hq hb _ rfl hg
   ·have e2:(back != decide (t.k=51)) = !back:=by rw[show decide (t.k=51)=true by simp[lN]];cases back<;>rfl
    rw[e2]at hg ⊢;exact zrO hS hC h t v back hv lN i hi q hq hb _ rfl hg
  ·have e:zkq C.p.prs C.F (g+1) back t r=basO C.F back t r:=by
    rw[zkq,if_neg lM,if_neg mU,if_neg eG,if_neg eZ,if_neg h5];rfl
   rw[e];exact zxc hC h t v back hv ⟨lM,mU,eG,eZ,fun h=>h5 (.inl h),fun h=>h5 (.inr h)⟩
theorem zs8(jb:Nat)(w:World)(h:w.cell? ⟨jb,0,none⟩=some zn):Calls prog 105 #[.pointer (some ⟨jb,0,none⟩)] w fun e w'=>e=.returned (zi 0)/\w'=w:=by
 go_enter func105,ntmps105;go_wp2_with fail;go_ret;exact⟨rfl,rfl⟩
theorem zLg:IsFn prog 105 f105:=⟨func105,zK,zK⟩
theorem zzc{P:Program}{c:Code}{Q Q':Exit->Act->World->Prop}{a:Act}{w:World}(h:c.wp P Q a w)(hQ:∀e a' w',Q e a' w'->Q' e a' w'):c.wp P Q' a w :=
 fun b k cs=>let ⟨e,a',w',q,r⟩:=h b k cs;⟨e,a',w',hQ _ _ _ q,r⟩
theorem zzF(C:World->Prop):∃Q:Exit->Act->World->Prop,(∀a' w',a'.defers=[]->C w'->Q .normal a' w')/\∀e a' w',Q e a' w'->e=.normal/\a'.defers=[]/\C w' :=
 ⟨fun e a' w'=>e=.normal/\a'.defers=[]/\C w',fun _ _ h1 h2=>⟨rfl,h1,h2⟩,fun _ _ _ h=>h⟩
theorem tAss(x:Int)(w:World):(Instr.typeAssert (.iface 175 (.agg #[zi x])) 20 175 true).run prog w=.ok (.tuple #[.agg #[zi x],.bool true]) w:=zK
theorem zyq(a b c:Value)(w:World) :
  CallsD prog 106 #[a,b,c] .returning w fun e u' w'=>e=.returned (.tuple #[])/\u'=.returning/\w'=w:=by
 refine callsD_of_wpS func106 rfl fun c₀ cs hu=>?_;apply wpS_seq;apply wpS_region;simp[wpOpsS,go_sem,recoverD,hu,ntmps106,Exit.thenS];apply wpS_seq;apply wpS_seq;apply wpS_region;simp[wpOpsS,go_sem,Exit.thenS];refine wpS_cond (t:=true) (by simp[Act.eval,Array.replicate]) ?_;simp only[if_true];refine wpS_of_wp (wp_ret ?_)
 cases c₀
 simp_all [bodyPostS,results,results106,Exit.thenS]
theorem zwo(a2 a5 a4 jb:Nat)(x y:Int)(w:World)(h2:w.cell? ⟨a2,0,none⟩=some (.pointer (some ⟨jb,0,none⟩)))(h5:w.cell? ⟨a5,0,none⟩=some (zi 0))(hj:w.cell? ⟨jb,0,none⟩=some zn)(h4:w.cell? ⟨a4,0,none⟩=some (zi y))(hf:w.frozen? ⟨a4,0,none⟩=false) :
  CallsD prog 106 #[.pointer (some ⟨a2,0,none⟩),.pointer (some ⟨a5,0,none⟩),.pointer (some ⟨a4,0,none⟩)] (.panicking [{ v:=.iface 175 (.agg #[zi x]),recovered:=false }]) w fun e u' w' =>
   e=.returned (.tuple #[])/\u'=.panicking [{ v:=.iface 175 (.agg #[zi x]),recovered:=true }]/\w'.cell? ⟨a4,0,none⟩=some (zi x)/\Chg (fun b=>b=a4) w w':=by
 refine callsD_of_wpS func106 rfl fun c₀ cs hu=>?_;apply wpS_seq;apply wpS_region;simp[wpOpsS,go_sem,recoverD,hu,ntmps106,Exit.thenS];apply wpS_seq;apply wpS_seq;apply wpS_region;simp[wpOpsS,go_sem,Exit.thenS];refine wpS_cond (t:=false) (by simp[Act.eval,Array.replicate]) ?_;simp only[Bool.false_eq_true,if_false];refine wpS_of_wp (wp_skip ?_);refine wpS_of_wp ?_;obtain⟨Q,wG,hQ2⟩:=zzF (fun w'=>w'.cell? ⟨a4,0,none⟩=some (zi x)/\Chg (fun b=>b=a4) w w');refine zzc (Q:=Q) ?_ ?_;rotate_left 1
 ·intro e a' w' hq;obtain⟨rfl,h1,h2⟩:=hQ2 _ _ _ hq
  cases c₀
  simp_all [bodyPostS,results,results106,Exit.thenS]
 have HQ:=zh wG;clear wG hQ2 hu;refine Eq.mp (congrArg (fun t=>Code.wp prog _ Q ⟨t,[]⟩ w) (?e:(#[.pointer (some ⟨a2,0,none⟩),.pointer (some ⟨a5,0,none⟩),.pointer (some ⟨a4,0,none⟩),.iface 175 (.agg #[zi x]),undef,undef,.iface 175 (.agg #[zi x]),.iface 175 (.agg #[zi x]),.bool false,undef,undef,undef,undef,undef,undef,undef,undef,undef,undef,undef,undef,undef,undef,undef,undef,undef]:Array Value)=_)) ?_
 case e=>kernel_rfl
 go_upto_region 2 with fail;have HS:=zh (show ∀w',zw w w'->(fun w':World=>zv w' a2 0 (.pointer (some ⟨jb,0,none⟩))/\zv w' a5 0 (zi 0)) w' from fun w' hb=>⟨zb hb h2,zb hb h5⟩);have oJ:=zh (fun w' (hb:zw w w')=>zs8 jb w' (zb hb hj));have hSS:zW (fun w':World=>zv w' a2 0 (.pointer (some ⟨jb,0,none⟩))/\zv w' a5 0 (zi 0)) zU w.drew:=⟨HS.out _ zr.drew,trivial⟩
 refine wp_region_noPanic ?_;refine zG hSS 3 ?_;refine zT 0 hSS ?_;refine zT 2 hSS ?_;have had:Calls prog 105 [.pointer (some ⟨jb,0,none⟩)].toArray w.drew fun e w'=>∃v,e=.returned v/\(v=zi 0/\w'=w.drew):=(oJ.out _ zr.drew).mono fun e w' ⟨h1,h2⟩=>⟨_,h1,rfl,h2⟩
 refine zo 1 fun K hK=>?_;refine zke zR (.func 105) [.tmp 9] _ zR 105 _ zLg zR _ zR _ had ?_;rintro v1 w1 ⟨rfl,rfl⟩;refine hK.out _ _ hSS ?_;clear hK K had;(try simp only[zQ]);refine zp 3 fun K hK=>?_;(try simp only[zA,zB,zC]);go_simp;refine hK.out _ _ hSS.1 ?_;clear hK K;(try simp only[zQ]);refine zd ?_;refine NoPanic.normal ?_;clear hSS HS oJ;have ht:=fun w=>tAss x w;obtain⟨w1,hw1⟩:=zX (w.drew);have hb1:zw w w1:=hw1▸zr.drew;have g4:=zb hb1 h4;have gf:w1.frozen? ⟨a4,0,none⟩=false:=hw1▸hf;have hlt:a4<w1.heap.size:=World.block_lt_of_cell? w1 _ g4;have z4:=zkj g4 (.cells #[zi x] 175);have HB1:=zh hb1;rw[hw1];clear h2 h5 hj h4 hf hw1 hb1;go_wp2_with fail;have hch:=(Chg.refl (fun b=>b=a4) w1).setCell (p:=⟨a4,0,none⟩) (.inl rfl) (zi x)
 exact HQ.out _ _ rfl ⟨zkj (by simp[go_sem,g4]) _,(Chg.of_below HB1.out).trans (hch.alloc _)⟩
def AttP(W:World)(R:World->Prop)(X:Int->World->Prop)(e:Ending)(w':World):Prop :=
 (e=.returned (zi 0)/\∃w1,R w1/\Chg (fun b=>W.heap.size<=b/\b<W.heap.size+3) w1 w')\/∃x,e=.returned (zi x)/\∃w1,X x w1/\Chg (fun b=>W.heap.size<=b/\b<W.heap.size+3) w1 w'
theorem zsy(jb:Nat)(f:FuncId)(fn:Func)(hf:IsFn prog f fn)(caps:Array Value)(W:World)(hj:W.heap[jb]?=some (.cells #[zn,.bool false] 132 (0,0)))(R:World->Prop)(X:Int->World->Prop)
  (hact:∀W1,zw W W1->W1.heap.size=W.heap.size+3->Calls prog f caps W1 fun e w'=>(∀b,(W.heap.size<=b\/b=jb)->b<W1.heap.size->w'.heap[b]?=W1.heap[b]?)/\(((∃u,e=.returned u)/\R w')\/∃x,e=zlM x/\X x w')) :
  Calls prog 74 #[.pointer (some ⟨jb,0,none⟩),.func (.func f) #[] caps] W (AttP W R X):=by
 have yM:∀(fn:Fn) (first cap:Array Value) (w:World),(Instr.makeFunc fn first cap).run prog w=.ok (.func fn first cap) w:=fun _ _ _ _=>rfl;have hnf:∀w:World,(binOp BinOp.eql 1 (.func (.func f) #[] caps) .nilFunc).run prog w=.ok (.bool false) w:=fun _=>zK
 have HJ:=zh hj;have hjl:=zkf hj;have HA:=zh hact;have hLE:=fun w' (hb:zw W w')=>zs8 jb w' (zb hb (zc hj rfl));have oJ:=zh hLE;clear hj hact hLE
 go_enter_defers func74,ntmps74
 go_wp2_with fail;refine(oJ.out _ (zkb (zkb zr _) _)).mono ?_;rintro e w1 ⟨rfl,rfl⟩;go_wp2_with fail;rw[zkH hf,Oper.upon_enter];have k0:=zkd (zkd (heap_alloc_new W (.cells #[.pointer (some ⟨jb,0,none⟩)] 129)) (.cells #[zi 0] 35)) (.cells #[zi 0] 3);have k1:=zkd (heap_alloc_new (W.alloc (.cells #[.pointer (some ⟨jb,0,none⟩)] 129)) (.cells #[zi 0] 35)) (.cells #[zi 0] 3);have k2:=heap_alloc_new ((W.alloc (.cells #[.pointer (some ⟨jb,0,none⟩)] 129)).alloc (.cells #[zi 0] 35)) (.cells #[zi 0] 3);have kj:=zkd (zkd (zkd HJ.out (.cells #[.pointer (some ⟨jb,0,none⟩)] 129)) (.cells #[zi 0] 35)) (.cells #[zi 0] 3);have hb3:=zkb (zkb (zkb (zs W) (.cells #[.pointer (some ⟨jb,0,none⟩)] 129)) (.cells #[zi 0] 35)) (.cells #[zi 0] 3);simp only[World.size_alloc]at k1 k2
 obtain⟨w3,hw3⟩:=zX (((W.alloc (.cells #[.pointer (some ⟨jb,0,none⟩)] 129)).alloc (.cells #[zi 0] 35)).alloc (.cells #[zi 0] 3));have hz3:w3.heap.size=W.heap.size+3:=by rw[<-hw3];simp
 rw[hw3]at k0 k1 k2 kj hb3 ⊢;clear hw3;refine(HA.out w3 hb3 hz3).mono ?_;rintro e w2 ⟨hk,h⟩;have q0:=(hk _ (.inl zl) zO).trans k0;have q1:=(hk _ (.inl (Nat.le_succ _)) zO).trans k1;have q2:=(hk _ (.inl zO) zO).trans k2;have qj:=(hk _ (.inr rfl) zO).trans kj;clear k0 k1 k2 kj hk hb3;rcases h with⟨⟨u,rfl⟩,hR⟩|⟨x,rfl,hX⟩
 ·have c1:w2.cell? ⟨W.heap.size+1,0,none⟩=some (zi 0):=zc q1 rfl;have f1:∀o,w2.frozen? ⟨W.heap.size+1,o,none⟩=false:=fun _=>zf q1;have HRR:=zh hR;clear q0 q2 qj oJ HA hR;go_wp2_with fail;refine leaves_cons (f:=106) (args := #[.pointer (some ⟨W.heap.size,0,none⟩),.pointer (some ⟨W.heap.size+1+1,0,none⟩),.pointer (some ⟨W.heap.size+1,0,none⟩)]) zS (by simp[go_sem]) ?_;refine(zyq _ _ _ _).mono ?_;rintro e u' w'' ⟨rfl,rfl,rfl⟩;have hch:=(Chg.refl (fun b=>W.heap.size<=b/\b<W.heap.size+3) w2).setCell (p:=⟨W.heap.size+1,0,none⟩) (.inl ⟨Nat.le_succ _,zS⟩) (zi 0);have hc2:(w2.setCell ⟨W.heap.size+1,0,none⟩ (zi 0)).cell? ⟨W.heap.size+1,0,none⟩=some (zi 0):=by simp[go_sem,c1]
  have HP:AttP W R X (.returned (zi 0)) (w2.setCell ⟨W.heap.size+1,0,none⟩ (zi 0)):=.inl ⟨rfl,w2,HRR.out,hch⟩;simp[Leaves,settle,results,results74,go_sem,hc2,HP]
 ·have p0:w2.cell? ⟨W.heap.size,0,none⟩=some (.pointer (some ⟨jb,0,none⟩)):=zc q0 rfl;have p1:w2.cell? ⟨W.heap.size+1,0,none⟩=some (zi 0):=zc q1 rfl;have p2:w2.cell? ⟨W.heap.size+1+1,0,none⟩=some (zi 0):=zc q2 rfl;have pj:w2.cell? ⟨jb,0,none⟩=some zn:=zc qj rfl;have f1:w2.frozen? ⟨W.heap.size+1,0,none⟩=false:=zf q1;refine leaves_cons (f:=106) (args := #[.pointer (some ⟨W.heap.size,0,none⟩),.pointer (some ⟨W.heap.size+1+1,0,none⟩),.pointer (some ⟨W.heap.size+1,0,none⟩)]) zS (by simp[go_sem]) ?_;refine(zwo _ _ _ jb x 0 _ p0 p2 pj p1 f1).mono ?_;rintro e u' w'' ⟨rfl,rfl,hc2,hch⟩;have HP:AttP W R X (.returned (zi x)) w'':=.inr ⟨x,rfl,w2,hX,hch.mono fun b _ e=>zO⟩;simp[Leaves,settle,results,results74,go_sem,hc2,HP]
theorem zuZ:∀(prs:List PR) (s:ByteArray),prcI prs s=idxP prs s
 | [],_=>rfl
 | q::qs,s=>by
  unfold prcI;rw[zuZ qs s];unfold idxP;rw[List.findIdx?_cons]
def CalB(prs:List PR)(t:T):Prop:=∀u∈po t,(u.k=50\/u.k=51)->∃i,prcI prs u.s=some i
theorem zvy:∀(t:T),isE t=true->∀x∈po t,isE x=true:=by
 intro t
 induction t using T.ind with
 | _ k n s ks ih =>
  intro h x hx;simp only[po,List.mem_cons]at hx;rcases hx with rfl|hx
  ·exact h
  ·obtain⟨t,ht,hx⟩:=zlP.1 hx;exact ih t ht (zqh h t ht) x hx
theorem CalB.expr{prs:List PR}{t:T}(h:isE t=true):CalB prs t:=fun u hu hk=>by
 have:=ztT u (zvy t h u hu);omega
theorem CalB.kid{prs:List PR}{k n:Int}{s:ByteArray}{ks:List T}(h:CalB prs (.nd k n s ks)){t:T}(ht:t∈ks):CalB prs t:=fun u hu=>h u (by simp only[po,List.mem_cons];exact .inr (zlP.2 ⟨t,ht,hu⟩))
theorem zo5{prs:List PR}{k:Int}{s:ByteArray}{vs:List VD}:∀ {ks:List T} {i:Nat},cntK prs k s i ks vs=0->∀t∈ks,∃vs',cntV prs t vs'=0
 | [],_,_,t,ht=>by cases ht
 | u::us,i,h,t,ht=>by
  rw[cntK]at h;obtain⟨h1,h2⟩:=Nat.add_eq_zero_iff.1 h;rcases List.mem_cons.1 ht with rfl|ht
  ·exact⟨_,h1⟩
  ·exact zo5 h2 t ht
theorem zq1{e:Int}(h:one1 e=0):e=0:=by
 unfold one1 at h
 split at h
 ·assumption
 ·omega
theorem zy4:∀(t:T) (prs:List PR) (vs:List VD),(isS t=true\/isB t=true\/isE t=true)->cntV prs t vs=0->CalB prs t:=by
 intro t
 induction t using T.ind with
 | _ k n s ks ih =>
  intro prs vs ht h;rcases ht with hs|hb|he
  ·rw[cntV]at h;intro u hu hk;simp only[po,List.mem_cons]at hu;by_cases hc:k=50\/k=51
   ·rcases hu with rfl|hu
    ·have h0:=zq1 (e:=zlr prs k s ks.length vs) zO;unfold zlr at h0;rw[if_neg zO,if_neg zO,if_neg zO,if_neg zO,if_pos hc]at h0;rw[zuZ]
     cases hi:idxP prs s with
     | none=>rw[hi]at h0;simp at h0
     | some i=>exact⟨i,hi⟩
    ·obtain⟨t,ht,hx⟩:=zlP.1 hu;have h57:t.k≠57:=by
      rcases zmN hs with⟨_,h1⟩|⟨h1,_⟩|⟨h1,_⟩|⟨h1,_⟩
      ·exact h1 t ht
      all_goals omega
     rcases(zs9 hs).2 t ht with h1|h1
     ·exact CalB.expr h1 u hx hk
     ·exact absurd (zxM h1) h57
   ·rw[if_neg hc]at h;rcases hu with rfl|hu
    ·exact absurd hk hc
    ·obtain⟨t,ht,hx⟩:=zlP.1 hu;obtain⟨vs',hv⟩:=zo5 (Nat.add_eq_zero_iff.1 h).2 t ht;rcases(zs9 hs).2 t ht with h1|h1
     ·exact CalB.expr h1 u hx hk
     ·exact ih t ht prs vs' (.inr (.inl h1)) hv u hx hk
  ·obtain⟨h57,hks⟩:=zny _ _ _ _ hb;rw[cntV,if_neg zO]at h;intro u hu hk;simp only[po,List.mem_cons]at hu;rcases hu with rfl|hu
   ·simp only[T.k_nd]at hk;omega
   ·obtain⟨t,ht,hx⟩:=zlP.1 hu;obtain⟨vs',hv⟩:=zo5 (Nat.add_eq_zero_iff.1 h).2 t ht;exact ih t ht prs vs' (.inl (hks t ht)) hv u hx hk
  ·exact CalB.expr he
def GP(prs:List PR)(t:T):Prop:=isS t=true/\CalB prs t/\∀q∈prs,isB q.b=true/\CalB prs q.b
theorem GP.block{prs:List PR}{b:T}(hb:isB b=true)(hc:CalB prs b)(hq:∀q∈prs,isB q.b=true/\CalB prs q.b):∀u∈b.ks,GP prs u:=by
 obtain⟨k,n,s,ks⟩:=b;exact fun u hu=>⟨(zny _ _ _ _ hb).2 u hu,hc.kid hu,hq⟩
theorem zKK:GC GP where
 two:=fun prs t h hk=>by
  obtain⟨k,n,s,ks⟩:=t;obtain⟨hs,hc,hq⟩:=h;simp only[T.k_nd]at hk;rcases zmN hs with⟨h1,_⟩|⟨_,_,a,b,c,d,rfl,_,hb1,hb2,_⟩|⟨h1,_⟩|⟨h1,_⟩
  ·omega
  ·exact⟨rfl,GP.block hb1 (hc.kid (t:=b) zS) hq,GP.block hb2 (hc.kid (t:=c) zS) hq⟩
  ·omega
  ·omega
 loc:=fun prs t h hk=>by
  obtain⟨k,n,s,ks⟩:=t;obtain⟨hs,hc,hq⟩:=h;simp only[T.k_nd]at hk;rcases zmN hs with⟨h1,_⟩|⟨h1,_⟩|⟨_,_,a,b,c,rfl,_,hb1,_⟩|⟨h1,_⟩
  ·omega
  ·omega
  ·exact⟨rfl,GP.block hb1 (hc.kid (t:=b) zS) hq⟩
  ·omega
 stk:=fun prs t h hk=>by
  obtain⟨k,n,s,ks⟩:=t;obtain⟨hs,hc,hq⟩:=h;simp only[T.k_nd]at hk;rcases zmN hs with⟨h1,_⟩|⟨h1,_⟩|⟨h1,_⟩|⟨_,_,b,rfl,hb1⟩
  ·omega
  ·omega
  ·omega
  ·exact⟨rfl,GP.block hb1 (hc.kid (t:=b) zS) hq⟩
 cal:=fun prs t h hk=>by
  obtain⟨hs,hc,hq⟩:=h;have hm:t∈po t:=by obtain⟨k,n,s,ks⟩:=t;simp[po]
  obtain⟨i,hi⟩:=hc t hm hk;obtain⟨-,hl⟩:=zp8 _ _ _ hi;exact⟨i,prs[i],hi,List.getElem?_eq_getElem hl,GP.block (hq _ (List.getElem_mem hl)).1 (hq _ (List.getElem_mem hl)).2 hq⟩
theorem zoK{ps:List PR}:∀ {j:Nat},j<=ps.length->prcN ps j=0->∀i (h:i<ps.length),i<j->prcE ps i ps[i]=0
 | 0,_,_,i,_,hi=>zO
 | j+1,hj,h,i,hl,hi=>by
  rw[zoL zO]at h;by_cases e:i=j
  ·subst e;omega
  ·exact zoK (j:=j) zO zO i hl zO
theorem znn{p:PG}(h:zkx p=true):isB p.m=true/\∀r∈p.prs,isB r.b=true:=by
 simp only[zkx,Bool.and_eq_true,decide_eq_true_eq,List.all_eq_true]at h;refine⟨?_,fun r hr=>?_⟩
 ·have:=h.2;simp only[zk4,Bool.and_eq_true]at this;exact this.2
 ·have:=h.1.2 r hr;simp only[zoJ,zk4,Bool.and_eq_true]at this;exact this.2.2
theorem zsv{p:PG}(hv:zkx p=true)(hc:chkN p=0):∀u∈p.m.ks,GP p.prs u:=by
 obtain⟨h1,h2⟩:=znn hv;unfold chkN at hc;refine GP.block h1 (zy4 _ _ p.vs (.inr (.inl h1)) zO) fun q hq=>⟨h2 q hq,?_⟩
 obtain⟨i,hi,rfl⟩:=List.getElem_of_mem hq;have:=zoK zl (show prcN p.prs p.prs.length=0 by omega) i hi hi;unfold prcE at this;exact zy4 _ _ _ (.inr (.inl (h2 _ hq))) (show cntV p.prs p.prs[i].b p.prs[i].ps=0 by omega)
theorem zLb(M a b r s g:Nat)(h1:a<=b)(h2:s<=r)(hg:b*M+r<=g):a*M+s<=g:=by have:=Nat.mul_le_mul_right M h1;omega
theorem zsJ{p:PG}{F:Int}{g:Nat}(hv:zkx p=true)(hg:F.toNat*2000+2000<=g)(back:Bool)(S:ST)(e:List Nat):Good 0 (runO p.prs F g back p.m ⟨S,0,e⟩):=by
 obtain⟨_,_,h3,_,h5⟩:=zla hv;refine zlU _ _ fun u hu r hr=>zmq (M:=2000) (fun q hq=>(h3 q hq).2.2) zO g back u r ?_;have h6:=zqb (zlh hu);exact zLb 2000 (F.toNat-r.n) F.toNat 2000 _ g zO zO hg
def Nz(o:Out):Prop:=o ≠ .err 0
theorem Nz.bind{o:Out}{f:RS->Out}(h:Nz o)(hf:∀r,Nz (f r)):Nz (o.bind f):=by
 cases o with
 | gas=>exact fun e=>by cases e
 | err x=>exact h
 | ok r=>exact hf r
theorem Nz.ok(r:RS):Nz (.ok r):=fun e=>by cases e
theorem Nz.gas:Nz .gas:=fun e=>by cases e
theorem Nz.step(F:Int)(r:RS):Nz (zkA F r):=by
 unfold zkA
 split
 ·intro e;injection e with e;omega
 ·exact Nz.ok _
theorem Nz.store(r:RS)(R:Int×ST):Nz (zkk r R):=by
 unfold zkk
 split
 ·rename_i h;intro e;injection e with e;exact h e
 ·exact Nz.ok _
theorem Nz.val{t:T}{r:RS}{f:Int->RS->Out}(hf:∀x,Nz (f x r)):Nz (valO t r f):=by
 unfold valO
 split
 ·rename_i h;intro e;injection e with e;exact h e
 ·exact hf _
theorem Nz.holds{F:Int}{t:T}{r:RS}{f:Bool->RS->Out}(hf:∀b r,Nz (f b r)):Nz (zk7 F t r f):=(Nz.step F r).bind fun r=>Nz.val fun x=>hf _ _
theorem Nz.assert(F:Int)(t:T)(b:Bool)(r:RS):Nz (zkp F t b r):=Nz.holds fun b' r=>by
 split
 ·exact Nz.ok _
 ·intro e;injection e with e;omega
theorem Nz.body{f:T->RS->Out}:∀(l:List T) (r:RS),(∀t∈l,∀r,Nz (f t r))->Nz (zkP f l r)
 | [],r,_=>Nz.ok r
 | t::ts,r,h=>(h t (List.mem_cons_self ..) r).bind fun r=>Nz.body ts r fun u hu=>h u (List.mem_cons_of_mem _ hu)
theorem Nz.loop{F:Int}{f:T->RS->Out}{entry test:T}{l1 l2:List T}(h1:∀t∈l1,∀r,Nz (f t r))(h2:∀t∈l2,∀r,Nz (f t r)):∀(m:Nat) (r:RS),Nz (zlS F f entry test l1 l2 m r)
 | 0,_=>Nz.gas
 | m+1,r=>by
  rw[zlS];refine(Nz.body l1 r h1).bind fun r=>Nz.holds fun b r=>?_
  split
  ·exact Nz.ok _
  ·exact(Nz.body l2 r h2).bind fun r=>(Nz.assert F entry false r).bind fun r=>Nz.loop h1 h2 m r
theorem zoo{G:List PR->T->Prop}(hG:GC G){prs:List PR}{F:Int}:∀(g:Nat) (back:Bool) (t:T) (r:RS),G prs t->Nz (zkq prs F g back t r)
 | 0,_,_,_,_=>Nz.gas
 | g+1,back,t,r,h=>by
  have hb:∀back (b:T) r,(∀u∈b.ks,G prs u)->Nz (zkP (zkq prs F g back) (blkL back b) r):=fun back b r hu=>Nz.body _ r fun u hm r=>zoo hG g back u r (hu u (zlh hm));rw[zkq]
  split
  ·rename_i hk;obtain⟨-,h1,h2⟩:=hG.two _ _ h (.inl hk);refine Nz.holds fun yes r=>Nz.bind ?_ fun r=>Nz.assert _ _ _ _
   split
   ·exact hb _ _ _ h1
   ·exact hb _ _ _ h2
  ·split
   ·rename_i hk;obtain⟨-,h1,h2⟩:=hG.two _ _ h (.inr hk);exact(Nz.assert _ _ _ _).bind fun r=>Nz.loop (fun u hm r=>zoo hG g back u r (h1 u (zlh hm))) (fun u hm r=>zoo hG g back u r (h2 u (zlh hm))) g r
   ·split
    ·rename_i hk;obtain⟨-,h1⟩:=hG.loc _ _ h hk;exact(Nz.step _ _).bind fun r=>Nz.val fun x=>(Nz.store _ _).bind fun r=>(hb _ _ _ h1).bind fun r=>(Nz.step _ _).bind fun r=>Nz.val fun x=>Nz.store _ _
    ·split
     ·rename_i hk;obtain⟨-,h1⟩:=hG.stk _ _ h hk;exact(Nz.step _ _).bind fun r=>(Nz.store _ _).bind fun r=>(hb _ _ _ h1).bind fun r=>(Nz.step _ _).bind fun r=>Nz.store _ _
     ·split
      ·rename_i hk;obtain⟨i,q,hi,hq,h1⟩:=hG.cal _ _ h hk;rw[hi];dsimp only;rw[getD_some hq];exact(Nz.step _ _).bind fun r=>(Nz.store _ _).bind fun r=>(hb _ _ _ h1).bind fun r=>(Nz.step _ _).bind fun r=>Nz.store _ _
      ·exact(Nz.step _ _).bind fun r=>Nz.store _ _
theorem zuM{G:List PR->T->Prop}(hG:GC G){prs:List PR}{F:Int}{g:Nat}{back:Bool}{b:T}{r:RS}(h:∀u∈b.ks,G prs u):Nz (runO prs F g back b r):=Nz.body _ r fun u hm r=>zoo hG g back u r (h u (zlh hm))
theorem RI.chgK{C:RC}{lo hi:Nat}{W W':World}{r:RS}(hC:(C.plus lo hi).Ok)(h:RI (C.plus lo hi) W r)(hc:Chg (fun b=>lo<=b/\b<hi) W W')(hlo:C.w.heap.size<=lo):RI (C.plus lo hi) W' r:=by
 have hkb:∀b,lo<=b/\b<hi->(C.plus lo hi).kb b:=fun b hb=>.inr hb;refine⟨h.ks.chg hc fun b _ hb=>⟨Nat.le_trans hlo hb.1,.inr (.inl (hkb b hb))⟩,hc.keep h.box fun hb=>hC.rb.2 (hkb _ hb),znV h.ent fun b hb=>?_,h.el,h.en,h.n,h.fb⟩;exact hc.block b (h.ent.lt b hb).2 fun hb'=>hC.ev.2 b hb (hkb _ hb')
def Fam(p:PG):Prop:=∃G:List PR->T->Prop,(∀g,IStC G g)/\(zkx p=true->chkN p=0->(∀u∈p.m.ks,G p.prs u)/\∀(F:Int) (g:Nat) (back:Bool) (r:RS),Nz (runO p.prs F g back p.m r))
theorem zz8(p:PG):Fam p:=⟨GP,zsG zKK,fun hv hc=>⟨zsv hv hc,fun _ _ _ _=>zuM zKK (zsv hv hc)⟩⟩
theorem ztA{G:List PR->T->Prop}(hS:∀g,IStC G g){C:RC}(hC:C.Ok){W:World}{r:RS}(h:RI C W r)(hG:∀u∈C.p.m.ks,G C.p.prs u)(g:Nat)(back:Bool)(hg:runO C.p.prs C.F g back C.p.m r ≠ .gas)(pb qb bb:Nat)
  (h0:W.cell? ⟨pb,0,none⟩=some (.pointer (some ⟨C.rb,0,none⟩)))(hq:W.heap[qb]?=some (.cells #[.slice C.A1 C.p.vs.length C.c1,.slice C.A2 C.p.prs.length C.c2,zj C.p.m.k,zi C.p.m.n,.string C.p.m.s,.slice C.A3 C.p.m.ks.length C.c3] 30 (0,0)))(hb:W.cell? ⟨bb,0,none⟩=some (.bool back)) :
  Calls prog 75 #[.pointer (some ⟨pb,0,none⟩),.pointer (some ⟨qb,0,none⟩),.pointer (some ⟨bb,0,none⟩)] W (RunP C W (runO C.p.prs C.F g back C.p.m r)):=by
 have ax:=zh (zlq (hS g) hC h C.p.m _ back hC.pg.main hG hg);have q2:W.cell? ⟨qb,2,none⟩=some (zj C.p.m.k):=zc hq rfl;have q3:W.cell? ⟨qb,3,none⟩=some (zi C.p.m.n):=zc hq rfl;have q4:W.cell? ⟨qb,4,none⟩=some (.string C.p.m.s):=zc hq rfl;have q5:W.cell? ⟨qb,5,none⟩=some (.slice C.A3 C.p.m.ks.length C.c3):=zc hq rfl;obtain⟨o,ho⟩:=zX (runO C.p.prs C.F g back C.p.m r);rw[ho]at ax hg ⊢;clear hC h hG hq ho;go_enter func75,ntmps75;go_wp2_with fail;refine ax.out.mono ?_;rintro e w1 ⟨hk1,hb1,ho1⟩
 cases o with
 | gas=>exact absurd rfl hg
 | err x =>
  subst ho1;exact⟨rfl,hk1,hb1,rfl⟩
 | ok r1 =>
  obtain⟨⟨u,rfl⟩,hr1⟩:=ho1;have HR:=zh hr1;have aC:=zh hk1;have HB1:=zh hb1;clear h0 q2 q3 q4 q5 hb hr1 hk1 hb1;go_wp2_with fail;go_end0;exact⟨aC.out,HB1.out,⟨_,rfl⟩,HR.out⟩
def outR(s:SS):Out->SS×Nat×Int×List Nat
 | .ok r=>(r.S.state,r.n,0,r.ent)
 | .err e=>(s,0,e,[])
 | .gas=>(s,0,0,[])
def resO(p:PG)(s:SS)(F:Int)(g:Nat)(back:Bool):SS×Nat×Int×List Nat :=
 if zkx p=false\/chkN p≠0 then(s,0,3,[])else if fitB p.vs s=false then(s,0,20,[])else outR s (runO p.prs F g back p.m ⟨newS p.vs s,0,List.replicate p.prs.length 0⟩)
def LimR(R:SS×Nat×Int×List Nat):Prop:=R.1.Lim/\(R.2.2.1=0->R.1.cells.length<=1000+R.2.1/\(∀l∈R.1.cells,l.length<=1000)/\R.1.tin.length<=4096/\R.1.tout.length<=4096)
theorem LimR.run{r:RS}(h:r.S.WF)(hf:FB r.n r.S)(e:List Nat):LimR (r.S.state,r.n,0,e):=by
 obtain⟨-,h1,h2⟩:=zrS h;obtain⟨kd,hb,-⟩:=h.ex;refine⟨h1,fun _=>⟨?_,h2,h.tin.1,h.tout.1⟩⟩;have:=hb.len;have:=hf.1;simp only[ST.state,List.length_map,List.length_take];omega
def ResP(W:World)(R:SS×Nat×Int×List Nat)(e:Ending)(W':World):Prop:=∃A c v1 v2 v3,e=.returned (.tuple #[.slice A R.2.2.2.length c,.agg #[v1,v2,v3,zi (R.2.1:Int),zi R.2.2.1]]) /\
 OwnS W' W.heap.size R.1 (.agg #[v1,v2,v3])/\RowI W' (fun b=>W.heap.size<=b) A (R.2.2.2.map Int.ofNat)/\R.2.2.2.length<=c/\zw W W'/\LimR R
theorem OwnS.slices{W:World}{n0:Nat}{s:SS}{v:Value}(h:OwnS W n0 s v):∃A c B d D e,v=.agg #[.slice A s.cells.length c,.slice B s.tin.length d,.slice D s.tout.length e]:=by
 obtain⟨vc,vi,vo,fc,rfl,hr,-⟩:=h;obtain⟨A,c,e1,-⟩:=zkh (hr.row .all);obtain⟨B,d,e2,-⟩:=zkh (hr.row .inp);obtain⟨D,e,e3,-⟩:=zkh (hr.row .out);change vc=.slice A s.cells.length c at e1;change vi=.slice B s.tin.length d at e2;change vo=.slice D s.tout.length e at e3;exact⟨A,c,B,d,D,e,by rw[e1,e2,e3]⟩
theorem OwnS.chg{W W':World}{n0:Nat}{s:SS}{v:Value}{Cc:Nat->Prop}(h:OwnS W n0 s v)(hc:Chg Cc W W')(hC:∀b,Cc b->b<n0):OwnS W' n0 s v:=by
 obtain⟨vc,vi,vo,fc,rfl,hr,hi⟩:=h;exact⟨vc,vi,vo,fc,rfl,hr.chg hc fun i b hb hcb=>by have:=(hr.lt i b hb).1;have:=hC b hcb;omega,hi⟩
theorem OwnS.lower{W:World}{n0 n1:Nat}{s:SS}{v:Value}(h:OwnS W n1 s v)(hn:n0<=n1):OwnS W n0 s v:=by
 obtain⟨vc,vi,vo,fc,rfl,hr,hi⟩:=h;exact⟨vc,vi,vo,fc,rfl,hr.mono hn,hi⟩
theorem set5{W:World}{b:Nat}{x0 x1 x2 x3 x4 u0 u1 u2 u3 u4:Value}{E:TypeId}(h:W.heap[b]?=some (.cells #[x0,x1,x2,x3,x4] E (0,0))) :
  (((((W.setCell ⟨b,0,none⟩ u0).setCell ⟨b,1,none⟩ u1).setCell ⟨b,2,none⟩ u2).setCell ⟨b,3,none⟩ u3).setCell ⟨b,4,none⟩ u4).heap[b]?=some (.cells #[u0,u1,u2,u3,u4] E (0,0)) /\
   Chg (fun q=>q=b) W (((((W.setCell ⟨b,0,none⟩ u0).setCell ⟨b,1,none⟩ u1).setCell ⟨b,2,none⟩ u2).setCell ⟨b,3,none⟩ u3).setCell ⟨b,4,none⟩ u4):=by
 refine⟨?_,(((((Chg.refl (fun q=>q=b) W).setCell (p:=⟨b,0,none⟩) (.inl rfl) _).setCell (p:=⟨b,1,none⟩) (.inl rfl) _).setCell (p:=⟨b,2,none⟩) (.inl rfl) _).setCell (p:=⟨b,3,none⟩) (.inl rfl) _).setCell (p:=⟨b,4,none⟩) (.inl rfl) _⟩;rw[heap_setCell_same _ b 4 _ _ u4 (heap_setCell_same _ b 3 _ _ u3 (heap_setCell_same _ b 2 _ _ u2 (heap_setCell_same _ b 1 _ _ u1 (heap_setCell_same W b 0 _ _ u0 h))))];simp
theorem bRes(A B D:Option Addr)(l c m d n e:Nat)(x:Int)(w:World):(Instr.build 58 #[(0,.agg #[.slice A l c,.slice B m d,.slice D n e]),(2,zi x)]).run prog w=.ok (.agg #[.slice A l c,.slice B m d,.slice D n e,zi 0,zi x]) w:=zK
theorem zL6(A B D:Option Addr)(l c m d n e:Nat)(x:Int)(w:World):(Instr.build 58 #[(0,.agg #[.slice A l c,.slice B m d,.slice D n e]),(1,zi x)]).run prog w=.ok (.agg #[.slice A l c,.slice B m d,.slice D n e,zi x,zi 0]) w:=zK
theorem zve(n:Nat):madeCells (Value.int .i64 0).cells (n*1)=(zki (List.replicate n 0)).toArray:=by
 apply Array.ext';apply List.ext_getElem
 ·rw[Array.length_toList,size_madeCells];simp[zki]
 ·intro i h1 h2;have e:i % 1=0:=zO
  simp[madeCells,zki,Value.cells,e]
theorem zL7(n:Nat)(hn:n<=4096)(w:World):(Instr.makeSlice 42 (zi (n:Int)) (zi (n:Int))).run prog w=.ok (.slice (some ⟨w.heap.size,0,none⟩) n n) (w.alloc (.cells (zki (List.replicate n 0)).toArray 3)):=by
 have h:=zn0;obtain⟨i,hi,hz⟩:=Option.map_eq_some_iff.1 h;injection hz with h1 h2;injection h2 with h2 h3;have hsc:(4096:Nat)<=9223372036854775807:=zY
 have:=zlf (P:=prog) 42 3 i (zi 0) underlying42 hi h1 .i64 .i64 n n zl (by rw[h3];omega) (Nat.le_trans hn hsc) w;rw[h2,zve]at this;exact this
theorem bRun(A1 A2 A3 E:Option Addr)(l1 c1 l2 c2 l3 c3 m d:Nat)(k n F:Int)(s:ByteArray)(sb:Nat)(w:World):(Instr.build 127 #[(0,pv A1 l1 c1 A2 l2 c2 k n s A3 l3 c3),(1,.pointer (some ⟨sb,0,none⟩)),(3,zi F),(4,.slice E m d)]).run prog w =
  .ok (.agg #[.slice A1 l1 c1,.slice A2 l2 c2,zj k,zi n,.string s,.slice A3 l3 c3,.pointer (some ⟨sb,0,none⟩),zi 0,zi F,.slice E m d]) w:=zK
theorem zwm{W:World}{a b:Nat}{x y:Array Value}{E F:TypeId}(ha:W.heap[a]?=some (.cells x E (0,0)))(hb:W.heap[b]?=some (.cells y F (0,0)))(hne:E≠F):a≠b:=by
 rintro rfl;rw[ha]at hb;injection hb with hb;injection hb with h1 h2;exact hne h2
theorem zrq{W w4 w8 aN:World}{n0:Nat}{kb:Nat->Prop}(h4:zw W w4)(h11:zw W aN)(h48:zw w4 w8)(hk:Kpt n0 kb w8 aN)(hn:w4.heap.size<=n0):zw w4 aN :=
 ⟨h11.os.trans h4.os.symm,h11.tape.trans h4.tape.symm,h11.output.trans h4.output.symm,Nat.le_trans h48.size hk.size,fun b hb=>(hk.kept b (Nat.lt_of_lt_of_le hb h48.size) (.inl (Nat.lt_of_lt_of_le hb hn))).trans (h48.block b hb)⟩
theorem zxV:IsFn prog 75 f75:=⟨func75,zK,zK⟩
theorem zxU:IsFn prog 77 f77:=⟨func77,zK,zK⟩
def OkR(C:RC)(lo hi:Nat)(o:Out)(w9 w':World):Prop:=∃r,o=.ok r/\(C.plus lo hi).Ok/\RI (C.plus lo hi) w' r/\Kpt C.n0 C.kb w9 w'
def ErX(C:RC)(o:Out)(w9:World)(x:Int)(w':World):Prop:=o=.err x/\Kpt C.n0 C.kb w9 w'/\Below C.w.heap.size C.w w'
theorem zsn{G:List PR->T->Prop}(hS:∀g,IStC G g){C:RC}{w8 w9:World}{r:RS}{jb:Nat}(hC8:C.Ok)(h8:RI C w8 r)(eD:w8.alloc (.cells #[zn,.bool false] 132)=w9)(hjb:w8.heap.size=jb)(hG:∀u∈C.p.m.ks,G C.p.prs u)(g:Nat)(back:Bool)(o:Out)(ho:runO C.p.prs C.F g back C.p.m r=o)(hg:o ≠ .gas)(pb qb bb:Nat)
  (h0:w8.cell? ⟨pb,0,none⟩=some (.pointer (some ⟨C.rb,0,none⟩)))(hq:w8.heap[qb]?=some (.cells #[.slice C.A1 C.p.vs.length C.c1,.slice C.A2 C.p.prs.length C.c2,zj C.p.m.k,zi C.p.m.n,.string C.p.m.s,.slice C.A3 C.p.m.ks.length C.c3] 30 (0,0)))(hb:w8.cell? ⟨bb,0,none⟩=some (.bool back)) :
  Calls prog 74 #[.pointer (some ⟨jb,0,none⟩),.func (.func 75) #[] #[.pointer (some ⟨pb,0,none⟩),.pointer (some ⟨qb,0,none⟩),.pointer (some ⟨bb,0,none⟩)]] w9 (AttP w9 (OkR (C.plus jb w9.heap.size) w9.heap.size (w9.heap.size+3) o w9) (ErX (C.plus jb w9.heap.size) o w9)):=by
 have hbj:=zkb (zs w8) (.cells #[zn,.bool false] 132);have kj:=heap_alloc_new w8 (.cells #[zn,.bool false] 132);obtain⟨hC9,h9⟩:=h8.plus hC8 hbj;rw[eD,hjb]at kj hC9 h9;rw[eD]at hbj;have hjl:=zkf kj;refine zsy jb _ _ zxV _ w9 kj _ _ fun W1 hb1 hz1=>?_;obtain⟨bz,h1⟩:=h9.plus hC9 hb1;have hbt:=zka hbj hb1;have hrun:=ztA hS bz h1 hG g back (show runO C.p.prs C.F g back C.p.m r ≠ .gas by rw[ho];exact hg) pb qb bb (zb hbt h0) (zkc hq hbt) (zb hbt hb);refine hrun.mono ?_;rintro e w' ⟨hk,hbl,hout⟩;rw[show runO ((C.plus jb w9.heap.size).plus w9.heap.size W1.heap.size).p.prs ((C.plus jb w9.heap.size).plus w9.heap.size W1.heap.size).F g back ((C.plus jb w9.heap.size).plus w9.heap.size W1.heap.size).p.m r=o from ho]at hout;refine⟨fun b hb hlt=>hk.kept b hlt (.inr ?_),?_⟩
 ·rcases hb with hb|rfl
  ·exact .inr ⟨hb,hlt⟩
  ·exact .inl (.inr ⟨zl,hjl⟩)
 ·have hkk:Kpt C.n0 (C.plus jb w9.heap.size).kb w9 w':=(Kpt.of_below hb1).trans (Kpt.less (C:=C.plus jb w9.heap.size) hk)
  cases o with
  | gas=>exact absurd rfl hg
  | err x=>exact .inr ⟨x,hout,rfl,hkk,hbl⟩
  | ok r1 =>
   rw[hz1]at bz hout;exact .inl ⟨hout.1,r1,rfl,bz,hout.2,hkk⟩
theorem zuJ(p:PG)(s:SS)(F:Int)(g:Nat)(back:Bool)(v sv:Value)(W:World)(hp:PV W Any p v)(hs:SV W Any s sv)(hcl:s.cells.length<=5864062014800)(hF:I64 F)(qK:F<=1000000)(hg:F.toNat*2000+2000<=g)(hfam:Fam p) :
  Calls prog 42 #[v,sv,zi F,.bool back] W (ResP W (resO p s F g back)):=by
 have HFAM:=zh hfam;clear hfam;have HP:=zh hp;have HS:=zh hs;obtain⟨A1,c1,A2,c2,A3,c3,rfl,gu⟩:=hp;obtain⟨A,c,B,d,D,e,rfl,hr1,hr2,hr3,hc1,hc2,hc3,hl1,hl2,hl3,hl4⟩:=hs;have yc:=zh gu;have oH:=zh (show s.Lim from⟨hl1,hl2,hl3,hl4⟩);have HV:=zh (fun w' (hb:zw W w')=>zlN p Any _ w' (HP.out.later hb));have bJ:=zh (fun w' (hb:zw W w')=>zlV p Any _ w' (HP.out.later hb));have dJ:=zh (fun w' (hb:zw W w')=>zqB s _ w' (HS.out.later hb) hcl);have wQ:=zh (fun w' (hb:zw W w')=>zKI p.vs s A1 c1 _ w' (gu.vars.later hb) gu.lv (HS.out.later hb));obtain⟨Re,hRe⟩:=zX (resO p s F g back);have gP:=zh hRe;rw[hRe]
 have hb4:=zkb (zkb (zkb (zkb (zs W) (.cells #[.slice A1 p.vs.length c1,.slice A2 p.prs.length c2,zj p.m.k,zi p.m.n,.string p.m.s,.slice A3 p.m.ks.length c3] 30)) (.cells #[.slice A s.cells.length c,.slice B s.tin.length d,.slice D s.tout.length e] 44)) (.cells #[.bool back] 4)) (.cells #[zn,zn,zn,zi 0,zi 0] 58);have k0:=zkd (zkd (zkd (heap_alloc_new W (.cells #[.slice A1 p.vs.length c1,.slice A2 p.prs.length c2,zj p.m.k,zi p.m.n,.string p.m.s,.slice A3 p.m.ks.length c3] 30)) (.cells #[.slice A s.cells.length c,.slice B s.tin.length d,.slice D s.tout.length e] 44)) (.cells #[.bool back] 4)) (.cells #[zn,zn,zn,zi 0,zi 0] 58)
 have k1:=zkd (zkd (heap_alloc_new (W.alloc (.cells #[.slice A1 p.vs.length c1,.slice A2 p.prs.length c2,zj p.m.k,zi p.m.n,.string p.m.s,.slice A3 p.m.ks.length c3] 30)) (.cells #[.slice A s.cells.length c,.slice B s.tin.length d,.slice D s.tout.length e] 44)) (.cells #[.bool back] 4)) (.cells #[zn,zn,zn,zi 0,zi 0] 58);have k2:=zkd (heap_alloc_new ((W.alloc (.cells #[.slice A1 p.vs.length c1,.slice A2 p.prs.length c2,zj p.m.k,zi p.m.n,.string p.m.s,.slice A3 p.m.ks.length c3] 30)).alloc (.cells #[.slice A s.cells.length c,.slice B s.tin.length d,.slice D s.tout.length e] 44)) (.cells #[.bool back] 4)) (.cells #[zn,zn,zn,zi 0,zi 0] 58)
 have k3:=heap_alloc_new (((W.alloc (.cells #[.slice A1 p.vs.length c1,.slice A2 p.prs.length c2,zj p.m.k,zi p.m.n,.string p.m.s,.slice A3 p.m.ks.length c3] 30)).alloc (.cells #[.slice A s.cells.length c,.slice B s.tin.length d,.slice D s.tout.length e] 44)).alloc (.cells #[.bool back] 4)) (.cells #[zn,zn,zn,zi 0,zi 0] 58);simp only[World.size_alloc]at k1 k2 k3;have lZ:((((W.alloc (.cells #[.slice A1 p.vs.length c1,.slice A2 p.prs.length c2,zj p.m.k,zi p.m.n,.string p.m.s,.slice A3 p.m.ks.length c3] 30)).alloc (.cells #[.slice A s.cells.length c,.slice B s.tin.length d,.slice D s.tout.length e] 44)).alloc (.cells #[.bool back] 4)).alloc (.cells #[zn,zn,zn,zi 0,zi 0] 58)).heap.size=W.heap.size+4:=zS
 obtain⟨w4,hw4⟩:=zX (((((W.alloc (.cells #[.slice A1 p.vs.length c1,.slice A2 p.prs.length c2,zj p.m.k,zi p.m.n,.string p.m.s,.slice A3 p.m.ks.length c3] 30)).alloc (.cells #[.slice A s.cells.length c,.slice B s.tin.length d,.slice D s.tout.length e] 44)).alloc (.cells #[.bool back] 4)).alloc (.cells #[zn,zn,zn,zi 0,zi 0] 58)));rw[hw4]at hb4 k0 k1 k2 k3 lZ;have ay:=zh hb4;have aG:=zh k0;have aC:=zh k1;have aQ:=zh k2;have fF:=zh k3;have qO:=zh lZ;have p0:w4.cell? ⟨W.heap.size,0,none⟩=some (.slice A1 p.vs.length c1):=zc k0 rfl;have p1:w4.cell? ⟨W.heap.size,1,none⟩=some (.slice A2 p.prs.length c2):=zc k0 rfl;have p2:w4.cell? ⟨W.heap.size,2,none⟩=some (zj p.m.k):=zc k0 rfl;have p3:w4.cell? ⟨W.heap.size,3,none⟩=some (zi p.m.n):=zc k0 rfl;have p4:w4.cell? ⟨W.heap.size,4,none⟩=some (.string p.m.s):=zc k0 rfl
 have p5:w4.cell? ⟨W.heap.size,5,none⟩=some (.slice A3 p.m.ks.length c3):=zc k0 rfl;obtain⟨vb,hvb⟩:=zX (zkx p);have bg:=zh hvb;rw[hvb]at HV bJ;clear gu hr1 hr2 hr3 hRe hvb hb4 k0 k1 k2 k3 lZ hl1 hl2 hl3 hl4 hc1 hc2 hc3;go_enter func42,ntmps42;go_wp2_with fail;refine(HV.out w4 ay.out).mono ?_;rintro e5 w5 ⟨rfl,b5⟩;clear hw4
 cases vb
 ·have HX:=zh (show Re=(s,0,3,[]) by rw[<-gP.out,resO,if_pos (.inl bg.out)]);clear p0 p1 p2 p3 p4 p5;have dN:=zkc aC.out b5;have gK:=zkc fF.out b5;have s0:w5.cell? ⟨W.heap.size+1,0,none⟩=some (.slice A s.cells.length c):=zc dN rfl;have s1:w5.cell? ⟨W.heap.size+1,1,none⟩=some (.slice B s.tin.length d):=zc dN rfl;have s2:w5.cell? ⟨W.heap.size+1,2,none⟩=some (.slice D s.tout.length e):=zc dN rfl;have aI:=zh (dJ.out w5 (zka ay.out b5));have cB:=zh gK;have hbq:=b5;clear dN gK;go_wp2_with fail;refine aI.out.mono ?_;rintro e9 w9 ⟨v9,rfl,dE,aP⟩;obtain⟨A9,c9,B9,d9,D9,e9,rfl⟩:=dE.slices;have fK:=zh dE;have bD:=zh (zka hbq aP);have aM:=zkc cB.out aP;have x0:w9.cell? ⟨W.heap.size+3,0,none⟩=some zn:=zc aM rfl;have x1:w9.cell? ⟨W.heap.size+3,1,none⟩=some zn:=zc aM rfl
  have x2:w9.cell? ⟨W.heap.size+3,2,none⟩=some zn:=zc aM rfl;have x3:w9.cell? ⟨W.heap.size+3,3,none⟩=some (zi 0):=zc aM rfl;have x4:w9.cell? ⟨W.heap.size+3,4,none⟩=some (zi 0):=zc aM rfl;have xf:∀o,w9.frozen? ⟨W.heap.size+3,o,none⟩=false:=fun _=>zf aM;have jN:=zh aM;have hbr:=bRes;have rR:W.heap.size+4<=w5.heap.size:=by have:=hbq.size;rw[qO.out]at this;exact this
  clear s0 s1 s2 aM dE aP hbq aI;go_wp2_with fail;obtain⟨hh,hch⟩:=set5 (u0:=.slice A9 s.cells.length c9) (u1:=.slice B9 s.tin.length d9) (u2:=.slice D9 s.tout.length e9) (u3:=zi 0) (u4:=zi 3) jN.out;obtain⟨aW,fT⟩:=zX ((((((w9.setCell ⟨W.heap.size+3,0,none⟩ (.slice A9 s.cells.length c9)).setCell ⟨W.heap.size+3,1,none⟩ (.slice B9 s.tin.length d9)).setCell ⟨W.heap.size+3,2,none⟩ (.slice D9 s.tout.length e9)).setCell ⟨W.heap.size+3,3,none⟩ (zi 0)).setCell ⟨W.heap.size+3,4,none⟩ (zi 3)));rw[fT]at hh hch ⊢;have t0:aW.cell? ⟨W.heap.size+3,0,none⟩=some (.slice A9 s.cells.length c9):=zc hh rfl;have t1:aW.cell? ⟨W.heap.size+3,1,none⟩=some (.slice B9 s.tin.length d9):=zc hh rfl;have t2:aW.cell? ⟨W.heap.size+3,2,none⟩=some (.slice D9 s.tout.length e9):=zc hh rfl;have t3:aW.cell? ⟨W.heap.size+3,3,none⟩=some (zi 0):=zc hh rfl
  have t4:aW.cell? ⟨W.heap.size+3,4,none⟩=some (zi 3):=zc hh rfl;refine bodyPost_ret (v:=.tuple #[zn,.agg #[.slice A9 s.cells.length c9,.slice B9 s.tin.length d9,.slice D9 s.tout.length e9,zi 0,zi 3]]) (by simp[results,results42,go_sem,t0,t1,t2,t3,t4]) rfl ?_;rw[HX.out];exact⟨none,0,_,_,_,rfl,(fK.out.chg hch fun b hb=>zO).lower zO,fun i hi=>absurd hi zS,zl,(zka ay.out bD.out).trans (hch.below (zka ay.out bD.out).size fun b hb=>zO),oH.out,fun h=>by first|(simp at h;done)|exact absurd h yY.out⟩
 ·have q0:=zb b5 p0;have q1:=zb b5 p1;have q2:=zb b5 p2;have q3:=zb b5 p3;have q4:=zb b5 p4;have q5:=zb b5 p5;have bK:=zh (show Calls prog 26 #[pv A1 p.vs.length c1 A2 p.prs.length c2 p.m.k p.m.n p.m.s A3 p.m.ks.length c3] w5 (fun e w'=>∃A c,e=Ending.returned (.slice A (chkN p) c)/\zw w5 w')from(bJ.out w5 (zka ay.out b5)).mono (fun e w' ⟨A,c,h1,h2⟩=>⟨A,c,by rw[h1,if_pos rfl],h2⟩));clear p0 p1 p2 p3 p4 p5 bJ HV;go_wp2_with fail;refine bK.out.mono ?_;rintro e6 w6 ⟨AA,cc,rfl,b6⟩;have mY:=zka b5 b6;clear q0 q1 q2 q3 q4 q5;by_cases hn:chkN p=0
  ·obtain⟨n,hnn⟩:=zX (chkN p);rw[hnn];obtain rfl:n=0:=zO
   have hng:¬ (0:Int)<((0:Nat):Int):=zO
   have j3:=zkc aG.out mY;have dN:=zkc aC.out mY;have p0:w6.cell? ⟨W.heap.size,0,none⟩=some (.slice A1 p.vs.length c1):=zc j3 rfl;have s0:w6.cell? ⟨W.heap.size+1,0,none⟩=some (.slice A s.cells.length c):=zc dN rfl;have s1:w6.cell? ⟨W.heap.size+1,1,none⟩=some (.slice B s.tin.length d):=zc dN rfl;have s2:w6.cell? ⟨W.heap.size+1,2,none⟩=some (.slice D s.tout.length e):=zc dN rfl;have fB:=zh hnn;clear j3 dN hn hnn;go_wp2_with fail;refine(wQ.out w6 (zka ay.out mY)).mono ?_;rintro e7 w7 ⟨b7,⟨hfit,rfl⟩|⟨hfit,P,rfl,AQ⟩⟩
   ·have HX:=zh (show Re=(s,0,20,[]) by rw[<-gP.out,resO,if_neg (by rw[bg.out,fB.out];simp),if_pos hfit]);have qN:=zka mY b7;clear p0 s0 s1 s2 hfit;have dN:=zkc aC.out qN;have gK:=zkc fF.out qN;have s0:w7.cell? ⟨W.heap.size+1,0,none⟩=some (.slice A s.cells.length c):=zc dN rfl;have s1:w7.cell? ⟨W.heap.size+1,1,none⟩=some (.slice B s.tin.length d):=zc dN rfl;have s2:w7.cell? ⟨W.heap.size+1,2,none⟩=some (.slice D s.tout.length e):=zc dN rfl;have aI:=zh (dJ.out w7 (zka ay.out qN));have cB:=zh gK;have hbq:=qN;clear dN gK;go_wp2_with fail;refine aI.out.mono ?_;rintro e9 w9 ⟨v9,rfl,dE,aP⟩;obtain⟨A9,c9,B9,d9,D9,e9,rfl⟩:=dE.slices;have fK:=zh dE;have bD:=zh (zka hbq aP);have aM:=zkc cB.out aP;have x0:w9.cell? ⟨W.heap.size+3,0,none⟩=some zn:=zc aM rfl;have x1:w9.cell? ⟨W.heap.size+3,1,none⟩=some zn:=zc aM rfl
    have x2:w9.cell? ⟨W.heap.size+3,2,none⟩=some zn:=zc aM rfl;have x3:w9.cell? ⟨W.heap.size+3,3,none⟩=some (zi 0):=zc aM rfl;have x4:w9.cell? ⟨W.heap.size+3,4,none⟩=some (zi 0):=zc aM rfl;have xf:∀o,w9.frozen? ⟨W.heap.size+3,o,none⟩=false:=fun _=>zf aM;have jN:=zh aM;have hbr:=bRes;have rR:W.heap.size+4<=w7.heap.size:=by have:=hbq.size;rw[qO.out]at this;exact this
    clear s0 s1 s2 aM dE aP hbq aI;go_wp2_with fail;obtain⟨hh,hch⟩:=set5 (u0:=.slice A9 s.cells.length c9) (u1:=.slice B9 s.tin.length d9) (u2:=.slice D9 s.tout.length e9) (u3:=zi 0) (u4:=zi 20) jN.out;obtain⟨aW,fT⟩:=zX ((((((w9.setCell ⟨W.heap.size+3,0,none⟩ (.slice A9 s.cells.length c9)).setCell ⟨W.heap.size+3,1,none⟩ (.slice B9 s.tin.length d9)).setCell ⟨W.heap.size+3,2,none⟩ (.slice D9 s.tout.length e9)).setCell ⟨W.heap.size+3,3,none⟩ (zi 0)).setCell ⟨W.heap.size+3,4,none⟩ (zi 20)));rw[fT]at hh hch ⊢;have t0:aW.cell? ⟨W.heap.size+3,0,none⟩=some (.slice A9 s.cells.length c9):=zc hh rfl;have t1:aW.cell? ⟨W.heap.size+3,1,none⟩=some (.slice B9 s.tin.length d9):=zc hh rfl;have t2:aW.cell? ⟨W.heap.size+3,2,none⟩=some (.slice D9 s.tout.length e9):=zc hh rfl;have t3:aW.cell? ⟨W.heap.size+3,3,none⟩=some (zi 0):=zc hh rfl
    have t4:aW.cell? ⟨W.heap.size+3,4,none⟩=some (zi 20):=zc hh rfl;refine bodyPost_ret (v:=.tuple #[zn,.agg #[.slice A9 s.cells.length c9,.slice B9 s.tin.length d9,.slice D9 s.tout.length e9,zi 0,zi 20]]) (by simp[results,results42,go_sem,t0,t1,t2,t3,t4]) rfl ?_;rw[HX.out];exact⟨none,0,_,_,_,rfl,(fK.out.chg hch fun b hb=>zO).lower zO,fun i hi=>absurd hi zS,zl,(zka ay.out bD.out).trans (hch.below (zka ay.out bD.out).size fun b hb=>zO),oH.out,fun h=>by first|(simp at h;done)|exact absurd h yY.out⟩
   ·have qN:=zka mY b7;have qB:=zh hfit;have Cg:=zh AQ;clear p0 s0 s1 s2 hfit AQ;have j3:=zkc aG.out qN;have p0:w7.cell? ⟨W.heap.size,0,none⟩=some (.slice A1 p.vs.length c1):=zc j3 rfl;have p1:w7.cell? ⟨W.heap.size,1,none⟩=some (.slice A2 p.prs.length c2):=zc j3 rfl;have p2:w7.cell? ⟨W.heap.size,2,none⟩=some (zj p.m.k):=zc j3 rfl;have p3:w7.cell? ⟨W.heap.size,3,none⟩=some (zi p.m.n):=zc j3 rfl;have p4:w7.cell? ⟨W.heap.size,4,none⟩=some (.string p.m.s):=zc j3 rfl;have p5:w7.cell? ⟨W.heap.size,5,none⟩=some (.slice A3 p.m.ks.length c3):=zc j3 rfl;obtain⟨hvl,hpl,xn,-,hpm⟩:=zla bg.out;have hmk:=zL7 p.prs.length zO;obtain⟨np,kJ⟩:=zX (p.prs.length);rw[kJ]at p1 hmk;have qW:=zh kJ
    obtain⟨HH,hHH⟩:∃H:World->Prop,H=fun w':World=>w'.cell? ⟨W.heap.size,0,none⟩=some (.slice A1 p.vs.length c1)/\w'.cell? ⟨W.heap.size,1,none⟩=some (.slice A2 np c2)/\w'.cell? ⟨W.heap.size,2,none⟩=some (zj p.m.k)/\w'.cell? ⟨W.heap.size,3,none⟩=some (zi p.m.n)/\w'.cell? ⟨W.heap.size,4,none⟩=some (.string p.m.s)/\w'.cell? ⟨W.heap.size,5,none⟩=some (.slice A3 p.m.ks.length c3):=⟨_,rfl⟩
    have az:=zh (show ∀w',zw w7 w'->HH w' by
     rw[hHH];exact fun w' hb=>⟨zb hb p0,zb hb p1,zb hb p2,zb hb p3,zb hb p4,zb hb p5⟩)
    rw[kJ];go_upto_region 6 with fail;have hSS:zW HH zU w7.drew:=⟨az.out _ zr.drew,trivial⟩
    refine wp_region_noPanic ?_;refine zG hSS 10 ?_;subst hHH;refine zT 0 hSS ?_;refine zT 1 hSS ?_;refine zT 2 hSS ?_;refine zT 3 hSS ?_;refine zT 4 hSS ?_;refine zT 5 hSS ?_;clear p0 p1 p2 p3 p4 p5 j3 kJ;refine zsz (fun A f l a wr=>∃(l6 l7 l8 l9:Bool) (v43 v44 v45 v12:Value) (eb rb pb:Nat),f=(!l6).toNat+(!l7).toNat+(!l8).toNat+(!l9).toNat+1/\l = #[true,true,true,true,true,true,l6,l7,l8,l9,false] /\
     a=(((A.put (some 43) v43).put (some 44) v44).put (some 45) v45).put (some 12) v12/\Hid (zw w7 wr) /\
     Hid ((l7=true->l6=true)/\(l8=true->l7=true)/\(l6=true->v43=.slice (some ⟨eb,0,none⟩) np np/\wr.heap[eb]?=some (.cells (zki (List.replicate np 0)).toArray 3 (0,0))/\w7.heap.size<=eb) /\
      (l7=true->v44=.agg #[.slice A1 p.vs.length c1,.slice A2 np c2,zj p.m.k,zi p.m.n,.string p.m.s,.slice A3 p.m.ks.length c3,.pointer (some ⟨P.sb,0,none⟩),zi 0,zi F,.slice (some ⟨eb,0,none⟩) np np]) /\
      (l8=true->v45=.pointer (some ⟨rb,0,none⟩)/\wr.heap[rb]?=some (.cells #[.slice A1 p.vs.length c1,.slice A2 np c2,zj p.m.k,zi p.m.n,.string p.m.s,.slice A3 p.m.ks.length c3,.pointer (some ⟨P.sb,0,none⟩),zi 0,zi F,.slice (some ⟨eb,0,none⟩) np np] 127 (0,0))/\w7.heap.size<=rb) /\
      (l9=true->v12=.pointer (some ⟨pb,0,none⟩)/\wr.heap[pb]?=some (.cells #[.pointer none] 125 (0,0))/\w7.heap.size<=pb)) /\
     Hid ((l6=false->v43=undef)/\(l7=false->v44=undef)/\(l8=false->v45=undef)/\(l9=false->v12=undef))) (fun A f l a wr h=>?_) ?_ ⟨false,false,false,false,undef,undef,undef,undef,0,0,0,rfl,rfl,(by simp only[Act.put,zD,zE,zF]),zh zr.drew,zh ⟨fun h=>(by cases h),fun h=>(by cases h),fun h=>(by cases h),fun h=>(by cases h),fun h=>(by cases h),fun h=>(by cases h)⟩,zh ⟨fun _=>rfl,fun _=>rfl,fun _=>rfl,fun _=>rfl⟩⟩
    ·obtain⟨_,_,_,_,_,_,_,_,_,_,_,_,_,_,hb,_⟩:=h;exact⟨az.out _ hb.out,trivial⟩
    rintro A' hA f l a wr ⟨l6,l7,l8,l9,v43,v44,v45,v12,eb,rb,pb,hf,rfl,ha,ag,HC,HU⟩;by_cases hall:(l6&&l7&&l8&&l9)=true
    ·left
     simp only[Bool.and_eq_true]at hall;obtain⟨⟨⟨rfl,rfl⟩,rfl⟩,rfl⟩:=hall;obtain⟨-,-,h6,h7,h8,h9⟩:=HC.out;obtain⟨rfl,he,hel⟩:=h6 rfl;obtain rfl:=h7 rfl;obtain⟨rfl,hr,hrl⟩:=h8 rfl;obtain⟨rfl,hq,lG⟩:=h9 rfl;subst hf ha hA;have hner:eb≠rb:=zwm he hr zY;have hneq:eb≠pb:=zwm he hq zY;have hnrq:rb≠pb:=zwm hr hq zY;have c0:wr.cell? ⟨pb,0,none⟩=some (.pointer none):=zc hq rfl;have cf:∀j,wr.frozen? ⟨pb,j,none⟩=false:=fun j=>zf hq;refine zp 10 fun K hK=>?_;(try simp only[zQ]);go_simp;have hch:Chg (fun b=>b=pb) wr (wr.setCell ⟨pb,0,none⟩ (.pointer (some ⟨rb,0,none⟩))):=(Chg.refl (fun b=>b=pb) wr).setCell (p:=⟨pb,0,none⟩) (.inl rfl) _;have hh:(wr.setCell ⟨pb,0,none⟩ (.pointer (some ⟨rb,0,none⟩))).heap[pb]?=some (.cells #[.pointer (some ⟨rb,0,none⟩)] 125 (0,0)):=by
      rw[heap_setCell_same wr pb 0 _ _ (.pointer (some ⟨rb,0,none⟩)) hq];rfl
     have iQ:=zh (show zw w7 (wr.setCell ⟨pb,0,none⟩ (.pointer (some ⟨rb,0,none⟩)))from ag.out.trans (hch.below ag.out.size fun b e=>zO));have wV:=zh (hch.keep he hneq);have oD:=zh (hch.keep hr hnrq);have zg:=zh hh;obtain⟨w8,hw8⟩:=zX (wr.setCell ⟨pb,0,none⟩ (.pointer (some ⟨rb,0,none⟩)));rw[hw8]at iQ wV oD zg ⊢;refine hK.out _ _ (az.out _ iQ.out) ?_;clear hK K hSS hch hh hw8 c0 cf he hr hq h6 h7 h8 h9 HC HU ag hmk az;refine zd ?_;refine NoPanic.normal ?_;(try simp only[zQ]);have hlt_e:=zkf wV.out;have hlt_r:=zkf oD.out;have hlt_q:=zkf zg.out;obtain⟨C,hC⟩:∃C:RC,C=⟨W,w6.heap.size,P.sb,rb,p,A1,c1,A2,c2,A3,c3,F,.slice (some ⟨eb,0,none⟩) np np,fun b=>b=pb⟩:=⟨_,rfl⟩
     have hs67:=b7.size;have hs46:=mY.size;have lZ:=qO.out;have hbWw6:=zka ay.out mY;have yw:=zh (show C.Ok by
      rw[hC];exact⟨yc.out,hF,qK,⟨by simp only;omega,by simp only;exact hnrq⟩,⟨by simp[Value.ownBlock];exact hner,fun b hb hk=>by simp only[Value.ownBlock,Option.some.injEq]at hb;simp only at hk;omega⟩,fun q hq=>by have:=(xn q hq).1;omega⟩)
     have bU:=zh (show RI C w8 ⟨newS p.vs s,0,List.replicate np 0⟩ by
      rw[hC];have hks:=(KS.new hbWw6 b7 Cg.out).also iQ.out (kb':=fun b=>b=pb\/b=rb\/(Value.slice (some ⟨eb,0,none⟩) np np).ownBlock=some b) (fun b hb=>.inr (by
       rcases hb with rfl|rfl|hb
       ·exact⟨lG,hlt_q⟩
       ·exact⟨hrl,hlt_r⟩
       ·simp[Value.ownBlock]at hb;subst hb;exact⟨hel,hlt_e⟩))
      refine⟨hks,by rw[<-qW.out]at oD;simpa[RC.cells,qW.out]using oD.out,?_,by simp[qW.out],fun c hc=>by simp at hc;omega,zS,?_⟩
      ·refine⟨by simp[zki],.inr ⟨eb,np,_,zS,Nat.le_trans hs67 hel,wV.out,zS,by unfold maxLen;have:=qW.out;omega,by simp[zki],by simp[zki]⟩⟩
      ·exact⟨by simp only[newS];omega,fun f hf=>by simp[newS]at hf⟩)
     obtain⟨GX,hGX,hGM⟩:=HFAM.out;have nP:=zh (hGM bg.out fB.out);clear hGM;obtain⟨o,ho⟩:=zX (runO p.prs F g back p.m ⟨newS p.vs s,0,List.replicate np 0⟩);have hog:o ≠ .gas:=ho▸(zsJ bg.out hg back (newS p.vs s) (List.replicate np 0)).1;have hon:Nz o:=ho▸nP.out.2 _ _ _ _;have HRR:=zh (show Re=outR s o by rw[<-gP.out,resO,if_neg (by rw[bg.out,fB.out];simp),if_neg (by rw[qB.out];simp),<-ho,<-qW.out]);have kg:=zka qN iQ.out;obtain⟨jb,hjb⟩:=zX (w8.heap.size);obtain⟨w9,eD⟩:=zX (w8.alloc (.cells #[zn,.bool false] 132));have HAT:=zh (zsn hGX yw.out bU.out eD hjb (by rw[hC];exact nP.out.1) g back o (by rw[hC];exact ho) hog pb W.heap.size (W.heap.size+1+1) (by rw[hC];exact zc zg.out rfl) (by rw[hC];simp only;rw[qW.out];have:=zkc aG.out kg;rw[qW.out]at this;exact this) (zc (zkc aQ.out kg) rfl))
     have vZ:w9.heap.size=jb+1:=by rw[<-eD];simp[hjb]
     have HK89:=zh (show Kpt C.n0 C.kb w8 w9 from Kpt.of_below (eD▸zkb (zs w8) _));have yM:∀(fn:Fn) (first cap:Array Value) (w:World),(Instr.makeFunc fn first cap).run prog w=.ok (.func fn first cap) w:=fun _ _ _ _=>rfl;have HN0C:=zh (show C.n0=w6.heap.size/\C.w=W/\C.rb=rb/\C.ev=.slice (some ⟨eb,0,none⟩) np np/\(C.kb=fun b=>b=pb)/\C.sb=P.sb/\C.p=p by rw[hC];exact⟨rfl,rfl,rfl,rfl,rfl,rfl,rfl⟩);have HHB48:=zh kg;have jZ:=ay.out;have hb4s:W.heap.size<=w6.heap.size:=hbWw6.size;clear hC kg ho hlt_e hlt_r;go_wp2_with fail;refine HAT.out.mono ?_;rintro e10 aN hat;clear HAT eD yM;rcases hat with⟨rfl,aW,⟨r,rfl,hok,aT,hkp⟩,hch⟩|⟨x,rfl,aW,⟨rfl,hkp,hbl⟩,hch⟩
     ·obtain⟨hn0,hcw,pI,mK,kL,pG,hcp⟩:=HN0C.out;have hri1:=RI.chgK (C:=C.plus jb w9.heap.size) hok aT hch (by show C.w.heap.size<=_;rw[hcw];have:=iQ.out.size;omega);have jq:RI C aN r:=hri1.less.less;have hkk:Kpt C.n0 C.kb w8 aN:=HK89.out.trans ((Kpt.less (C:=C) hkp).trans (Kpt.chg hch fun b hb=>⟨by rw[hn0];omega,by rw[kL];intro e;subst e;omega⟩));have dC:=zrq jZ (by have:=jq.below;rw[hcw]at this;exact this) HHB48.out hkk (by rw[hn0];exact hs46);have gM:=zh jq;have HX:=zh (show Re=(r.S.state,r.n,0,r.ent)from HRR.out);obtain⟨-,x7,-,x9,-⟩:=jq.cells;rw[pI]at x7 x9;rw[mK]at x9;have xp:aN.cell? ⟨pb,0,none⟩=some (.pointer (some ⟨rb,0,none⟩)):=zc (hkk.blk (.inr (by rw[kL])) zg.out) rfl;have HKR:=zh (zkc fF.out dC);have nU:=zh dC;have hls:=jq.ks;have HST:=zh (fun w' (hb:zw aN w')=>(hls.later hb).state);rw[pG]at HST
      have yj:=zh (show r.ent.length=np by rw[jq.el,hcp,qW.out]);have nQ:=zh jq.ent;rw[hn0,mK]at nQ;have hne0:(0:Int)=0:=rfl;have az:=zh (show ∀w',zw aN w'->(fun w':World=>zv w' pb 0 (.pointer (some ⟨rb,0,none⟩))/\zv w' rb 7 (zi r.n)/\zv w' rb 9 (.slice (some ⟨eb,0,none⟩) np np)) w' from fun w' hb=>⟨zb hb xp,zb hb x7,zb hb x9⟩);clear aT hri1 jq hkk hkp hls hn0 hcw pI mK kL pG hch x7 x9 xp dC hok;go_upto_region 10 with fail;have hSS:zW (fun w':World=>zv w' pb 0 (.pointer (some ⟨rb,0,none⟩))/\zv w' rb 7 (zi r.n)/\zv w' rb 9 (.slice (some ⟨eb,0,none⟩) np np)) zU aN.drew:=⟨az.out _ zr.drew,trivial⟩
      refine wp_region_noPanic ?_;refine zG hSS 12 ?_;refine zT 0 hSS ?_;refine zT 1 hSS ?_;refine zT 2 hSS ?_;refine zT 3 hSS ?_;refine zT 4 hSS ?_;refine zT 6 hSS ?_;refine zT 7 hSS ?_;refine zT 8 hSS ?_;refine zT 9 hSS ?_;have had:Calls prog 77 [.pointer (some ⟨P.sb,0,none⟩)].toArray aN.drew fun e W'=>∃v,e=.returned v/\(OwnS W' aN.heap.size r.S.state v/\zw aN W') :=
       (HST.out _ zr.drew).mono fun e w' ⟨v,h1,h2,h3⟩=>⟨v,h1,h2,zka (zs aN).drew h3⟩
      refine zo 5 fun K hK=>?_;refine zke zR (.func 77) [.tmp 59] _ zR 77 _ zxU zR _ zR _ had ?_;rintro v12 ek ⟨su,jD⟩;obtain⟨A9,c9,B9,d9,D9,e9,rfl⟩:=su.slices;have HO12:=zh su;have gW:=zh jD;refine hK.out _ _ ⟨az.out _ jD,trivial⟩ ?_;have aB:=zV hSS (az.out _ jD) trivial;clear hK K hSS had su jD;(try simp only[zQ]);have hbr:=zL6;refine zT 10 aB ?_;refine zo 11 fun K hK=>?_;(try simp only[zA,zB,zC]);go_simp;refine hK.out _ _ ⟨az.out _ gW.out,trivial⟩ ?_;clear hK K;(try simp only[zQ]);have aM:=zkc HKR.out gW.out;have x0:ek.cell? ⟨W.heap.size+3,0,none⟩=some zn:=zc aM rfl;have x1:ek.cell? ⟨W.heap.size+3,1,none⟩=some zn:=zc aM rfl;have x2:ek.cell? ⟨W.heap.size+3,2,none⟩=some zn:=zc aM rfl;have x3:ek.cell? ⟨W.heap.size+3,3,none⟩=some (zi 0):=zc aM rfl
      have x4:ek.cell? ⟨W.heap.size+3,4,none⟩=some (zi 0):=zc aM rfl;have xf:∀o,ek.frozen? ⟨W.heap.size+3,o,none⟩=false:=fun _=>zf aM;refine zp 12 fun K hK=>?_;(try simp only[zQ]);go_simp;obtain⟨hh,hch⟩:=set5 (u0:=.slice A9 r.S.state.cells.length c9) (u1:=.slice B9 r.S.state.tin.length d9) (u2:=.slice D9 r.S.state.tout.length e9) (u3:=zi r.n) (u4:=zi 0) aM;obtain⟨nY,hw13⟩:=zX ((((((ek.setCell ⟨W.heap.size+3,0,none⟩ (.slice A9 r.S.state.cells.length c9)).setCell ⟨W.heap.size+3,1,none⟩ (.slice B9 r.S.state.tin.length d9)).setCell ⟨W.heap.size+3,2,none⟩ (.slice D9 r.S.state.tout.length e9)).setCell ⟨W.heap.size+3,3,none⟩ (zi r.n)).setCell ⟨W.heap.size+3,4,none⟩ (zi 0)));rw[hw13]at hh hch ⊢;have fP:=zh hch;have t0:nY.cell? ⟨W.heap.size+3,0,none⟩=some (.slice A9 r.S.state.cells.length c9):=zc hh rfl
      have t1:nY.cell? ⟨W.heap.size+3,1,none⟩=some (.slice B9 r.S.state.tin.length d9):=zc hh rfl;have t2:nY.cell? ⟨W.heap.size+3,2,none⟩=some (.slice D9 r.S.state.tout.length e9):=zc hh rfl;have t3:nY.cell? ⟨W.heap.size+3,3,none⟩=some (zi r.n):=zc hh rfl;have t4:nY.cell? ⟨W.heap.size+3,4,none⟩=some (zi 0):=zc hh rfl;have hszs:W.heap.size+4<=aN.heap.size:=by have:=nU.out.size;omega
      have hplt:W.heap.size+3<w7.heap.size:=by have:=qN.size;omega
      refine hK.out _ _ ?_ ?_
      ·obtain⟨q1,q2,q3⟩:=az.out _ gW.out;exact⟨zk2 hch q1 (by simp only;omega),zk2 hch q2 (by simp only;omega),zk2 hch q3 (by simp only;omega)⟩
      clear hK K hch hh hw13 x0 x1 x2 x3 x4 xf aM aB az;(try simp only[zQ]);refine zd ?_;refine NoPanic.normal ?_;go_wp2_with fail;have hrow:=zkK nQ.out gW.out;have hrow2:=znV hrow (fun b hb=>fP.out.block b (hrow.lt b hb).2 (by have:=(hrow.lt b hb).1;omega));have hI:∀z∈r.ent.map Int.ofNat,I64 z:=fun z hz=>by
       obtain⟨q,hq,rfl⟩:=List.mem_map.1 hz;have h1:=gM.out.en q hq;have h2:=gM.out.n;exact⟨by simp only[Int.ofNat_eq_natCast];omega,by simp only[Int.ofNat_eq_natCast];omega⟩
      obtain⟨Ae,ce,he1,he2,he3⟩:=zsM (l:=r.ent.map Int.ofNat) (by simpa using hrow2) hI;injection he1 with he1 _ he4;subst he1 he4;refine bodyPost_ret (v:=.tuple #[.slice (some ⟨eb,0,none⟩) np np,.agg #[.slice A9 r.S.state.cells.length c9,.slice B9 r.S.state.tin.length d9,.slice D9 r.S.state.tout.length e9,zi r.n,zi 0]]) (by simp[results,results42,go_sem,t0,t1,t2,t3,t4]) rfl ?_;rw[HX.out];refine⟨_,_,_,_,_,by rw[yj.out],(HO12.out.chg fP.out fun b hb=>zO).lower zO,he3.keep (fun b hb _=>by have:=hb4s;omega) (fun _ _ _=>rfl),by simpa using he2,?_⟩;exact⟨(zka jZ (zka nU.out gW.out)).trans (fP.out.below (zka jZ (zka nU.out gW.out)).size fun b hb=>zO),LimR.run gM.out.ks.wf gM.out.fb _⟩
     ·have hx:x≠0:=fun e=>hon (by rw[e]);obtain⟨hn0,hcw,pI,mK,kL,pG,-⟩:=HN0C.out;have hkk:Kpt C.n0 C.kb w8 aN:=HK89.out.trans ((Kpt.less (C:=C) hkp).trans (Kpt.chg hch fun b hb=>⟨by rw[hn0];omega,by rw[kL];intro e;subst e;omega⟩));have pK:Below C.w.heap.size C.w aW:=hbl;rw[hcw]at pK;have AR:=iQ.out.size;have pM:zw W aN:=pK.trans (hch.below pK.size fun b hb=>zO);have dC:=zrq jZ pM HHB48.out hkk (by rw[hn0];exact hs46);have HX:=zh (show Re=(s,0,x,[])from HRR.out);have e1:(x != 0)=true:=by simpa using hx
      have yY:=zh hx;clear hn0 hcw pI mK kL pG hkk pM hkp hbl pK hch hon;have dN:=zkc aC.out dC;have gK:=zkc fF.out dC;have s0:aN.cell? ⟨W.heap.size+1,0,none⟩=some (.slice A s.cells.length c):=zc dN rfl;have s1:aN.cell? ⟨W.heap.size+1,1,none⟩=some (.slice B s.tin.length d):=zc dN rfl;have s2:aN.cell? ⟨W.heap.size+1,2,none⟩=some (.slice D s.tout.length e):=zc dN rfl;have aI:=zh (dJ.out aN (zka ay.out dC));have cB:=zh gK;have hbq:=dC;clear dN gK;go_wp2_with fail;refine aI.out.mono ?_;rintro e9 w9 ⟨v9,rfl,dE,aP⟩;obtain⟨A9,c9,B9,d9,D9,e9,rfl⟩:=dE.slices;have fK:=zh dE;have bD:=zh (zka hbq aP);have aM:=zkc cB.out aP;have x0:w9.cell? ⟨W.heap.size+3,0,none⟩=some zn:=zc aM rfl;have x1:w9.cell? ⟨W.heap.size+3,1,none⟩=some zn:=zc aM rfl
      have x2:w9.cell? ⟨W.heap.size+3,2,none⟩=some zn:=zc aM rfl;have x3:w9.cell? ⟨W.heap.size+3,3,none⟩=some (zi 0):=zc aM rfl;have x4:w9.cell? ⟨W.heap.size+3,4,none⟩=some (zi 0):=zc aM rfl;have xf:∀o,w9.frozen? ⟨W.heap.size+3,o,none⟩=false:=fun _=>zf aM;have jN:=zh aM;have hbr:=bRes;have rR:W.heap.size+4<=aN.heap.size:=by have:=hbq.size;rw[qO.out]at this;exact this
      clear s0 s1 s2 aM dE aP hbq aI;go_wp2_with fail;obtain⟨hh,hch⟩:=set5 (u0:=.slice A9 s.cells.length c9) (u1:=.slice B9 s.tin.length d9) (u2:=.slice D9 s.tout.length e9) (u3:=zi 0) (u4:=zi x) jN.out;obtain⟨aW,fT⟩:=zX ((((((w9.setCell ⟨W.heap.size+3,0,none⟩ (.slice A9 s.cells.length c9)).setCell ⟨W.heap.size+3,1,none⟩ (.slice B9 s.tin.length d9)).setCell ⟨W.heap.size+3,2,none⟩ (.slice D9 s.tout.length e9)).setCell ⟨W.heap.size+3,3,none⟩ (zi 0)).setCell ⟨W.heap.size+3,4,none⟩ (zi x)));rw[fT]at hh hch ⊢;have t0:aW.cell? ⟨W.heap.size+3,0,none⟩=some (.slice A9 s.cells.length c9):=zc hh rfl;have t1:aW.cell? ⟨W.heap.size+3,1,none⟩=some (.slice B9 s.tin.length d9):=zc hh rfl;have t2:aW.cell? ⟨W.heap.size+3,2,none⟩=some (.slice D9 s.tout.length e9):=zc hh rfl;have t3:aW.cell? ⟨W.heap.size+3,3,none⟩=some (zi 0):=zc hh rfl
      have t4:aW.cell? ⟨W.heap.size+3,4,none⟩=some (zi x):=zc hh rfl;refine bodyPost_ret (v:=.tuple #[zn,.agg #[.slice A9 s.cells.length c9,.slice B9 s.tin.length d9,.slice D9 s.tout.length e9,zi 0,zi x]]) (by simp[results,results42,go_sem,t0,t1,t2,t3,t4]) rfl ?_;rw[HX.out];exact⟨none,0,_,_,_,rfl,(fK.out.chg hch fun b hb=>zO).lower zO,fun i hi=>absurd hi zS,zl,(zka ay.out bD.out).trans (hch.below (zka ay.out bD.out).size fun b hb=>zO),oH.out,fun h=>by first|(simp at h;done)|exact absurd h yY.out⟩
    ·right
     have bC:=HC.out;have iZ:=HU.out;have hcc:(l7=true->l6=true)/\(l8=true->l7=true):=⟨bC.1,bC.2.1⟩
     refine⟨f-1,?_,?_,?_⟩
     ·clear HC bC HU iZ ha ag hcc;subst hf;revert hall;revert l6 l7 l8 l9
      decide
     ·clear HC bC HU iZ ha ag hf;revert hall hcc;revert l6 l7 l8 l9
      decide +kernel
     intro i hi;have hcase:(i=6/\l6=false/\l7=false/\l8=false)\/(i=7/\l7=false/\l6=true/\l8=false)\/(i=8/\l8=false/\l6=true/\l7=true)\/(i=9/\l9=false):=by
      refine of_decide_eq_true ((List.all_eq_true (p:=fun i=>decide ((i=6/\l6=false/\l7=false/\l8=false)\/(i=7/\l7=false/\l6=true/\l8=false)\/(i=8/\l8=false/\l6=true/\l7=true)\/(i=9/\l9=false)))).1 ?_ i hi);clear HC bC HU iZ ha ag hf hi;revert hall hcc;revert l6 l7 l8 l9
      decide +kernel
     clear hi hall;subst ha hA;rcases hcase with⟨rfl,rfl,rfl,rfl⟩|⟨rfl,rfl,rfl,rfl⟩|⟨rfl,rfl,rfl,rfl⟩|⟨rfl,rfl⟩
     ·refine wpOp_step rfl (fun K' ak=>?_);have hK:=zh ak;clear ak;have hU1:=iZ.1 rfl;have Bt:=iZ.2.1 rfl;have xD:=iZ.2.2.1 rfl;subst hU1 Bt xD;(try simp only[zQ]);go_simp;have hsz:=ag.out.size;exact hK.out _ _ ⟨true,false,false,l9,_,undef,undef,v12,wr.heap.size,0,pb,(by subst hf;simp<;>omega),rfl,(by simp only[zQ]),zh (zkb ag.out _),zh ⟨fun h=>(by cases h),fun h=>(by cases h),fun _=>⟨rfl,heap_alloc_new wr _,hsz⟩,fun h=>(by cases h),fun h=>(by cases h),fun h=>⟨(bC.2.2.2.2.2 h).1,zkd (bC.2.2.2.2.2 h).2.1 _,(bC.2.2.2.2.2 h).2.2⟩⟩,zh ⟨fun h=>(by cases h),fun _=>rfl,fun _=>rfl,iZ.2.2.2⟩⟩
     ·refine wpOp_step rfl (fun K' ak=>?_);have hK:=zh ak;clear ak;have Bt:=iZ.2.1 rfl;have xD:=iZ.2.2.1 rfl;obtain⟨hv6,he,hel⟩:=bC.2.2.1 rfl;subst Bt xD hv6;have hbn:=bRun;(try simp only[zQ]);go_simp;exact hK.out _ _ ⟨true,true,false,l9,_,_,undef,v12,eb,0,pb,(by subst hf;simp<;>omega),rfl,(by simp only[zQ]),ag,zh ⟨fun _=>rfl,fun h=>(by cases h),fun _=>⟨rfl,he,hel⟩,fun _=>rfl,fun h=>(by cases h),bC.2.2.2.2.2⟩,zh ⟨fun h=>(by cases h),fun h=>(by cases h),fun _=>rfl,iZ.2.2.2⟩⟩
     ·refine wpOp_step rfl (fun K' ak=>?_);have hK:=zh ak;clear ak;have xD:=iZ.2.2.1 rfl;obtain⟨hv6,he,hel⟩:=bC.2.2.1 rfl;have hv7:=bC.2.2.2.1 rfl;subst xD hv6 hv7;(try simp only[zQ]);go_simp;have hsz:=ag.out.size;exact hK.out _ _ ⟨true,true,true,l9,_,_,_,v12,eb,wr.heap.size,pb,(by subst hf;simp<;>omega),rfl,(by simp only[zQ]),zh (zkb ag.out _),zh ⟨fun _=>rfl,fun _=>rfl,fun _=>⟨rfl,zkd he _,hel⟩,fun _=>rfl,fun _=>⟨rfl,heap_alloc_new wr _,hsz⟩,fun h=>⟨(bC.2.2.2.2.2 h).1,zkd (bC.2.2.2.2.2 h).2.1 _,(bC.2.2.2.2.2 h).2.2⟩⟩,zh ⟨fun h=>(by cases h),fun h=>(by cases h),fun h=>(by cases h),iZ.2.2.2⟩⟩
     ·refine wpOp_step rfl (fun K' ak=>?_);have hK:=zh ak;clear ak;have tT:=iZ.2.2.2 rfl;subst tT;(try simp only[zQ]);go_simp;have hsz:=ag.out.size;exact hK.out _ _ ⟨l6,l7,l8,true,v43,v44,v45,_,eb,rb,wr.heap.size,(by subst hf;simp<;>omega),rfl,(by simp only[zQ]),zh (zkb ag.out _),zh ⟨bC.1,bC.2.1,fun h=>⟨(bC.2.2.1 h).1,zkd (bC.2.2.1 h).2.1 _,(bC.2.2.1 h).2.2⟩,bC.2.2.2.1,fun h=>⟨(bC.2.2.2.2.1 h).1,zkd (bC.2.2.2.2.1 h).2.1 _,(bC.2.2.2.2.1 h).2.2⟩,fun _=>⟨rfl,heap_alloc_new wr _,hsz⟩⟩,zh ⟨iZ.1,iZ.2.1,iZ.2.2.1,fun h=>(by cases h)⟩⟩
  ·have HX:=zh (show Re=(s,0,3,[]) by rw[<-gP.out,resO,if_pos (.inr hn)]);obtain⟨n,hnn⟩:=zX (chkN p);rw[hnn];have hng:(0:Int)<(n:Int):=zO
   clear hn hnn;have dN:=zkc aC.out mY;have gK:=zkc fF.out mY;have s0:w6.cell? ⟨W.heap.size+1,0,none⟩=some (.slice A s.cells.length c):=zc dN rfl;have s1:w6.cell? ⟨W.heap.size+1,1,none⟩=some (.slice B s.tin.length d):=zc dN rfl;have s2:w6.cell? ⟨W.heap.size+1,2,none⟩=some (.slice D s.tout.length e):=zc dN rfl;have aI:=zh (dJ.out w6 (zka ay.out mY));have cB:=zh gK;have hbq:=mY;clear dN gK;go_wp2_with fail;refine aI.out.mono ?_;rintro e9 w9 ⟨v9,rfl,dE,aP⟩;obtain⟨A9,c9,B9,d9,D9,e9,rfl⟩:=dE.slices;have fK:=zh dE;have bD:=zh (zka hbq aP);have aM:=zkc cB.out aP;have x0:w9.cell? ⟨W.heap.size+3,0,none⟩=some zn:=zc aM rfl;have x1:w9.cell? ⟨W.heap.size+3,1,none⟩=some zn:=zc aM rfl;have x2:w9.cell? ⟨W.heap.size+3,2,none⟩=some zn:=zc aM rfl;have x3:w9.cell? ⟨W.heap.size+3,3,none⟩=some (zi 0):=zc aM rfl
   have x4:w9.cell? ⟨W.heap.size+3,4,none⟩=some (zi 0):=zc aM rfl;have xf:∀o,w9.frozen? ⟨W.heap.size+3,o,none⟩=false:=fun _=>zf aM;have jN:=zh aM;have hbr:=bRes;have rR:W.heap.size+4<=w6.heap.size:=by have:=hbq.size;rw[qO.out]at this;exact this
   clear s0 s1 s2 aM dE aP hbq aI;go_wp2_with fail;obtain⟨hh,hch⟩:=set5 (u0:=.slice A9 s.cells.length c9) (u1:=.slice B9 s.tin.length d9) (u2:=.slice D9 s.tout.length e9) (u3:=zi 0) (u4:=zi 3) jN.out;obtain⟨aW,fT⟩:=zX ((((((w9.setCell ⟨W.heap.size+3,0,none⟩ (.slice A9 s.cells.length c9)).setCell ⟨W.heap.size+3,1,none⟩ (.slice B9 s.tin.length d9)).setCell ⟨W.heap.size+3,2,none⟩ (.slice D9 s.tout.length e9)).setCell ⟨W.heap.size+3,3,none⟩ (zi 0)).setCell ⟨W.heap.size+3,4,none⟩ (zi 3)));rw[fT]at hh hch ⊢;have t0:aW.cell? ⟨W.heap.size+3,0,none⟩=some (.slice A9 s.cells.length c9):=zc hh rfl;have t1:aW.cell? ⟨W.heap.size+3,1,none⟩=some (.slice B9 s.tin.length d9):=zc hh rfl;have t2:aW.cell? ⟨W.heap.size+3,2,none⟩=some (.slice D9 s.tout.length e9):=zc hh rfl;have t3:aW.cell? ⟨W.heap.size+3,3,none⟩=some (zi 0):=zc hh rfl
   have t4:aW.cell? ⟨W.heap.size+3,4,none⟩=some (zi 3):=zc hh rfl;refine bodyPost_ret (v:=.tuple #[zn,.agg #[.slice A9 s.cells.length c9,.slice B9 s.tin.length d9,.slice D9 s.tout.length e9,zi 0,zi 3]]) (by simp[results,results42,go_sem,t0,t1,t2,t3,t4]) rfl ?_;rw[HX.out];exact⟨none,0,_,_,_,rfl,(fK.out.chg hch fun b hb=>zO).lower zO,fun i hi=>absurd hi zS,zl,(zka ay.out bD.out).trans (hch.below (zka ay.out bD.out).size fun b hb=>zO),oH.out,fun h=>by first|(simp at h;done)|exact absurd h yY.out⟩
def FwP(W:World)(R:SS×Nat×Int×List Nat)(e:Ending)(W':World):Prop:=∃v1 v2 v3,e=.returned (.agg #[v1,v2,v3,zi (R.2.1:Int),zi R.2.2.1]) /\
 OwnS W' W.heap.size R.1 (.agg #[v1,v2,v3])/\zw W W'/\LimR R
theorem zsw(p:PG)(s:SS)(F:Int)(g:Nat)(v sv:Value)(W:World)(hp:PV W Any p v)(hs:SV W Any s sv)(hcl:s.cells.length<=5864062014800)(hF:I64 F)(qK:F<=1000000)(hg:F.toNat*2000+2000<=g)(hfam:Fam p) :
  Calls prog 18 #[v,sv,zi F] W (FwP W (resO p s F g false)):=by
 have HPX:=zh hp;have HSX:=zh hs;obtain⟨A1,c1,A2,c2,A3,c3,rfl,gu⟩:=hp;obtain⟨A,c,B,d,D,e,rfl,hr1,hr2,hr3,hc1,hc2,hc3,hl1,hl2,hl3,hl4⟩:=hs;have HST:=zh (fun w' (hb:zw W w')=>zuJ p s F g false _ _ w' (HPX.out.later hb) (HSX.out.later hb) hcl hF qK hg hfam);have hb3:=zkb (zkb (zkb (zs W) (.cells #[.slice A1 p.vs.length c1,.slice A2 p.prs.length c2,zj p.m.k,zi p.m.n,.string p.m.s,.slice A3 p.m.ks.length c3] 30)) (.cells #[.slice A s.cells.length c,.slice B s.tin.length d,.slice D s.tout.length e] 44)) (.cells #[zn,zn,zn,zi 0,zi 0] 58)
 have k2:=heap_alloc_new ((W.alloc (.cells #[.slice A1 p.vs.length c1,.slice A2 p.prs.length c2,zj p.m.k,zi p.m.n,.string p.m.s,.slice A3 p.m.ks.length c3] 30)).alloc (.cells #[.slice A s.cells.length c,.slice B s.tin.length d,.slice D s.tout.length e] 44)) (.cells #[zn,zn,zn,zi 0,zi 0] 58);simp only[World.size_alloc]at k2;obtain⟨Re,hRe⟩:=zX (resO p s F g false);rw[hRe]at HST;have HR:=zh hRe;have HB3:=zh hb3;have aQ:=zh k2;have hz3:W.heap.size+3<=(((W.alloc (.cells #[.slice A1 p.vs.length c1,.slice A2 p.prs.length c2,zj p.m.k,zi p.m.n,.string p.m.s,.slice A3 p.m.ks.length c3] 30)).alloc (.cells #[.slice A s.cells.length c,.slice B s.tin.length d,.slice D s.tout.length e] 44)).alloc (.cells #[zn,zn,zn,zi 0,zi 0] 58)).heap.size:=zS
 rw[hRe];clear gu hr1 hr2 hr3 hRe hb3 k2 hl1 hl2 hl3 hl4 hc1 hc2 hc3;clear hfam;go_enter func18,ntmps18;go_wp2_with fail;refine(HST.out _ HB3.out).mono ?_;rintro e9 w9 ⟨A9,c9,v1,v2,v3,rfl,dE,-,-,aP,hlm9⟩;have oH:=zh hlm9;clear hlm9;obtain⟨A4,c4,B5,d5,D6,e6,h6⟩:=dE.slices;injection h6 with h6;injection h6 with h6;injection h6 with h6 h7;injection h7 with h7 h8;injection h8 with h8 _;subst h6 h7 h8;have fK:=zh dE;have bD:=zh aP;have aM:=zkc aQ.out aP;have x0:w9.cell? ⟨W.heap.size+1+1,0,none⟩=some zn:=zc aM rfl;have x1:w9.cell? ⟨W.heap.size+1+1,1,none⟩=some zn:=zc aM rfl;have x2:w9.cell? ⟨W.heap.size+1+1,2,none⟩=some zn:=zc aM rfl;have x3:w9.cell? ⟨W.heap.size+1+1,3,none⟩=some (zi 0):=zc aM rfl;have x4:w9.cell? ⟨W.heap.size+1+1,4,none⟩=some (zi 0):=zc aM rfl
 have xf:∀o,w9.frozen? ⟨W.heap.size+1+1,o,none⟩=false:=fun _=>zf aM;have y0:=fun o=>zkj x0 o;have y1:=fun o=>zkj x1 o;have y2:=fun o=>zkj x2 o;have y3:=fun o=>zkj x3 o;have y4:=fun o=>zkj x4 o;have hlt9:W.heap.size+1+1<w9.heap.size:=zkf aM;have jN:=zh aM;clear dE aP aM;go_wp2_with fail;obtain⟨hh,hch⟩:=set5 (u0:=.slice A4 Re.1.cells.length c4) (u1:=.slice B5 Re.1.tin.length d5) (u2:=.slice D6 Re.1.tout.length e6) (u3:=zi (Re.2.1:Int)) (u4:=zi Re.2.2.1) jN.out;obtain⟨aW,fT⟩:=zX ((((((w9.setCell ⟨W.heap.size+1+1,0,none⟩ (.slice A4 Re.1.cells.length c4)).setCell ⟨W.heap.size+1+1,1,none⟩ (.slice B5 Re.1.tin.length d5)).setCell ⟨W.heap.size+1+1,2,none⟩ (.slice D6 Re.1.tout.length e6)).setCell ⟨W.heap.size+1+1,3,none⟩ (zi (Re.2.1:Int))).setCell ⟨W.heap.size+1+1,4,none⟩ (zi Re.2.2.1)));rw[fT]at hh hch ⊢
 obtain⟨aN,dS⟩:=zX (aW.alloc (.cells #[.slice A4 Re.1.cells.length c4,.slice B5 Re.1.tin.length d5,.slice D6 Re.1.tout.length e6,zi (Re.2.1:Int),zi Re.2.2.1] 58));rw[dS];have t0:aN.cell? ⟨W.heap.size+1+1,0,none⟩=some (.slice A4 Re.1.cells.length c4):=dS▸zkj (zc hh rfl) _;have t1:aN.cell? ⟨W.heap.size+1+1,1,none⟩=some (.slice B5 Re.1.tin.length d5):=dS▸zkj (zc hh rfl) _;have t2:aN.cell? ⟨W.heap.size+1+1,2,none⟩=some (.slice D6 Re.1.tout.length e6):=dS▸zkj (zc hh rfl) _;have t3:aN.cell? ⟨W.heap.size+1+1,3,none⟩=some (zi (Re.2.1:Int)):=dS▸zkj (zc hh rfl) _;have t4:aN.cell? ⟨W.heap.size+1+1,4,none⟩=some (zi Re.2.2.1):=dS▸zkj (zc hh rfl) _
 refine bodyPost_ret (v:=.agg #[.slice A4 Re.1.cells.length c4,.slice B5 Re.1.tin.length d5,.slice D6 Re.1.tout.length e6,zi (Re.2.1:Int),zi Re.2.2.1]) (by simp[results,results18,go_sem,t0,t1,t2,t3,t4]) rfl ?_;have hz33:=hz3;have hb39:zw W w9:=zka HB3.out bD.out;have iE:Chg (fun b=>b=W.heap.size+1+1) w9 aN:=dS▸hch.alloc _;have oW:=fK.out.chg iE fun b hb=>zO
 have pV:=hb39.trans (iE.below hb39.size fun b hb=>zO);exact⟨_,_,_,rfl,oW.lower zO,pV,oH.out⟩
theorem zpf(p:PG)(s:SS)(F:Int)(g:Nat)(v sv:Value)(W:World)(hp:PV W Any p v)(hs:SV W Any s sv)(hcl:s.cells.length<=5864062014800)(hF:I64 F)(qK:F<=1000000)(hg:F.toNat*2000+2000<=g) :
  Calls prog 18 #[v,sv,zi F] W (FwP W (resO p s F g false)):=zsw p s F g v sv W hp hs hcl hF qK hg (zz8 p)
section
variable {E:Prop} {Rl:Nat->ST->ST->Prop} {F F' k:Int} {o o':Out}
end
theorem zti{f:FR}:∀(l:List (VD×ByteArray)) (acc:FR) (e:Int),entL f acc l=.error e->e≠0
 | [],acc,e,h=>by rw[entL]at h;cases h
 | (v,a)::r,acc,e,h=>by
  rw[entL]at h
  split at h
  ·injection h with h;omega
  ·split at h
   ·exact zti r _ _ h
   ·injection h with h;omega
section
variable {S:ST} {l:List Int}
end
section
variable {ρ ρ':Nat->Nat->Prop} {f g:FR} {S S' S'':ST} {a b:Nat}
end
end
end Go.Proofs.YthjinpodhacleaaGreat
