/-
  Texts of the proof, put together without their remarks: Iw, Ix, Iy, Il, Iv, Id, It, Lim, Val, Scp, Ik, Im.
-/
import Derived.Test.YtckhofdinldhpaaGreatR6
set_option linter.unusedSimpArgs false
set_option linter.unusedVariables false
set_option maxHeartbeats 8000000
set_option maxRecDepth 100000
namespace Go.Proofs.YtckhofdinldhpaaGreat
open Go Go.RowKit
def lpO (prs:List PR) (F:Int) (g:Nat) (back:Bool) (t:T) (r:RS):Out :=
 (zkn F (fstT back t) true r).bind (zk9 F (zkk prs F g back) (fstT back t) (lstT back t) (blkL back (kid t 1)) (blkL back (kid t 2)) g)
def stp (rb:Nat) (W:World):Nat:=match W.cell? ⟨rb,7,none⟩ with
 | some (.int _ n)=>n.toNat
 | _=>0
theorem zy3 {C:RC} {W:World} {r:RS} (h:RI C W r):stp C.rb W=r.n:=by
 unfold stp;rw[h.cells.2.1];simp
theorem zxR {G:List PR->T->Prop} {g:Nat} (hS:IStC G g) {C:RC} (hC:C.Ok) {W:World} {r:RS} (h:RI C W r) (t:T) (v:Value) (back:Bool) (hv:NV C.w Any t v) (hk:t.ks.length=4) (hG1:∀ u∈(kid t 1).ks,G C.p.prs u) (hG2:∀ u∈(kid t 2).ks,G C.p.prs u)
  (aA:lpO C.p.prs C.F g back t r ≠ .gas) :
  Calls Tryz.prog 194 #[.pointer (some ⟨C.rb,0,none⟩),v,.bool back] W (RunP C W (lpO C.p.prs C.F g back t r)):=by
 obtain⟨A,c,rfl,-,hlk,hlc,hrow⟩:=hv.open_;have ae:=zh hrow;have HS:=zh hS;have HV:=zh hv;have hb0:=zkb (Below.refl W.heap.size W) (.cells #[.int .u8 t.k,.int .i64 t.n,.string t.s,.slice A t.ks.length c] 29);obtain⟨x0,x1,x2,x3⟩:=box4 (heap_alloc_new W (.cells #[.int .u8 t.k,.int .i64 t.n,.string t.s,.slice A t.ks.length c] 29));have HB0:=zh hb0;have H:=zh h;have HC:=zh hC;have HX:=zh (heap_alloc_new W (.cells #[.int .u8 t.k,.int .i64 t.n,.string t.s,.slice A t.ks.length c] 29));have lG:=zh (fun w' (hb:Below W.heap.size W w')=>zq8 t _ back C.w w' (zka h.below hb) hv (by omega));have nI:=zh hk;clear hrow hS hb0 h hv hk hC hlk;go_enter Tryz.func194,Tryz.ntmps194;go_wp2_with fail;refine(lG.out _ HB0.out).mono ?_;rintro e w2 ⟨v1,v2,rfl,n1,n2,b2⟩;obtain⟨t1,ht1⟩:∃ x,fstT back t=x:=⟨_,rfl⟩
 obtain⟨t2,ht2⟩:∃ x,lstT back t=x:=⟨_,rfl⟩
 have HT1:=zh ht1;have HT2:=zh ht2;rw[ht1] at n1;rw[ht2] at n2;obtain⟨A1,c1,rfl,-⟩:=n1.open_;obtain⟨A2,c2,rfl,-⟩:=n2.open_;have eG:=zh n1;have aF:=zh n2;have b3:=zkb (zkb (zka HB0.out b2) (.cells #[.int .u8 t1.k,.int .i64 t1.n,.string t1.s,.slice A1 t1.ks.length c1] 29)) (.cells #[.int .u8 t2.k,.int .i64 t2.n,.string t2.s,.slice A2 t2.ks.length c2] 29);have k0:=zkl (zkl (zkd HX.out b2) (.cells #[.int .u8 t1.k,.int .i64 t1.n,.string t1.s,.slice A1 t1.ks.length c1] 29)) (.cells #[.int .u8 t2.k,.int .i64 t2.n,.string t2.s,.slice A2 t2.ks.length c2] 29);have k1:=zkl (heap_alloc_new w2 (.cells #[.int .u8 t1.k,.int .i64 t1.n,.string t1.s,.slice A1 t1.ks.length c1] 29)) (.cells #[.int .u8 t2.k,.int .i64 t2.n,.string t2.s,.slice A2 t2.ks.length c2] 29)
 have k2:=heap_alloc_new (w2.alloc (.cells #[.int .u8 t1.k,.int .i64 t1.n,.string t1.s,.slice A1 t1.ks.length c1] 29)) (.cells #[.int .u8 t2.k,.int .i64 t2.n,.string t2.s,.slice A2 t2.ks.length c2] 29);simp only[World.size_alloc] at k2;obtain⟨w3,hw3⟩:∃ x,(w2.alloc (.cells #[.int .u8 t1.k,.int .i64 t1.n,.string t1.s,.slice A1 t1.ks.length c1] 29)).alloc (.cells #[.int .u8 t2.k,.int .i64 t2.n,.string t2.s,.slice A2 t2.ks.length c2] 29)=x:=⟨_,rfl⟩
 rw[hw3] at b3 k0 k1 k2;have hz2:=zka HB0.out b2;have hzz:=hz2.size;obtain⟨eB,h3⟩:=H.out.plus HC.out b3;have bL:=zh (Kpt.of_below (n0:=C.n0) (kb:=C.kb) b3);have l0:=zki k0;have l1:=zki k1;have l2:=zki k2;obtain⟨hi,hhi⟩:∃ x,w3.heap.size=x:=⟨_,rfl⟩
 rw[hhi] at eB h3 l0 l1 l2;have gH:=zh eB;have H3:=zh h3;have K0:=zh k0;have K1:=zh k1;have K2:=zh k2;have gX:=zh (zny eB h3 t1 _ n1 true);obtain⟨p1,⟨y0,y1,y2,y3⟩⟩:True/\(w3.cell? ⟨w2.heap.size,0,none⟩=some (.int .u8 t1.k)/\w3.cell? ⟨w2.heap.size,1,none⟩=some (.int .i64 t1.n)/\w3.cell? ⟨w2.heap.size,2,none⟩=some (.string t1.s)/\w3.cell? ⟨w2.heap.size,3,none⟩=some (.slice A1 t1.ks.length c1)):=⟨trivial,zc k1 rfl,zc k1 rfl,zc k1 rfl,zc k1 rfl⟩
 clear n1 n2 b2 b3 k0 k1 k2 hz2 eB h3 x0 x1 x2 x3 HX HB0 lG p1 ht1 ht2;go_upto_region 2 with fail;clear hw3;obtain⟨o,ho⟩:∃ o,lpO C.p.prs C.F g back t r=o:=⟨_,rfl⟩
 have HO:=zh (show(zkn C.F t1 true r).bind (zk9 C.F (zkk C.p.prs C.F g back) t1 t2 (blkL back (kid t 1)) (blkL back (kid t 2)) g)=o by rw[<-ho];unfold lpO;rw[HT1.out,HT2.out]);rw[ho] at aA ⊢;have cz:=zh aA;have bE:=zh ho;clear aA ho;go_wp2_with fail;refine gX.out.mono ?_;rintro e w4 ⟨hk4,hb4,ed⟩;have eZ:=zh (bL.out.trans (Kpt.less (C:=C) hk4));have aC:=zh (show Below C.w.heap.size C.w w4 from hb4);have aZ:match zkn C.F t1 true r with
  | .gas=>True
  | .err x=>e=zl2 x
  | .ok r=>(∃ u,e=.returned u)/\RI (C.plus W.heap.size hi) w4 r:=ed
 have dA:=zh hk4;clear y0 y1 y2 y3 gX hk4 hb4 ed
 cases hy:zkn C.F t1 true r with
 | gas=>exact absurd (by rw[<-HO.out,hy];rfl) cz.out
 | err x =>
  rw[hy] at aZ;subst aZ;refine⟨rfl,eZ.out,aC.out,?_⟩;rw[<-HO.out,hy];rfl
 | ok r1 =>
  rw[hy] at aZ;obtain⟨⟨u3,rfl⟩,hr1⟩:=aZ;have HR4:=zh hr1;have iq:=zh (show zk9 C.F (zkk C.p.prs C.F g back) t1 t2 (blkL back (kid t 1)) (blkL back (kid t 2)) g r1=o by rw[<-HO.out,hy];rfl);clear hr1 hy;have hI1:(1:Int)<(t.ks.length:Int):=by have:=nI.out;omega
  have hI2:(2:Int)<(t.ks.length:Int):=by have:=nI.out;omega
  have hi1:1<t.ks.length:=by omega
  have hi2:2<t.ks.length:=by omega
  obtain⟨a,u,Au,cu,rfl,-,hu,⟨p0,p1,p2,p3⟩,hnu⟩:=ae.out.nd hi1;obtain⟨a',u',Au',cu',e',-,hu',⟨p4,p5,p6,p7⟩,hnu'⟩:=ae.out.nd hi2;injection e' with e';subst e';have fD:kid t 1=u:=by unfold kid;rw[List.getD_eq_getElem?_getD,List.getElem?_eq_getElem hi1];exact hu.out
  have pI:kid t 2=u':=by unfold kid;rw[List.getD_eq_getElem?_getD,List.getElem?_eq_getElem hi2];exact hu'.out
  rw[fD] at hG1;rw[pI] at hG2;rw[fD,pI] at iq;have vJ:=zh hG1;have HG2:=zh hG2;have qL:=zh hnu;have HNU':=zh hnu';have ha:a.add (1*4)=⟨a.block,a.off+4,none⟩:=by unfold Addr.add;split<;>simp_all
  have ha':a.add (2*4)=⟨a.block,a.off+8,none⟩:=by unfold Addr.add;split<;>simp_all
  rw[ha] at p0 p1 p2 p3;rw[ha'] at p4 p5 p6 p7;have HPP:=zh (show ∀ w',Below C.w.heap.size C.w w'->(w'.cell? ⟨a.block,a.off+4,none⟩=some (.int .u8 u.k)/\w'.cell? ⟨a.block,a.off+4+1,none⟩=some (.int .i64 u.n)/\w'.cell? ⟨a.block,a.off+4+2,none⟩=some (.string u.s)/\w'.cell? ⟨a.block,a.off+4+3,none⟩=some (.slice Au u.ks.length cu))/\(w'.cell? ⟨a.block,a.off+8,none⟩=some (.int .u8 u'.k)/\w'.cell? ⟨a.block,a.off+8+1,none⟩=some (.int .i64 u'.n)/\w'.cell? ⟨a.block,a.off+8+2,none⟩=some (.string u'.s)/\w'.cell? ⟨a.block,a.off+8+3,none⟩=some (.slice Au' u'.ks.length cu')) from fun w' hb=>⟨⟨zb hb p0,zb hb p1,zb hb p2,zb hb p3⟩,⟨zb hb p4,zb hb p5,zb hb p6,zb hb p7⟩⟩);clear fD pI hnu hnu' hu hu' p0 p1 p2 p3 p4 p5 p6 p7 ha ha' hG1 hG2;have hz0:W.heap.size<hi:=l0;go_wp2_with fail
  go_loopw [] (fun wr=>∃ (m:Nat) (r1:RS),Hid (RI (C.plus W.heap.size hi) wr r1)/\Hid (Kpt C.n0 (C.plus W.heap.size hi).kb w3 wr)/\Hid (zk9 C.F (zkk C.p.prs C.F g back) t1 t2 (blkL back u) (blkL back u') m r1=o)) (fun wr=>C.F.toNat-stp C.rb wr)
  case atStart=>exact⟨g,r1,HR4,dA,iq⟩
  case round =>
   obtain⟨m,r3,HR,HK,HL⟩:=hrel;have j0:=HK.out.blk (.inr (.inr ⟨by omega,l0⟩)) K0.out;have j1:=HK.out.blk (.inr (.inr ⟨by omega,l1⟩)) K1.out;have j2:=HK.out.blk (.inr (.inr ⟨by omega,l2⟩)) K2.out;have z3:wr.cell? ⟨W.heap.size,3,none⟩=some (.slice (some a) t.ks.length c):=zc j0 rfl
   cases m with
   | zero=>exact absurd HL.out.symm cz.out
   | succ m =>
    have HL2:=zh (show(runO C.p.prs C.F g back u r3).bind (fun r=>zk0 C.F t2 r fun b r=>if b=true then .ok r else (runO C.p.prs C.F g back u' r).bind fun r=>(zkn C.F t1 false r).bind (zk9 C.F (zkk C.p.prs C.F g back) t1 t2 (blkL back u) (blkL back u') m))=o from HL.out);have hgu:runO C.p.prs C.F g back u r3 ≠ .gas:=fun e=>cz.out (by rw[<-HL2.out,e];rfl);have ax:=zh (zlA HS.out gH.out HR.out u _ back qL.out vJ.out hgu);obtain⟨⟨q0,q1,q2,q3⟩,-⟩:=HPP.out wr HR.out.below;clear hgu j0 j1 j2;go_wp2_with fail;refine ax.out.mono ?_;rintro e w5 ⟨hk5,hb5,jN⟩;have eP:=zh (HK.out.trans hk5);have bB:=zh (show Below C.w.heap.size C.w w5 from hb5);have bS:match runO C.p.prs C.F g back u r3 with
     | .gas=>True
     | .err x=>e=zl2 x
     | .ok r=>(∃ u,e=.returned u)/\RI (C.plus W.heap.size hi) w5 r:=jN
    clear q0 q1 q2 q3 z3 hk5 hb5 jN ax
    cases hx:runO C.p.prs C.F g back u r3 with
    | gas=>exact absurd (by rw[<-HL2.out,hx];rfl) cz.out
    | err x =>
     rw[hx] at bS;subst bS;refine⟨rfl,bL.out.trans (Kpt.less (C:=C) eP.out),bB.out,?_⟩
     try rw[bE.out]
     rw[<-HL2.out,hx];rfl
    | ok r4 =>
     rw[hx] at bS;obtain⟨⟨u2,rfl⟩,hr4⟩:=bS;have ui:=zh (znx (fun t r=>zo3 g back t r) (blkL back u) r3 r4 hx);have HL3:=zh (show(zk0 C.F t2 r4 fun b r=>if b=true then .ok r else (runO C.p.prs C.F g back u' r).bind fun r=>(zkn C.F t1 false r).bind (zk9 C.F (zkk C.p.prs C.F g back) t1 t2 (blkL back u) (blkL back u') m))=o by rw[<-HL2.out,hx];rfl);have HHO2:=zh (zpA gH.out hr4 t2 _ aF.out);have j2:=eP.out.blk (.inr (.inr ⟨by omega,l2⟩)) K2.out;have q0:w5.cell? ⟨w2.heap.size+1,0,none⟩=some (.int .u8 t2.k):=zc j2 rfl;have q1:w5.cell? ⟨w2.heap.size+1,1,none⟩=some (.int .i64 t2.n):=zc j2 rfl;have q2:w5.cell? ⟨w2.heap.size+1,2,none⟩=some (.string t2.s):=zc j2 rfl;have q3:w5.cell? ⟨w2.heap.size+1,3,none⟩=some (.slice A2 t2.ks.length c2):=zc j2 rfl;clear hx hr4 j2;go_wp2_with fail;refine HHO2.out.mono ?_;rintro e w6 ⟨bW,hb6,lS⟩;have dV:=zh (eP.out.trans bW)
     have bH:=zh (show Below C.w.heap.size C.w w6 from hb6);clear q0 q1 q2 q3 bW hb6 HHO2;rcases lS with⟨x,rfl,hx⟩|⟨b,r5,rfl,jr,hx⟩
     ·refine⟨rfl,bL.out.trans (Kpt.less (C:=C) dV.out),bH.out,?_⟩
      try rw[bE.out]
      rw[<-HL3.out,show ∀ f,zk0 C.F t2 r4 f=.err x from hx]
     ·have fI:=zh jr;have HL4:=zh (show(if b=true then .ok r5 else (runO C.p.prs C.F g back u' r5).bind fun r=>(zkn C.F t1 false r).bind (zk9 C.F (zkk C.p.prs C.F g back) t1 t2 (blkL back u) (blkL back u') m))=o by rw[<-HL3.out,show ∀ f,zk0 C.F t2 r4 f=f b r5 from hx]);have HUP2:=zh (zpB (t:=t2) (F:=C.F) (r:=r4) (m:=r4.n+1) (f:=fun _ r=>.ok r) (fun b r' h r'' e=>by injection e with e;subst e;exact h) r5 (hx _));clear hx jr
      cases b
      ·have sM:=zh (show(runO C.p.prs C.F g back u' r5).bind (fun r=>(zkn C.F t1 false r).bind (zk9 C.F (zkk C.p.prs C.F g back) t1 t2 (blkL back u) (blkL back u') m))=o from HL4.out);have hgu:runO C.p.prs C.F g back u' r5 ≠ .gas:=fun e=>cz.out (by rw[<-sM.out,e];rfl);have ax:=zh (zlA HS.out gH.out fI.out u' _ back HNU'.out HG2.out hgu);have j0:=dV.out.blk (.inr (.inr ⟨by omega,l0⟩)) K0.out;have z3:w6.cell? ⟨W.heap.size,3,none⟩=some (.slice (some a) t.ks.length c):=zc j0 rfl;obtain⟨-,q0,q1,q2,q3⟩:=HPP.out w6 bH.out;clear hgu j0;go_wp2_with fail;refine ax.out.mono ?_;rintro e w7 ⟨tC,hb7,ho7⟩;have uo:=zh (dV.out.trans tC);have lK:=zh (show Below C.w.heap.size C.w w7 from hb7);have mr:match runO C.p.prs C.F g back u' r5 with
        | .gas=>True
        | .err x=>e=zl2 x
        | .ok r=>(∃ u,e=.returned u)/\RI (C.plus W.heap.size hi) w7 r:=ho7
       clear q0 q1 q2 q3 z3 tC hb7 ho7 ax
       cases hx:runO C.p.prs C.F g back u' r5 with
       | gas=>exact absurd (by rw[<-sM.out,hx];rfl) cz.out
       | err x =>
        rw[hx] at mr;subst mr;refine⟨rfl,bL.out.trans (Kpt.less (C:=C) uo.out),lK.out,?_⟩
        try rw[bE.out]
        rw[<-sM.out,hx];rfl
       | ok r6 =>
        rw[hx] at mr;obtain⟨⟨u2,rfl⟩,bM⟩:=mr;have HUP3:=zh (znx (fun t r=>zo3 g back t r) (blkL back u') r5 r6 hx);have xJ:=zh (show(zkn C.F t1 false r6).bind (zk9 C.F (zkk C.p.prs C.F g back) t1 t2 (blkL back u) (blkL back u') m)=o by rw[<-sM.out,hx];rfl);have HAS:=zh (zny gH.out bM t1 _ eG.out false);have j1:=uo.out.blk (.inr (.inr ⟨by omega,l1⟩)) K1.out;have q0:w7.cell? ⟨w2.heap.size,0,none⟩=some (.int .u8 t1.k):=zc j1 rfl;have q1:w7.cell? ⟨w2.heap.size,1,none⟩=some (.int .i64 t1.n):=zc j1 rfl;have q2:w7.cell? ⟨w2.heap.size,2,none⟩=some (.string t1.s):=zc j1 rfl;have q3:w7.cell? ⟨w2.heap.size,3,none⟩=some (.slice A1 t1.ks.length c1):=zc j1 rfl;clear hx bM j1;go_wp2_with fail;refine HAS.out.mono ?_;rintro e w8 ⟨nT,kL,jM⟩;have mf:=zh (uo.out.trans nT);have jW:=zh (show Below C.w.heap.size C.w w8 from kL)
        have bQ:match zkn C.F t1 false r6 with
         | .gas=>True
         | .err x=>e=zl2 x
         | .ok r=>(∃ u,e=.returned u)/\RI (C.plus W.heap.size hi) w8 r:=jM
        clear q0 q1 q2 q3 nT kL jM HAS
        cases hy:zkn C.F t1 false r6 with
        | gas=>exact absurd (by rw[<-xJ.out,hy];rfl) cz.out
        | err x =>
         rw[hy] at bQ;subst bQ;refine⟨rfl,bL.out.trans (Kpt.less (C:=C) mf.out),jW.out,?_⟩
         try rw[bE.out]
         rw[<-xJ.out,hy];rfl
        | ok r7 =>
         rw[hy] at bQ;obtain⟨⟨u3,rfl⟩,dY⟩:=bQ;have jg:=zh dY;have HL7:=zh (show zk9 C.F (zkk C.p.prs C.F g back) t1 t2 (blkL back u) (blkL back u') m r7=o by rw[<-xJ.out,hy];rfl);have hmm:C.F.toNat-stp C.rb w8<C.F.toNat-stp C.rb wr:=by
          have e1:stp C.rb w8=r7.n:=zy3 (C:=C.plus W.heap.size hi) jg.out;have e2:stp C.rb wr=r3.n:=zy3 (C:=C.plus W.heap.size hi) HR.out;obtain⟨e3,e4⟩:=zoC hy;have e5:=ui.out;have e6:=HUP2.out;have e7:=HUP3.out;have e8:r7.n=r6.n+1:=by rw[e3]
          omega
         have sJ:=zh hmm;clear dY hy hmm;go_wp2_with fail
         go_roundw
         case rel=>exact⟨m,r7,jg,mf,HL7⟩
         case measure=>exact sJ.out
      ·have sM:=zh (show o=.ok r5 from HL4.out.symm);have lX:=zh fI.out.less;go_wp2_with fail;go_end0;refine⟨bL.out.trans (Kpt.less (C:=C) dV.out),bH.out,?_⟩
       try rw[bE.out]
       rw[sM.out];exact⟨⟨_,rfl⟩,lX.out⟩
section
variable {C:RC} {W W':World} {r:RS} {S':ST}
theorem RI.store (h:RI C W r) (hk:KS C.w C.n0 C.sb (fun b=>C.kb b\/b=C.rb\/C.ev.ownBlock=some b) W' S') (hp:Kpt C.n0 (fun b=>C.kb b\/b=C.rb\/C.ev.ownBlock=some b) W W') (hf:FB r.n S') :
  RI C W' { r with S:=S' }/\Kpt C.n0 C.kb W W' :=
 ⟨⟨hk,hp.blk (.inr (.inr (.inl rfl))) h.box,zqQ h.ent fun b hb=>hp.kept b (h.ent.lt b hb).2 (.inr (.inr (.inr hb))),h.el,h.en,h.n,hf⟩,⟨hp.size,fun b hb hk=>hp.kept b hb (hk.imp id .inl)⟩⟩
end
theorem FB.fr {j:Nat} {S S':ST} (h:FB j S) (hf:FrK S S'):FB (j+1) S':=by
 obtain⟨h1,h2,_⟩:=hf;unfold FB;rw[h1,h2];exact h.mono (Nat.le_succ _)
theorem FB.cur {j:Nat} {S:ST} (h:FB j S):S.cur.vs.length<=1000+j:=by
 rcases Nat.eq_zero_or_pos S.calls.length with h0|h0
 ·rw[zmj h0];have:=h.1;omega
 ·rw[zmC h0];exact h.2 _ (List.getElem_mem _)
theorem FB.setCur {j:Nat} {S:ST} (h:FB j S) (f:FR) (hf:f.vs.length<=S.cur.vs.length+1):FB (j+1) (S.setCur f):=by
 unfold ST.setCur;by_cases h0:S.calls.length=0
 ·rw[if_pos h0];rw[zmj h0] at hf;exact⟨by have:=h.1;show f.vs.length<=_;omega,(h.mono (Nat.le_succ _)).2⟩
 ·rw[if_neg h0];refine⟨(h.mono (Nat.le_succ _)).1,fun g hg=>?_⟩;rw[zmC (by omega)] at hf;rcases List.mem_or_eq_of_mem_set hg with hg|rfl
  ·exact(h.mono (Nat.le_succ _)).2 g hg
  ·have:=h.2 _ (List.getElem_mem (l:=S.calls) (n:=S.calls.length-1) (by omega));omega
theorem FB.open_ {j:Nat} {S:ST} (h:FB j S) (v:VD) (x:Int):FB (j+1) (zkv S v x).2:=by
 unfold zkv
 repeat' split
 all_goals first|exact h.mono (Nat.le_succ _)|exact FB.setCur (S:=S.newCell _) h _ (by rw[znN];simp[FR.push])
theorem FB.close_ {j:Nat} {S:ST} (h:FB j S) (s:ByteArray) (x:Int):FB (j+1) (zku S s x).2:=by
 unfold zku
 repeat' split
 all_goals first|exact h.mono (Nat.le_succ _)|skip
 all_goals exact h.setCur _ (by simp[FR.pop];omega)
theorem FB.enter {j:Nat} {S:ST} (h:FB j S) (ps:List VD) (ss:List ByteArray) (hp:ps.length<=1000):FB (j+1) (zkT S ps ss).2:=by
 unfold zkT
 split
 ·exact h.mono (Nat.le_succ _)
 ·rcases he:entL S.cur ⟨[],[],0⟩ (ps.zip ss) with e|f
  ·exact h.mono (Nat.le_succ _)
  ·unfold entR;dsimp only
   split
   ·exact h.mono (Nat.le_succ _)
   ·refine⟨(h.mono (Nat.le_succ _)).1,fun g hg=>?_⟩;rcases List.mem_append.1 hg with hg|hg
    ·exact(h.mono (Nat.le_succ _)).2 g hg
    ·simp at hg;subst hg;have:=ztP _ _ _ he;simp at this;omega
theorem FB.leave {j:Nat} {S:ST} (h:FB j S):FB (j+1) (zla S).2:=by
 unfold zla
 split
 ·exact h.mono (Nat.le_succ _)
 ·exact⟨(h.mono (Nat.le_succ _)).1,fun g hg=>(h.mono (Nat.le_succ _)).2 g (List.mem_of_mem_take hg)⟩
theorem FB.do_ {j:Nat} {S:ST} (h:FB j S) (t:T):FB (j+1) (doE S t).2:=h.fr (zwo _ _)
theorem FB.undo {j:Nat} {S:ST} (h:FB j S) (t:T):FB (j+1) (zlp S t).2:=h.fr (zxm _ _)
theorem zlo {P:Program} {ops:Array Oper} {o:Oper} {a:Act} {w:World} {K:Act->World->Prop} {Q:Exit->Act->World->Prop} {F:Prop} (hw:Region.wanted o (yielded ops a.tmps)=true) (x:Operand) (xs:List Operand) (ats:Array TypeId)
  (ho:o.op=.call { callee:=.value x,args:=xs.toArray,argTypes:=ats }) (f:FuncId) (fn:Func) (hf:IsFn P f fn) (hv:a.eval x=.func (.func f) #[] #[]) (l:List Value) (hargs:xs.map a.eval=l) (R:Value->World->Prop)
  (hc:Calls P f l.toArray w fun e w'=>(∃ v,e=.returned v/\R v w')\/∃ ch,e=.panicked ch/\Q (.panic ch) a w') (h:∀ v w',R v w'->K (a.put o.dst v) w') :
  if Region.wanted o (yielded ops a.tmps)=true then Oper.wp P o a w K Q else F:=by
 rw[if_pos hw];subst hargs;have e:(execOp a.eval o).run P w=.ok (.enter f (xs.map a.eval).toArray) w:=by
  unfold execOp;simp only[ho,resolve,hv,Deferred.ofValue,Sem.run_bind,Sem.run_pure,Result.andThen_ok,invoke,zkP hf,Array.empty_append,List.map_toArray,Array.append_empty]
 unfold Oper.wp;rw[e,Oper.upon_enter];refine hc.mono ?_;rintro e w' (⟨v,rfl,hR⟩|⟨ch,rfl,hq⟩)
 ·exact h v w' hR
 ·exact hq
theorem zvY:IsFn Tryz.prog 211 Tryz.f211:=⟨Tryz.func211,by kernel_rfl,by kernel_rfl⟩
theorem zmM:IsFn Tryz.prog 197 Tryz.f197:=⟨Tryz.func197,by kernel_rfl,by kernel_rfl⟩
theorem zv3:IsFn Tryz.prog 185 Tryz.f185:=⟨Tryz.func185,by kernel_rfl,by kernel_rfl⟩
theorem ztK:IsFn Tryz.prog 186 Tryz.f186:=⟨Tryz.func186,by kernel_rfl,by kernel_rfl⟩
def loR (prs:List PR) (F:Int) (g:Nat) (back:Bool) (t t2:T) (r:RS):Out :=
 (zkp (zkk prs F g back) (blkL back (kid t 1)) r).bind fun r=>(zkw F r).bind fun r=>valO t2 r fun x r=>zkf r (zku r.S t.s x)
def loO (prs:List PR) (F:Int) (g:Nat) (back:Bool) (t:T) (r:RS):Out :=
 (zkw F r).bind fun r=>valO (fstT back t) r fun x r=>(zkf r (zkv r.S ⟨t.s,1,0⟩ x)).bind (loR prs F g back t (lstT back t))
theorem zvE {G:List PR->T->Prop} {g:Nat} (hS:IStC G g) {C:RC} (hC:C.Ok) {W:World} {r:RS} (h:RI C W r) (t:T) (v:Value) (back:Bool) (hv:NV C.w Any t v) (hk:t.ks.length=3) (hG1:∀ u∈(kid t 1).ks,G C.p.prs u)
  (aA:loO C.p.prs C.F g back t r ≠ .gas) :
  Calls Tryz.prog 195 #[.pointer (some ⟨C.rb,0,none⟩),v,.bool back] W (RunP C W (loO C.p.prs C.F g back t r)):=by
 obtain⟨A,c,rfl,-,hlk,hlc,hrow⟩:=hv.open_;have ae:=zh hrow;have HS:=zh hS;have HV:=zh hv;have hb0:=zkb (Below.refl W.heap.size W) (.cells #[.int .u8 t.k,.int .i64 t.n,.string t.s,.slice A t.ks.length c] 29);obtain⟨x0,x1,x2,x3⟩:=box4 (heap_alloc_new W (.cells #[.int .u8 t.k,.int .i64 t.n,.string t.s,.slice A t.ks.length c] 29));have HB0:=zh hb0;have H:=zh h;have HC:=zh hC;have HX:=zh (heap_alloc_new W (.cells #[.int .u8 t.k,.int .i64 t.n,.string t.s,.slice A t.ks.length c] 29));have lG:=zh (fun w' (hb:Below W.heap.size W w')=>zq8 t _ back C.w w' (zka h.below hb) hv (by omega));have nI:=zh hk;clear hrow hS hb0 h hv hk hC hlk;go_enter Tryz.func195,Tryz.ntmps195;go_wp2_with fail;refine(lG.out _ HB0.out).mono ?_;rintro e w2 ⟨v1,v2,rfl,n1,n2,b2⟩;obtain⟨t1,ht1⟩:∃ x,fstT back t=x:=⟨_,rfl⟩
 obtain⟨t2,ht2⟩:∃ x,lstT back t=x:=⟨_,rfl⟩
 have HT1:=zh ht1;have HT2:=zh ht2;rw[ht1] at n1;rw[ht2] at n2;obtain⟨A1,c1,rfl,-⟩:=n1.open_;obtain⟨A2,c2,rfl,-⟩:=n2.open_;have eG:=zh n1;have aF:=zh n2;have b3:=zkb (zkb (zka HB0.out b2) (.cells #[.int .u8 t1.k,.int .i64 t1.n,.string t1.s,.slice A1 t1.ks.length c1] 29)) (.cells #[.int .u8 t2.k,.int .i64 t2.n,.string t2.s,.slice A2 t2.ks.length c2] 29);have k0:=zkl (zkl (zkd HX.out b2) (.cells #[.int .u8 t1.k,.int .i64 t1.n,.string t1.s,.slice A1 t1.ks.length c1] 29)) (.cells #[.int .u8 t2.k,.int .i64 t2.n,.string t2.s,.slice A2 t2.ks.length c2] 29);have k1:=zkl (heap_alloc_new w2 (.cells #[.int .u8 t1.k,.int .i64 t1.n,.string t1.s,.slice A1 t1.ks.length c1] 29)) (.cells #[.int .u8 t2.k,.int .i64 t2.n,.string t2.s,.slice A2 t2.ks.length c2] 29)
 have k2:=heap_alloc_new (w2.alloc (.cells #[.int .u8 t1.k,.int .i64 t1.n,.string t1.s,.slice A1 t1.ks.length c1] 29)) (.cells #[.int .u8 t2.k,.int .i64 t2.n,.string t2.s,.slice A2 t2.ks.length c2] 29);simp only[World.size_alloc] at k2;obtain⟨w3,hw3⟩:∃ x,(w2.alloc (.cells #[.int .u8 t1.k,.int .i64 t1.n,.string t1.s,.slice A1 t1.ks.length c1] 29)).alloc (.cells #[.int .u8 t2.k,.int .i64 t2.n,.string t2.s,.slice A2 t2.ks.length c2] 29)=x:=⟨_,rfl⟩
 rw[hw3] at b3 k0 k1 k2;have hz2:=zka HB0.out b2;have hzz:=hz2.size;obtain⟨eB,h3⟩:=H.out.plus HC.out b3;have bL:=zh (Kpt.of_below (n0:=C.n0) (kb:=C.kb) b3);have l0:=zki k0;have l1:=zki k1;have l2:=zki k2;obtain⟨hi,hhi⟩:∃ x,w3.heap.size=x:=⟨_,rfl⟩
 rw[hhi] at eB h3 l0 l1 l2;have gH:=zh eB;have H3:=zh h3;have K0:=zh k0;have K1:=zh k1;have K2:=zh k2;have gX:=zh (zmn eB h3);obtain⟨p1,⟨y0,y1,y2,y3⟩⟩:True/\(w3.cell? ⟨w2.heap.size,0,none⟩=some (.int .u8 t1.k)/\w3.cell? ⟨w2.heap.size,1,none⟩=some (.int .i64 t1.n)/\w3.cell? ⟨w2.heap.size,2,none⟩=some (.string t1.s)/\w3.cell? ⟨w2.heap.size,3,none⟩=some (.slice A1 t1.ks.length c1)):=⟨trivial,zc k1 rfl,zc k1 rfl,zc k1 rfl,zc k1 rfl⟩
 clear n1 n2 b2 b3 k0 k1 k2 hz2 eB h3 x0 x1 x2 x3 HX HB0 lG p1 ht1 ht2;go_upto_region 2 with fail;clear hw3;obtain⟨o,ho⟩:∃ o,loO C.p.prs C.F g back t r=o:=⟨_,rfl⟩
 have HO:=zh (show(zkw C.F r).bind (fun r=>valO t1 r fun x r=>(zkf r (zkv r.S ⟨t.s,1,0⟩ x)).bind (loR C.p.prs C.F g back t t2))=o by rw[<-ho];unfold loO loR;rw[HT1.out,HT2.out]);rw[ho] at aA ⊢;have cz:=zh aA;have bE:=zh ho;clear aA ho;go_wp2_with fail;refine gX.out.mono ?_;rintro e w4 ⟨hk4,hb4,ed⟩;have eZ:=zh (bL.out.trans (Kpt.less (C:=C) hk4));have aC:=zh (show Below C.w.heap.size C.w w4 from hb4);have aZ:match zkw C.F r with
  | .gas=>True
  | .err x=>e=zl2 x
  | .ok r=>(∃ u,e=.returned u)/\RI (C.plus W.heap.size hi) w4 r:=ed
 have dA:=zh hk4;clear y0 y1 y2 y3 gX hk4 hb4 ed
 cases hy:zkw C.F r with
 | gas=>exact absurd (by rw[<-HO.out,hy];rfl) cz.out
 | err x =>
  rw[hy] at aZ;subst aZ;refine⟨rfl,eZ.out,aC.out,?_⟩;rw[<-HO.out,hy];rfl
 | ok r1 =>
  rw[hy] at aZ;obtain⟨⟨u3,rfl⟩,hr1⟩:=aZ;have HR4:=zh hr1;have iq:=zh (show(valO t1 r1 fun x r=>(zkf r (zkv r.S ⟨t.s,1,0⟩ x)).bind (loR C.p.prs C.F g back t t2))=o by rw[<-HO.out,hy];rfl);have gZ:=zh (show FB r.n r1.S/\r1.n=r.n+1 by obtain⟨rfl,-⟩:=zky hy;exact⟨H.out.fb,rfl⟩);have j0:=dA.out.blk (.inr (.inr ⟨by omega,l0⟩)) K0.out;have j1:=dA.out.blk (.inr (.inr ⟨by omega,l1⟩)) K1.out;have kX:=zh (fun w' (hb:Below w4.heap.size w4 w')=>zrl (hr1.later hb) t1 _ eG.out)
  have aP:=zh (show ∀ w',Below w4.heap.size w4 w'->(fun w':World=>w'.cell? ⟨C.rb,6,none⟩=some (.pointer (some ⟨C.sb,0,none⟩))/\w'.cell? ⟨W.heap.size,2,none⟩=some (.string t.s)/\w'.cell? ⟨w2.heap.size,0,none⟩=some (.int .u8 t1.k)/\w'.cell? ⟨w2.heap.size,1,none⟩=some (.int .i64 t1.n)/\w'.cell? ⟨w2.heap.size,2,none⟩=some (.string t1.s)/\w'.cell? ⟨w2.heap.size,3,none⟩=some (.slice A1 t1.ks.length c1)) w' from fun w' hb=>⟨zb hb hr1.cells.1,zb hb (zc j0 rfl),zb hb (zc j1 rfl),zb hb (zc j1 rfl),zb hb (zc j1 rfl),zb hb (zc j1 rfl)⟩);have gD:=zh (aP.out _ (Below.refl _ _).drew);clear hr1 hy j0 j1;go_upto_region 3 with fail
  have hSS:(fun w':World=>w'.cell? ⟨C.rb,6,none⟩=some (.pointer (some ⟨C.sb,0,none⟩))/\w'.cell? ⟨W.heap.size,2,none⟩=some (.string t.s)/\w'.cell? ⟨w2.heap.size,0,none⟩=some (.int .u8 t1.k)/\w'.cell? ⟨w2.heap.size,1,none⟩=some (.int .i64 t1.n)/\w'.cell? ⟨w2.heap.size,2,none⟩=some (.string t1.s)/\w'.cell? ⟨w2.heap.size,3,none⟩=some (.slice A1 t1.ks.length c1)) w4.drew/\(fun _:World=>True) w4.drew:=⟨gD.out,trivial⟩
  refine zkc (fun w':World=>w'.cell? ⟨C.rb,6,none⟩=some (.pointer (some ⟨C.sb,0,none⟩))/\w'.cell? ⟨W.heap.size,2,none⟩=some (.string t.s)/\w'.cell? ⟨w2.heap.size,0,none⟩=some (.int .u8 t1.k)/\w'.cell? ⟨w2.heap.size,1,none⟩=some (.int .i64 t1.n)/\w'.cell? ⟨w2.heap.size,2,none⟩=some (.string t1.s)/\w'.cell? ⟨w2.heap.size,3,none⟩=some (.slice A1 t1.ks.length c1)) (fun _:World=>True) 12 (by kernel_rfl) ?_;refine zT 0 hSS ?_;(try simp only[zQ]);refine zT 1 hSS ?_;(try simp only[zQ]);refine zT 2 hSS ?_;(try simp only[zQ]);refine zT 3 hSS ?_;(try simp only[zQ]);refine zT 4 hSS ?_;(try simp only[zQ]);refine zT 5 hSS ?_;(try simp only[zQ]);refine zT 6 hSS ?_;(try simp only[zQ]);refine zT 7 hSS ?_;(try simp only[zQ]);refine zT 8 hSS ?_;(try simp only[zQ]);refine zT 9 hSS ?_;(try simp only[zQ])
  have had:Calls Tryz.prog 211 [.pointer (some ⟨C.rb,0,none⟩),nv t1.k t1.n t1.s A1 t1.ks.length c1].toArray w4.drew (ValP (C.plus W.heap.size hi) w4.drew t1 r1):=kX.out _ (Below.refl _ _).drew;refine zo 10 fun K hK=>?_;refine zlo (by rfl) (.func 211) [.tmp 24,.tmp 25] _ (by rfl) 211 _ zvY (by rfl) _ (by rfl) (fun v w'=>Below w4.heap.size w4 w'/\∃ x,v=.int .i64 x/\I64 x/\∀ f,valO t1 r1 f=f x r1) (had.mono ?_) ?_
  ·rintro e y1 ⟨bq,hv1⟩;have b1:=zka (Below.refl w4.heap.size w4).drew bq;rcases hv1 with⟨x,rfl,hx⟩|⟨x,rfl,j6,hx⟩
   ·refine .inr ⟨_,rfl,?_⟩;refine⟨rfl,eZ.out.trans (Kpt.of_below b1),zka aC.out b1,?_⟩
    try rw[bE.out]
    rw[<-iq.out,hx]
   ·exact .inl ⟨_,rfl,b1,x,rfl,j6,hx⟩
  rintro v5 w5 ⟨b5,x,rfl,hx,sV⟩;have bB:=zh b5;have qy:=zh hx;have lq:=zh (show(zkf r1 (zkv r1.S ⟨t.s,1,0⟩ x)).bind (loR C.p.prs C.F g back t t2)=o by rw[<-iq.out,sV]);refine hK.out _ _ ⟨aP.out _ b5,trivial⟩ ?_;clear hK K had b5 hx sV hSS kX;(try simp only[zQ]);obtain⟨R,hR⟩:∃ R,zkv r1.S ⟨t.s,1,0⟩ x=R:=⟨_,rfl⟩
  have HRR:=zh hR;have bT:=gZ.out.1.cur;have kr:=H.out.n;have had:Calls Tryz.prog 185 [.pointer (some ⟨C.sb,0,none⟩),.agg #[.string t.s,.int .u8 1,.int .i64 0],.int .i64 x].toArray w5 fun e w'=>∃ v,e=.returned v/\(v=.int .i64 R.1/\RI (C.plus W.heap.size hi) w' { r1 with S:=R.2 }/\Kpt C.n0 (C.plus W.heap.size hi).kb w5 w') :=
   ((HR4.out.later bB.out).ks.open_ ⟨t.s,1,0⟩ (by obtain⟨_,_,_,hf,-⟩:=HV.out.open_;exact⟨hf.2.2,⟨by simp only;omega,by simp only;omega⟩,⟨by simp only;omega,by simp only;omega⟩⟩) x qy.out (by omega)).mono fun e w' ⟨h1,h2,h3⟩=>⟨_,h1,by rw[hR],(RI.store (C:=C.plus W.heap.size hi) (HR4.out.later bB.out) (hR▸h2) h3 (by rw[gZ.out.2,<-hR];exact gZ.out.1.open_ _ _))⟩
  refine zo 11 fun K hK=>?_;refine zlK (by rfl) (.func 185) [.tmp 20,.tmp 23,.tmp 26] _ (by rfl) 185 _ zv3 (by rfl) _ (by rfl) _ had ?_;rintro v6 w6 ⟨rfl,bM,bW⟩;have eQ:=zh (dA.out.trans ((Kpt.of_below bB.out).trans bW));have j0:=eQ.out.blk (.inr (.inr ⟨by omega,l0⟩)) K0.out;have j1:=eQ.out.blk (.inr (.inr ⟨by omega,l1⟩)) K1.out;have fI:=zh bM;have au:(fun w':World=>w'.cell? ⟨C.rb,6,none⟩=some (.pointer (some ⟨C.sb,0,none⟩))/\w'.cell? ⟨W.heap.size,2,none⟩=some (.string t.s)/\w'.cell? ⟨w2.heap.size,0,none⟩=some (.int .u8 t1.k)/\w'.cell? ⟨w2.heap.size,1,none⟩=some (.int .i64 t1.n)/\w'.cell? ⟨w2.heap.size,2,none⟩=some (.string t1.s)/\w'.cell? ⟨w2.heap.size,3,none⟩=some (.slice A1 t1.ks.length c1)) w6:=⟨bM.cells.1,zc j0 rfl,zc j1 rfl,zc j1 rfl,zc j1 rfl,zc j1 rfl⟩
  refine hK.out _ _ ⟨au,trivial⟩ ?_;have kZ:=zh au;have bH:=zh bM.below;clear hK K had bM bW j0 j1 au gD aP;(try simp only[zQ]);have dV:=zh (bL.out.trans (Kpt.less (C:=C) eQ.out));rw[hR] at lq;have had:=zlr ⟨C.rb,0,none⟩ R.1 w6;refine zp 12 fun K hK=>?_;refine zlo (by rfl) (.func 197) [.tmp 16,.tmp 27] _ (by rfl) 197 _ zmM (by rfl) _ (by rfl) (fun v w'=>w'=w6/\R.1=0) (had.mono ?_) ?_
  ·rintro e y1 ⟨rfl,hv1⟩;rcases hv1 with⟨h0,u0,rfl⟩|⟨h0,rfl⟩
   ·exact .inl ⟨_,rfl,rfl,h0⟩
   ·refine .inr ⟨_,rfl,?_⟩;refine⟨rfl,dV.out,bH.out,?_⟩
    try rw[bE.out]
    rw[<-lq.out,show zkf r1 R=.err R.1 by unfold zkf;rw[if_pos h0]];rfl
  rintro v7 w7 ⟨rfl,h0⟩;have nH:=zh (show loR C.p.prs C.F g back t t2 { r1 with S:=R.2 }=o by rw[<-lq.out,show zkf r1 R=.ok { r1 with S:=R.2 } by unfold zkf;rw[if_neg (by simpa using h0)]];rfl);refine hK.out _ _ kZ.out ?_;clear hK K had h0;(try simp only[zQ]);refine zd ?_;obtain⟨r2,hr2⟩:∃ x,({ r1 with S:=R.2 }:RS)=x:=⟨_,rfl⟩
  rw[hr2] at fI nH;have hI:1<t.ks.length:=by have:=nI.out;omega
  have hI1:(1:Int)<(t.ks.length:Int):=by omega
  obtain⟨a,u,Au,cu,rfl,-,hu,⟨p0,p1,p2,p3⟩,hnu⟩:=ae.out.nd hI;have fD:kid t 1=u:=by unfold kid;rw[List.getD_eq_getElem?_getD,List.getElem?_eq_getElem hI];exact hu.out
  have qZ:=zh (show ∀ x∈u.ks,G C.p.prs x by rw[<-fD];exact hG1);have jI:=zh (show(runO C.p.prs C.F g back u r2).bind (fun r=>(zkw C.F r).bind fun r=>valO t2 r fun x r=>zkf r (zku r.S t.s x))=o by rw[<-nH.out,<-fD];rfl);have hgu:runO C.p.prs C.F g back u r2 ≠ .gas:=fun e=>cz.out (by rw[<-jI.out,e];rfl);have ax:=zh (zlA HS.out gH.out fI.out u _ back hnu qZ.out hgu);have ha:a.add (1*4)=⟨a.block,a.off+4,none⟩:=by unfold Addr.add;split<;>simp_all
  rw[ha] at p0 p1 p2 p3;have q0:=zb bH.out p0;have q1:=zb bH.out p1;have q2:=zb bH.out p2;have q3:=zb bH.out p3;have j0:=eQ.out.blk (.inr (.inr ⟨by omega,l0⟩)) K0.out;have q4:=zc (i:=3) j0 rfl;clear fD hnu hu p0 p1 p2 p3 hgu ha j0 bT kr;go_wp2_with fail;refine ax.out.mono ?_;rintro e w8 ⟨nT,kL,jM⟩;have lD:=zh (eQ.out.trans nT);have mf:=zh (bL.out.trans (Kpt.less (C:=C) lD.out));have jW:=zh (show Below C.w.heap.size C.w w8 from kL);have bQ:match runO C.p.prs C.F g back u r2 with
   | .gas=>True
   | .err x=>e=zl2 x
   | .ok r=>(∃ u,e=.returned u)/\RI (C.plus W.heap.size hi) w8 r:=jM
  clear q0 q1 q2 q3 q4 nT kL jM ax
  cases hx:runO C.p.prs C.F g back u r2 with
  | gas=>exact absurd (by rw[<-jI.out,hx];rfl) cz.out
  | err x =>
   rw[hx] at bQ;subst bQ;refine⟨rfl,mf.out,jW.out,?_⟩
   try rw[bE.out]
   rw[<-jI.out,hx];rfl
  | ok r3 =>
   rw[hx] at bQ;obtain⟨⟨u9,rfl⟩,hr3⟩:=bQ;have HST:=zh (zmn gH.out hr3);have gG:=zh (show((zkw C.F r3).bind fun r=>valO t2 r fun x r=>zkf r (zku r.S t.s x))=o by rw[<-jI.out,hx];rfl);have lX:=zh hr3;clear hx hr3;go_wp2_with fail;refine HST.out.mono ?_;rintro e w9 ⟨aH,bJ,dx⟩;have gW:=zh (lD.out.trans aH);have iN:=zh (bL.out.trans (Kpt.less (C:=C) gW.out));have dh:=zh (show Below C.w.heap.size C.w w9 from bJ);have fA:match zkw C.F r3 with
    | .gas=>True
    | .err x=>e=zl2 x
    | .ok r=>(∃ u,e=.returned u)/\RI (C.plus W.heap.size hi) w9 r:=dx
   clear aH bJ dx HST
   cases hy:zkw C.F r3 with
   | gas=>exact absurd (by rw[<-gG.out,hy];rfl) cz.out
   | err x =>
    rw[hy] at fA;subst fA;refine⟨rfl,iN.out,dh.out,?_⟩
    try rw[bE.out]
    rw[<-gG.out,hy];rfl
   | ok r4 =>
    rw[hy] at fA;obtain⟨⟨u9,rfl⟩,hr4⟩:=fA;have qF:=zh hr4;have dU:=zh (show(valO t2 r4 fun x r=>zkf r (zku r.S t.s x))=o by rw[<-gG.out,hy];rfl);have gY:=zh (show FB r3.n r4.S/\r4.n=r3.n+1 by obtain⟨rfl,-⟩:=zky hy;exact⟨lX.out.fb,rfl⟩);have j0:=gW.out.blk (.inr (.inr ⟨by omega,l0⟩)) K0.out;have j2:=gW.out.blk (.inr (.inr ⟨by omega,l2⟩)) K2.out;have kX:=zh (fun w' (hb:Below w9.heap.size w9 w')=>zrl (hr4.later hb) t2 _ aF.out)
    have aP:=zh (show ∀ w',Below w9.heap.size w9 w'->(fun w':World=>w'.cell? ⟨C.rb,6,none⟩=some (.pointer (some ⟨C.sb,0,none⟩))/\w'.cell? ⟨W.heap.size,2,none⟩=some (.string t.s)/\w'.cell? ⟨w2.heap.size+1,0,none⟩=some (.int .u8 t2.k)/\w'.cell? ⟨w2.heap.size+1,1,none⟩=some (.int .i64 t2.n)/\w'.cell? ⟨w2.heap.size+1,2,none⟩=some (.string t2.s)/\w'.cell? ⟨w2.heap.size+1,3,none⟩=some (.slice A2 t2.ks.length c2)) w' from fun w' hb=>⟨zb hb hr4.cells.1,zb hb (zc j0 rfl),zb hb (zc j2 rfl),zb hb (zc j2 rfl),zb hb (zc j2 rfl),zb hb (zc j2 rfl)⟩);clear hr4 hy j0 j2;go_upto_region 6 with fail
    have hSS:(fun w':World=>w'.cell? ⟨C.rb,6,none⟩=some (.pointer (some ⟨C.sb,0,none⟩))/\w'.cell? ⟨W.heap.size,2,none⟩=some (.string t.s)/\w'.cell? ⟨w2.heap.size+1,0,none⟩=some (.int .u8 t2.k)/\w'.cell? ⟨w2.heap.size+1,1,none⟩=some (.int .i64 t2.n)/\w'.cell? ⟨w2.heap.size+1,2,none⟩=some (.string t2.s)/\w'.cell? ⟨w2.heap.size+1,3,none⟩=some (.slice A2 t2.ks.length c2)) w9.drew/\(fun _:World=>True) w9.drew:=⟨aP.out _ (Below.refl _ _).drew,trivial⟩
    refine zkc (fun w':World=>w'.cell? ⟨C.rb,6,none⟩=some (.pointer (some ⟨C.sb,0,none⟩))/\w'.cell? ⟨W.heap.size,2,none⟩=some (.string t.s)/\w'.cell? ⟨w2.heap.size+1,0,none⟩=some (.int .u8 t2.k)/\w'.cell? ⟨w2.heap.size+1,1,none⟩=some (.int .i64 t2.n)/\w'.cell? ⟨w2.heap.size+1,2,none⟩=some (.string t2.s)/\w'.cell? ⟨w2.heap.size+1,3,none⟩=some (.slice A2 t2.ks.length c2)) (fun _:World=>True) 11 (by kernel_rfl) ?_;refine zT 0 hSS ?_;(try simp only[zQ]);refine zT 1 hSS ?_;(try simp only[zQ]);refine zT 2 hSS ?_;(try simp only[zQ]);refine zT 3 hSS ?_;(try simp only[zQ]);refine zT 4 hSS ?_;(try simp only[zQ]);refine zT 5 hSS ?_;(try simp only[zQ]);refine zT 6 hSS ?_;(try simp only[zQ]);refine zT 7 hSS ?_;(try simp only[zQ]);refine zT 8 hSS ?_;(try simp only[zQ])
    have had:Calls Tryz.prog 211 [.pointer (some ⟨C.rb,0,none⟩),nv t2.k t2.n t2.s A2 t2.ks.length c2].toArray w9.drew (ValP (C.plus W.heap.size hi) w9.drew t2 r4):=kX.out _ (Below.refl _ _).drew;refine zo 9 fun K hK=>?_;refine zlo (by rfl) (.func 211) [.tmp 45,.tmp 46] _ (by rfl) 211 _ zvY (by rfl) _ (by rfl) (fun v w'=>Below w9.heap.size w9 w'/\∃ x,v=.int .i64 x/\I64 x/\∀ f,valO t2 r4 f=f x r4) (had.mono ?_) ?_
    ·rintro e y1 ⟨bq,hv1⟩;have b1:=zka (Below.refl w9.heap.size w9).drew bq;rcases hv1 with⟨x,rfl,hx⟩|⟨x,rfl,j6,hx⟩
     ·refine .inr ⟨_,rfl,?_⟩;refine⟨rfl,iN.out.trans (Kpt.of_below b1),zka dh.out b1,?_⟩
      try rw[bE.out]
      rw[<-dU.out,hx]
     ·exact .inl ⟨_,rfl,b1,x,rfl,j6,hx⟩
    rintro v10 aQ ⟨b10,z,rfl,hx,sV⟩;have lM:=zh b10;obtain⟨Rc,jP⟩:∃ R,zku r4.S t.s z=R:=⟨_,rfl⟩
    have dN:=zh (show zkf r4 Rc=o by rw[<-dU.out,sV,jP]);refine hK.out _ _ ⟨aP.out _ b10,trivial⟩ ?_;clear hK K had b10 hx sV hSS kX;(try simp only[zQ]);have had:Calls Tryz.prog 186 [.pointer (some ⟨C.sb,0,none⟩),.string t.s,.int .i64 z].toArray aQ fun e w'=>∃ v,e=.returned v/\(v=.int .i64 Rc.1/\RI (C.plus W.heap.size hi) w' { r4 with S:=Rc.2 }/\Kpt C.n0 (C.plus W.heap.size hi).kb aQ w') :=
     ((qF.out.later lM.out).ks.close t.s z).mono fun e w' ⟨h1,h2,h3⟩=>⟨_,h1,by rw[jP],(RI.store (C:=C.plus W.heap.size hi) (qF.out.later lM.out) (jP▸h2) h3 (by rw[gY.out.2,<-jP];exact gY.out.1.close_ _ _))⟩
    refine zo 10 fun K hK=>?_;refine zlK (by rfl) (.func 186) [.tmp 42,.tmp 44,.tmp 47] _ (by rfl) 186 _ ztK (by rfl) _ (by rfl) _ had ?_;rintro v11 aJ ⟨rfl,fw,gN⟩;have fq:=zh (gW.out.trans ((Kpt.of_below lM.out).trans gN));have j0:=fq.out.blk (.inr (.inr ⟨by omega,l0⟩)) K0.out;have j2:=fq.out.blk (.inr (.inr ⟨by omega,l2⟩)) K2.out;have jH:=zh fw;have au:(fun w':World=>w'.cell? ⟨C.rb,6,none⟩=some (.pointer (some ⟨C.sb,0,none⟩))/\w'.cell? ⟨W.heap.size,2,none⟩=some (.string t.s)/\w'.cell? ⟨w2.heap.size+1,0,none⟩=some (.int .u8 t2.k)/\w'.cell? ⟨w2.heap.size+1,1,none⟩=some (.int .i64 t2.n)/\w'.cell? ⟨w2.heap.size+1,2,none⟩=some (.string t2.s)/\w'.cell? ⟨w2.heap.size+1,3,none⟩=some (.slice A2 t2.ks.length c2)) aJ:=⟨fw.cells.1,zc j0 rfl,zc j2 rfl,zc j2 rfl,zc j2 rfl,zc j2 rfl⟩
    refine hK.out _ _ ⟨au,trivial⟩ ?_;have kZ:=zh au;have fT:=zh fw.below;clear hK K had fw gN j0 j2 au aP;(try simp only[zQ]);have iO:=zh (bL.out.trans (Kpt.less (C:=C) fq.out));have had:=zlr ⟨C.rb,0,none⟩ Rc.1 aJ;refine zp 11 fun K hK=>?_;refine zlo (by rfl) (.func 197) [.tmp 38,.tmp 48] _ (by rfl) 197 _ zmM (by rfl) _ (by rfl) (fun v w'=>w'=aJ/\Rc.1=0) (had.mono ?_) ?_
    ·rintro e y1 ⟨rfl,hv1⟩;rcases hv1 with⟨h0,u0,rfl⟩|⟨h0,rfl⟩
     ·exact .inl ⟨_,rfl,rfl,h0⟩
     ·refine .inr ⟨_,rfl,?_⟩;refine⟨rfl,iO.out,fT.out,?_⟩
      try rw[bE.out]
      rw[<-dN.out,show zkf r4 Rc=.err Rc.1 by unfold zkf;rw[if_pos h0]]
    rintro v12 fU ⟨rfl,h0⟩;have fK:=zh (show o=.ok { r4 with S:=Rc.2 } by rw[<-dN.out];unfold zkf;rw[if_neg (by simpa using h0)]);refine hK.out _ _ kZ.out ?_;clear hK K had h0;(try simp only[zQ]);refine zd ?_;have lh:=zh jH.out.less;go_wp2_with fail;go_end0;refine⟨iO.out,fT.out,?_⟩
    try rw[bE.out]
    rw[fK.out];exact⟨⟨_,rfl⟩,lh.out⟩
theorem zzA {G:List PR->T->Prop} {g:Nat} (hS:IStC G g) {C:RC} (hC:C.Ok) {W:World} {r:RS} (h:RI C W r) (t:T) (v:Value) (back:Bool) (hv:NV C.w Any t v) (hk0:t.k=52) (hk:t.ks.length=4) (hG1:∀ u∈(kid t 1).ks,G C.p.prs u) (hG2:∀ u∈(kid t 2).ks,G C.p.prs u)
  (o:Out) (ho:brO C.p.prs C.F g back t r=o) (hog:o ≠ .gas) :
  Calls Tryz.prog 157 #[.pointer (some ⟨C.rb,0,none⟩),v,.bool back] W (RunP C W o):=by
 have aA:=hog;obtain⟨k,n,s,ks⟩:=t;obtain rfl:k=52:=hk0;obtain⟨A,c,rfl,-,hlk,hlc,-⟩:=hv.open_;have hb0:=zkb (Below.refl W.heap.size W) (.cells #[.int .u8 52,.int .i64 n,.string s,.slice A ks.length c] 29);obtain⟨x0,x1,x2,x3⟩:=box4 (heap_alloc_new W (.cells #[.int .u8 52,.int .i64 n,.string s,.slice A ks.length c] 29));have aM:=zh (Kpt.of_below (n0:=C.n0) (kb:=C.kb) hb0);have aI:=zh (show Calls Tryz.prog 193 #[.pointer (some ⟨C.rb,0,none⟩),.agg #[.int .u8 52,.int .i64 n,.string s,.slice A ks.length c],.bool back] (W.alloc (.cells #[.int .u8 52,.int .i64 n,.string s,.slice A ks.length c] 29)) (RunP C _ o) from (ho▸(zuG hS hC (h.later hb0) _ _ back hv hk hG1 hG2 (ho▸hog))));clear hv hb0 h aA hG1 ho hk;go_enter Tryz.func157,Tryz.ntmps157;go_wp2_with fail;refine aI.out.mono ?_;rintro e w1 ⟨hk1,hb1,ho1⟩
 cases o with
 | gas=>exact absurd rfl hog
 | err x =>
  subst ho1;exact⟨rfl,aM.out.trans hk1,hb1,rfl⟩
 | ok r1 =>
  obtain⟨⟨u,rfl⟩,hr1⟩:=ho1;have HR:=zh hr1;have aD:=zh (aM.out.trans hk1);have HB1:=zh hb1;clear x0 x1 x2 x3 hr1 hk1 hb1;go_wp2_with fail;go_end0;exact⟨aD.out,HB1.out,⟨_,rfl⟩,HR.out⟩
theorem zu2 {G:List PR->T->Prop} {g:Nat} (hS:IStC G g) {C:RC} (hC:C.Ok) {W:World} {r:RS} (h:RI C W r) (t:T) (v:Value) (back:Bool) (hv:NV C.w Any t v) (hk0:t.k=53) (hk:t.ks.length=4) (hG1:∀ u∈(kid t 1).ks,G C.p.prs u) (hG2:∀ u∈(kid t 2).ks,G C.p.prs u)
  (o:Out) (ho:lpO C.p.prs C.F g back t r=o) (hog:o ≠ .gas) :
  Calls Tryz.prog 157 #[.pointer (some ⟨C.rb,0,none⟩),v,.bool back] W (RunP C W o):=by
 have aA:=hog;obtain⟨k,n,s,ks⟩:=t;obtain rfl:k=53:=hk0;obtain⟨A,c,rfl,-,hlk,hlc,-⟩:=hv.open_;have hb0:=zkb (Below.refl W.heap.size W) (.cells #[.int .u8 53,.int .i64 n,.string s,.slice A ks.length c] 29);obtain⟨x0,x1,x2,x3⟩:=box4 (heap_alloc_new W (.cells #[.int .u8 53,.int .i64 n,.string s,.slice A ks.length c] 29));have aM:=zh (Kpt.of_below (n0:=C.n0) (kb:=C.kb) hb0);have aI:=zh (show Calls Tryz.prog 194 #[.pointer (some ⟨C.rb,0,none⟩),.agg #[.int .u8 53,.int .i64 n,.string s,.slice A ks.length c],.bool back] (W.alloc (.cells #[.int .u8 53,.int .i64 n,.string s,.slice A ks.length c] 29)) (RunP C _ o) from (ho▸(zxR hS hC (h.later hb0) _ _ back hv hk hG1 hG2 (ho▸hog))));clear hv hb0 h aA hG1 ho hk;go_enter Tryz.func157,Tryz.ntmps157;go_wp2_with fail;refine aI.out.mono ?_;rintro e w1 ⟨hk1,hb1,ho1⟩
 cases o with
 | gas=>exact absurd rfl hog
 | err x =>
  subst ho1;exact⟨rfl,aM.out.trans hk1,hb1,rfl⟩
 | ok r1 =>
  obtain⟨⟨u,rfl⟩,hr1⟩:=ho1;have HR:=zh hr1;have aD:=zh (aM.out.trans hk1);have HB1:=zh hb1;clear x0 x1 x2 x3 hr1 hk1 hb1;go_wp2_with fail;go_end0;exact⟨aD.out,HB1.out,⟨_,rfl⟩,HR.out⟩
theorem zuf {G:List PR->T->Prop} {g:Nat} (hS:IStC G g) {C:RC} (hC:C.Ok) {W:World} {r:RS} (h:RI C W r) (t:T) (v:Value) (back:Bool) (hv:NV C.w Any t v) (hk0:t.k=54) (hk:t.ks.length=3) (hG1:∀ u∈(kid t 1).ks,G C.p.prs u)
  (o:Out) (ho:loO C.p.prs C.F g back t r=o) (hog:o ≠ .gas) :
  Calls Tryz.prog 157 #[.pointer (some ⟨C.rb,0,none⟩),v,.bool back] W (RunP C W o):=by
 have aA:=hog;obtain⟨k,n,s,ks⟩:=t;obtain rfl:k=54:=hk0;obtain⟨A,c,rfl,-,hlk,hlc,-⟩:=hv.open_;have hb0:=zkb (Below.refl W.heap.size W) (.cells #[.int .u8 54,.int .i64 n,.string s,.slice A ks.length c] 29);obtain⟨x0,x1,x2,x3⟩:=box4 (heap_alloc_new W (.cells #[.int .u8 54,.int .i64 n,.string s,.slice A ks.length c] 29));have aM:=zh (Kpt.of_below (n0:=C.n0) (kb:=C.kb) hb0);have aI:=zh (show Calls Tryz.prog 195 #[.pointer (some ⟨C.rb,0,none⟩),.agg #[.int .u8 54,.int .i64 n,.string s,.slice A ks.length c],.bool back] (W.alloc (.cells #[.int .u8 54,.int .i64 n,.string s,.slice A ks.length c] 29)) (RunP C _ o) from (ho▸(zvE hS hC (h.later hb0) _ _ back hv hk hG1 (ho▸hog))));clear hv hb0 h aA hG1 ho hk;go_enter Tryz.func157,Tryz.ntmps157;go_wp2_with fail;refine aI.out.mono ?_;rintro e w1 ⟨hk1,hb1,ho1⟩
 cases o with
 | gas=>exact absurd rfl hog
 | err x =>
  subst ho1;exact⟨rfl,aM.out.trans hk1,hb1,rfl⟩
 | ok r1 =>
  obtain⟨⟨u,rfl⟩,hr1⟩:=ho1;have HR:=zh hr1;have aD:=zh (aM.out.trans hk1);have HB1:=zh hb1;clear x0 x1 x2 x3 hr1 hk1 hb1;go_wp2_with fail;go_end0;exact⟨aD.out,HB1.out,⟨_,rfl⟩,HR.out⟩
theorem zLD:IsFn Tryz.prog 20 Tryz.f20:=⟨Tryz.func20,by kernel_rfl,by kernel_rfl⟩
theorem zzX:IsFn Tryz.prog 19 Tryz.f19:=⟨Tryz.func19,by kernel_rfl,by kernel_rfl⟩
def basO (F:Int) (back:Bool) (t:T) (r:RS):Out:=(zkw F r).bind fun r=>zkf r (if back=true then zlp r.S t else doE r.S t)
theorem zxr {C:RC} (hC:C.Ok) {W:World} {r:RS} (h:RI C W r) (t:T) (v:Value) (back:Bool) (hv:NV C.w Any t v) (hk:t.k≠52/\t.k≠53/\t.k≠54/\t.k≠55/\t.k≠50/\t.k≠51) :
  Calls Tryz.prog 157 #[.pointer (some ⟨C.rb,0,none⟩),v,.bool back] W (RunP C W (basO C.F back t r)):=by
 have HV:=zh hv;have H:=zh h;obtain⟨A,c,rfl,-,hlk,hlc,-⟩:=hv.open_;have e0:(t.k==52)=false:=by simpa using hk.1
 have e1:(t.k==53)=false:=by simpa using hk.2.1
 have e2:(t.k==54)=false:=by simpa using hk.2.2.1
 have e3:(t.k==55)=false:=by simpa using hk.2.2.2.1
 have e4:(t.k==50)=false:=by simpa using hk.2.2.2.2.1
 have e5:(t.k==51)=false:=by simpa using hk.2.2.2.2.2
 have hb0:=zkb (Below.refl W.heap.size W) (.cells #[.int .u8 t.k,.int .i64 t.n,.string t.s,.slice A t.ks.length c] 29);obtain⟨bC,h1⟩:=h.plus hC hb0;have k0:=heap_alloc_new W (.cells #[.int .u8 t.k,.int .i64 t.n,.string t.s,.slice A t.ks.length c] 29);obtain⟨x0,x1,x2,x3⟩:=box4 k0;have bL:=zh (Kpt.of_below (n0:=C.n0) (kb:=C.kb) hb0);obtain⟨w3,hw3⟩:∃ x,W.alloc (.cells #[.int .u8 t.k,.int .i64 t.n,.string t.s,.slice A t.ks.length c] 29)=x:=⟨_,rfl⟩
 rw[hw3] at bC h1 k0 x0 x1 x2 x3 bL;have l0:=zki k0;have K0:=zh k0;obtain⟨hi,hhi⟩:∃ x,w3.heap.size=x:=⟨_,rfl⟩
 rw[hhi] at bC h1 l0;have gX:=zh (zmn bC h1);obtain⟨o,ho⟩:∃ o,basO C.F back t r=o:=⟨_,rfl⟩
 have bE:=zh ho;have HO:=zh (show(zkw C.F r).bind (fun r=>zkf r (if back=true then zlp r.S t else doE r.S t))=o from ho);rw[ho];clear hv hb0 bC h1 k0 h hk ho;go_enter Tryz.func157,Tryz.ntmps157;go_wp2_with fail;refine gX.out.mono ?_;rintro e w4 ⟨hk4,hb4,ed⟩;have eZ:=zh (bL.out.trans (Kpt.less (C:=C) hk4));have aC:=zh (show Below C.w.heap.size C.w w4 from hb4);have aZ:match zkw C.F r with
  | .gas=>True
  | .err x=>e=zl2 x
  | .ok r=>(∃ u,e=.returned u)/\RI (C.plus W.heap.size hi) w4 r:=ed
 have dA:=zh hk4;clear x0 x1 x2 x3 gX hk4 hb4 ed hw3
 cases hy:zkw C.F r with
 | gas=>exact absurd hy (zkz _ _).1
 | err x =>
  rw[hy] at aZ;subst aZ;refine⟨rfl,eZ.out,aC.out,?_⟩
  try rw[bE.out]
  rw[<-HO.out,hy];rfl
 | ok r1 =>
  rw[hy] at aZ;obtain⟨⟨u3,rfl⟩,hr1⟩:=aZ;have HR4:=zh hr1;have iq:=zh (show zkf r1 (if back=true then zlp r1.S t else doE r1.S t)=o by rw[<-HO.out,hy];rfl);have gZ:=zh (show FB r.n r1.S/\r1.n=r.n+1 by obtain⟨rfl,-⟩:=zky hy;exact⟨H.out.fb,rfl⟩);have j0:=dA.out.blk (.inr (.inr ⟨Nat.le_refl _,l0⟩)) K0.out;have hSS:(fun w':World=>w'.cell? ⟨C.rb,6,none⟩=some (.pointer (some ⟨C.sb,0,none⟩))/\w'.cell? ⟨W.heap.size,0,none⟩=some (.int .u8 t.k)/\w'.cell? ⟨W.heap.size,1,none⟩=some (.int .i64 t.n)/\w'.cell? ⟨W.heap.size,2,none⟩=some (.string t.s)/\w'.cell? ⟨W.heap.size,3,none⟩=some (.slice A t.ks.length c)) w4.drew/\(fun _:World=>True) w4.drew:=⟨⟨hr1.cells.1,zc j0 rfl,zc j0 rfl,zc j0 rfl,zc j0 rfl⟩,trivial⟩
  clear hr1 hy j0
  cases back
  ·skip
   go_upto_region 5 with fail;refine zkc (fun w':World=>w'.cell? ⟨C.rb,6,none⟩=some (.pointer (some ⟨C.sb,0,none⟩))/\w'.cell? ⟨W.heap.size,0,none⟩=some (.int .u8 t.k)/\w'.cell? ⟨W.heap.size,1,none⟩=some (.int .i64 t.n)/\w'.cell? ⟨W.heap.size,2,none⟩=some (.string t.s)/\w'.cell? ⟨W.heap.size,3,none⟩=some (.slice A t.ks.length c)) (fun _:World=>True) 7 (by kernel_rfl) ?_;refine zT 0 hSS ?_;(try simp only[zQ]);refine zT 1 hSS ?_;(try simp only[zQ]);refine zT 2 hSS ?_;(try simp only[zQ]);refine zT 3 hSS ?_;(try simp only[zQ]);refine zT 4 hSS ?_;(try simp only[zQ]);refine zT 5 hSS ?_;(try simp only[zQ]);obtain⟨R,hR⟩:∃ R,doE r1.S t=R:=⟨_,rfl⟩
   have lq:=zh (show zkf r1 R=o by rw[<-hR];exact iq.out);have hbd:Below w4.heap.size w4 w4.drew:=(Below.refl _ _).drew;have had:Calls Tryz.prog 20 [.pointer (some ⟨C.sb,0,none⟩),.agg #[.int .u8 t.k,.int .i64 t.n,.string t.s,.slice A t.ks.length c]].toArray w4.drew fun e w'=>∃ v,e=.returned v/\(v=.int .i64 R.1/\RI (C.plus W.heap.size hi) w' { r1 with S:=R.2 }/\Kpt C.n0 (C.plus W.heap.size hi).kb w4 w') :=
    ((HR4.out.later hbd).ks.do_ t _ (HV.out.later (zka aC.out hbd))).mono fun e w' ⟨h1,h2,h3⟩=>by
     have hs:=RI.store (C:=C.plus W.heap.size hi) (HR4.out.later hbd) h2 h3 (by rw[gZ.out.2];exact gZ.out.1.do_ _);rw[hR] at h1 hs;exact⟨_,h1,rfl,hs.1,(Kpt.of_below hbd).trans hs.2⟩
   refine zo 6 fun K hK=>?_;refine zlK (by rfl) (.func 20) [.tmp 23,.tmp 24] _ (by rfl) 20 _ zLD (by rfl) _ (by rfl) _ had ?_;rintro v6 w6 ⟨rfl,bM,bW⟩;have dV:=zh (eZ.out.trans (Kpt.less (C:=C) bW));have j0:=(dA.out.trans bW).blk (.inr (.inr ⟨Nat.le_refl _,l0⟩)) K0.out;have au:(fun w':World=>w'.cell? ⟨C.rb,6,none⟩=some (.pointer (some ⟨C.sb,0,none⟩))/\w'.cell? ⟨W.heap.size,0,none⟩=some (.int .u8 t.k)/\w'.cell? ⟨W.heap.size,1,none⟩=some (.int .i64 t.n)/\w'.cell? ⟨W.heap.size,2,none⟩=some (.string t.s)/\w'.cell? ⟨W.heap.size,3,none⟩=some (.slice A t.ks.length c)) w6:=⟨bM.cells.1,zc j0 rfl,zc j0 rfl,zc j0 rfl,zc j0 rfl⟩
   have fI:=zh bM.less;have bH:=zh bM.below;refine hK.out _ _ ⟨au,trivial⟩ ?_;have kZ:=zh au;clear hK K had bM bW j0 au hSS;(try simp only[zQ]);have had:=zlr ⟨C.rb,0,none⟩ R.1 w6;refine zp 7 fun K hK=>?_;refine zlo (by rfl) (.func 197) [.tmp 19,.tmp 25] _ (by rfl) 197 _ zmM (by rfl) _ (by rfl) (fun v w'=>w'=w6/\R.1=0) (had.mono ?_) ?_
   ·rintro e y1 ⟨rfl,hv1⟩;rcases hv1 with⟨h0,u0,rfl⟩|⟨h0,rfl⟩
    ·exact .inl ⟨_,rfl,rfl,h0⟩
    ·refine .inr ⟨_,rfl,?_⟩;refine⟨rfl,dV.out,bH.out,?_⟩
     try rw[bE.out]
     rw[<-lq.out,show zkf r1 R=.err R.1 by unfold zkf;rw[if_pos h0]]
   rintro v12 fU ⟨rfl,h0⟩;have fK:=zh (show o=.ok { r1 with S:=R.2 } by rw[<-lq.out];unfold zkf;rw[if_neg (by simpa using h0)]);refine hK.out _ _ kZ.out ?_;clear hK K had h0;(try simp only[zQ]);refine zd ?_;go_wp2_with fail;go_end0;refine⟨dV.out,bH.out,?_⟩
   try rw[bE.out]
   rw[fK.out];exact⟨⟨_,rfl⟩,fI.out⟩
  ·skip
   go_upto_region 4 with fail;refine zkc (fun w':World=>w'.cell? ⟨C.rb,6,none⟩=some (.pointer (some ⟨C.sb,0,none⟩))/\w'.cell? ⟨W.heap.size,0,none⟩=some (.int .u8 t.k)/\w'.cell? ⟨W.heap.size,1,none⟩=some (.int .i64 t.n)/\w'.cell? ⟨W.heap.size,2,none⟩=some (.string t.s)/\w'.cell? ⟨W.heap.size,3,none⟩=some (.slice A t.ks.length c)) (fun _:World=>True) 7 (by kernel_rfl) ?_;refine zT 0 hSS ?_;(try simp only[zQ]);refine zT 1 hSS ?_;(try simp only[zQ]);refine zT 2 hSS ?_;(try simp only[zQ]);refine zT 3 hSS ?_;(try simp only[zQ]);refine zT 4 hSS ?_;(try simp only[zQ]);refine zT 5 hSS ?_;(try simp only[zQ]);obtain⟨R,hR⟩:∃ R,zlp r1.S t=R:=⟨_,rfl⟩
   have lq:=zh (show zkf r1 R=o by rw[<-hR];exact iq.out);have hbd:Below w4.heap.size w4 w4.drew:=(Below.refl _ _).drew;have had:Calls Tryz.prog 19 [.pointer (some ⟨C.sb,0,none⟩),.agg #[.int .u8 t.k,.int .i64 t.n,.string t.s,.slice A t.ks.length c]].toArray w4.drew fun e w'=>∃ v,e=.returned v/\(v=.int .i64 R.1/\RI (C.plus W.heap.size hi) w' { r1 with S:=R.2 }/\Kpt C.n0 (C.plus W.heap.size hi).kb w4 w') :=
    ((HR4.out.later hbd).ks.undo t _ (HV.out.later (zka aC.out hbd))).mono fun e w' ⟨h1,h2,h3⟩=>by
     have hs:=RI.store (C:=C.plus W.heap.size hi) (HR4.out.later hbd) h2 h3 (by rw[gZ.out.2];exact gZ.out.1.undo _);rw[hR] at h1 hs;exact⟨_,h1,rfl,hs.1,(Kpt.of_below hbd).trans hs.2⟩
   refine zo 6 fun K hK=>?_;refine zlK (by rfl) (.func 19) [.tmp 15,.tmp 16] _ (by rfl) 19 _ zzX (by rfl) _ (by rfl) _ had ?_;rintro v6 w6 ⟨rfl,bM,bW⟩;have dV:=zh (eZ.out.trans (Kpt.less (C:=C) bW));have j0:=(dA.out.trans bW).blk (.inr (.inr ⟨Nat.le_refl _,l0⟩)) K0.out;have au:(fun w':World=>w'.cell? ⟨C.rb,6,none⟩=some (.pointer (some ⟨C.sb,0,none⟩))/\w'.cell? ⟨W.heap.size,0,none⟩=some (.int .u8 t.k)/\w'.cell? ⟨W.heap.size,1,none⟩=some (.int .i64 t.n)/\w'.cell? ⟨W.heap.size,2,none⟩=some (.string t.s)/\w'.cell? ⟨W.heap.size,3,none⟩=some (.slice A t.ks.length c)) w6:=⟨bM.cells.1,zc j0 rfl,zc j0 rfl,zc j0 rfl,zc j0 rfl⟩
   have fI:=zh bM.less;have bH:=zh bM.below;refine hK.out _ _ ⟨au,trivial⟩ ?_;have kZ:=zh au;clear hK K had bM bW j0 au hSS;(try simp only[zQ]);have had:=zlr ⟨C.rb,0,none⟩ R.1 w6;refine zp 7 fun K hK=>?_;refine zlo (by rfl) (.func 197) [.tmp 11,.tmp 17] _ (by rfl) 197 _ zmM (by rfl) _ (by rfl) (fun v w'=>w'=w6/\R.1=0) (had.mono ?_) ?_
   ·rintro e y1 ⟨rfl,hv1⟩;rcases hv1 with⟨h0,u0,rfl⟩|⟨h0,rfl⟩
    ·exact .inl ⟨_,rfl,rfl,h0⟩
    ·refine .inr ⟨_,rfl,?_⟩;refine⟨rfl,dV.out,bH.out,?_⟩
     try rw[bE.out]
     rw[<-lq.out,show zkf r1 R=.err R.1 by unfold zkf;rw[if_pos h0]]
   rintro v12 fU ⟨rfl,h0⟩;have fK:=zh (show o=.ok { r1 with S:=R.2 } by rw[<-lq.out];unfold zkf;rw[if_neg (by simpa using h0)]);refine hK.out _ _ kZ.out ?_;clear hK K had h0;(try simp only[zQ]);refine zd ?_;go_wp2_with fail;go_end0;refine⟨dV.out,bH.out,?_⟩
   try rw[bE.out]
   rw[fK.out];exact⟨⟨_,rfl⟩,fI.out⟩
def lsR (prs:List PR) (F:Int) (g:Nat) (back:Bool) (t:T) (r:RS):Out :=
 (zkp (zkk prs F g back) (blkL back (kid t 0)) r).bind fun r=>(zkw F r).bind fun r=>zkf r (zku r.S t.s 0)
def lsO (prs:List PR) (F:Int) (g:Nat) (back:Bool) (t:T) (r:RS):Out :=
 (zkw F r).bind fun r=>(zkf r (zkv r.S ⟨t.s,3,0⟩ 0)).bind (lsR prs F g back t)
theorem zzz {G:List PR->T->Prop} {g:Nat} (hS:IStC G g) {C:RC} (hC:C.Ok) {W:World} {r:RS} (h:RI C W r) (t:T) (v:Value) (back:Bool) (hv:NV C.w Any t v) (hk0:t.k=55) (hk:t.ks.length=1) (hG1:∀ u∈(kid t 0).ks,G C.p.prs u)
  (aA:lsO C.p.prs C.F g back t r ≠ .gas) :
  Calls Tryz.prog 157 #[.pointer (some ⟨C.rb,0,none⟩),v,.bool back] W (RunP C W (lsO C.p.prs C.F g back t r)):=by
 have HV:=zh hv;have H:=zh h;have HS:=zh hS;have nI:=zh hk;obtain⟨A,c,rfl,-,hlk,hlc,hrow⟩:=hv.open_;have ae:=zh hrow;have hb0:=zkb (Below.refl W.heap.size W) (.cells #[.int .u8 t.k,.int .i64 t.n,.string t.s,.slice A t.ks.length c] 29);obtain⟨bC,h1⟩:=h.plus hC hb0;have k0:=heap_alloc_new W (.cells #[.int .u8 t.k,.int .i64 t.n,.string t.s,.slice A t.ks.length c] 29);obtain⟨x0,x1,x2,x3⟩:=box4 k0;have bL:=zh (Kpt.of_below (n0:=C.n0) (kb:=C.kb) hb0);obtain⟨w3,hw3⟩:∃ x,W.alloc (.cells #[.int .u8 t.k,.int .i64 t.n,.string t.s,.slice A t.ks.length c] 29)=x:=⟨_,rfl⟩
 rw[hw3] at bC h1 k0 x0 x1 x2 x3 bL;have l0:=zki k0;have K0:=zh k0;obtain⟨hi,hhi⟩:∃ x,w3.heap.size=x:=⟨_,rfl⟩
 rw[hhi] at bC h1 l0;have nO:=zh bC;have gX:=zh (zmn bC h1);obtain⟨o,ho⟩:∃ o,lsO C.p.prs C.F g back t r=o:=⟨_,rfl⟩
 have bE:=zh ho;have HO:=zh (show(zkw C.F r).bind (fun r=>(zkf r (zkv r.S ⟨t.s,3,0⟩ 0)).bind (lsR C.p.prs C.F g back t))=o from ho);rw[ho] at aA ⊢;have cz:=zh aA;rw[hk0] at hw3;have hw3':=hw3;clear hv hb0 bC h1 k0 h hk ho aA hrow hS hlk;have HKK:=zh hk0;rw[hk0] at x0;rw[hk0];clear hk0;go_enter Tryz.func157,Tryz.ntmps157;go_wp2_with fail;refine gX.out.mono ?_;rintro e w4 ⟨hk4,hb4,ed⟩;have eZ:=zh (bL.out.trans (Kpt.less (C:=C) hk4));have aC:=zh (show Below C.w.heap.size C.w w4 from hb4);have aZ:match zkw C.F r with
  | .gas=>True
  | .err x=>e=zl2 x
  | .ok r=>(∃ u,e=.returned u)/\RI (C.plus W.heap.size hi) w4 r:=ed
 have dA:=zh hk4;clear x0 x1 x2 x3 gX hk4 hb4 ed hw3 hw3'
 cases hy:zkw C.F r with
 | gas=>exact absurd hy (zkz _ _).1
 | err x =>
  rw[hy] at aZ;subst aZ;refine⟨rfl,eZ.out,aC.out,?_⟩
  try rw[bE.out]
  rw[<-HO.out,hy];rfl
 | ok r1 =>
  rw[hy] at aZ;obtain⟨⟨u3,rfl⟩,hr1⟩:=aZ;have HR4:=zh hr1;have iq:=zh (show(zkf r1 (zkv r1.S ⟨t.s,3,0⟩ 0)).bind (lsR C.p.prs C.F g back t)=o by rw[<-HO.out,hy];rfl);have gZ:=zh (show FB r.n r1.S/\r1.n=r.n+1 by obtain⟨rfl,-⟩:=zky hy;exact⟨H.out.fb,rfl⟩);have j0:=dA.out.blk (.inr (.inr ⟨Nat.le_refl _,l0⟩)) K0.out;have hSS:(fun w':World=>w'.cell? ⟨C.rb,6,none⟩=some (.pointer (some ⟨C.sb,0,none⟩))/\w'.cell? ⟨W.heap.size,2,none⟩=some (.string t.s)) w4.drew/\(fun _:World=>True) w4.drew:=⟨⟨hr1.cells.1,zc j0 rfl⟩,trivial⟩
  clear hr1 hy j0;go_upto_region 14 with fail;refine zkc (fun w':World=>w'.cell? ⟨C.rb,6,none⟩=some (.pointer (some ⟨C.sb,0,none⟩))/\w'.cell? ⟨W.heap.size,2,none⟩=some (.string t.s)) (fun _:World=>True) 9 (by kernel_rfl) ?_;refine zT 0 hSS ?_;(try simp only[zQ]);refine zT 1 hSS ?_;(try simp only[zQ]);refine zT 2 hSS ?_;(try simp only[zQ]);refine zT 3 hSS ?_;(try simp only[zQ]);refine zT 4 hSS ?_;(try simp only[zQ]);refine zT 5 hSS ?_;(try simp only[zQ]);refine zT 6 hSS ?_;(try simp only[zQ]);refine zT 7 hSS ?_;(try simp only[zQ]);obtain⟨R,hR⟩:∃ R,zkv r1.S ⟨t.s,3,0⟩ 0=R:=⟨_,rfl⟩
  have HRR:=zh hR;have bT:=gZ.out.1.cur;have kr:=H.out.n;have hbd:Below w4.heap.size w4 w4.drew:=(Below.refl _ _).drew;have had:Calls Tryz.prog 185 [.pointer (some ⟨C.sb,0,none⟩),.agg #[.string t.s,.int .u8 3,.int .i64 0],.int .i64 0].toArray w4.drew fun e w'=>∃ v,e=.returned v/\(v=.int .i64 R.1/\RI (C.plus W.heap.size hi) w' { r1 with S:=R.2 }/\Kpt C.n0 (C.plus W.heap.size hi).kb w4 w') :=
   ((HR4.out.later hbd).ks.open_ ⟨t.s,3,0⟩ (by obtain⟨_,_,_,hf,-⟩:=HV.out.open_;exact⟨hf.2.2,⟨by simp only;omega,by simp only;omega⟩,⟨by simp only;omega,by simp only;omega⟩⟩) 0 zero_I64 (by omega)).mono fun e w' ⟨h1,h2,h3⟩=>by
    have hs:=RI.store (C:=C.plus W.heap.size hi) (HR4.out.later hbd) (hR▸h2) h3 (by rw[gZ.out.2,<-hR];exact gZ.out.1.open_ _ _);exact⟨_,h1,by rw[hR],hs.1,(Kpt.of_below hbd).trans hs.2⟩
  refine zo 8 fun K hK=>?_;refine zlK (by rfl) (.func 185) [.tmp 53,.tmp 56,.const (.int .i64 0)] _ (by rfl) 185 _ zv3 (by rfl) _ (by rfl) _ had ?_;rintro v6 w6 ⟨rfl,bM,bW⟩;have eQ:=zh (dA.out.trans bW);have j0:=eQ.out.blk (.inr (.inr ⟨Nat.le_refl _,l0⟩)) K0.out;have fI:=zh bM;have au:(fun w':World=>w'.cell? ⟨C.rb,6,none⟩=some (.pointer (some ⟨C.sb,0,none⟩))/\w'.cell? ⟨W.heap.size,2,none⟩=some (.string t.s)) w6:=⟨bM.cells.1,zc j0 rfl⟩
  refine hK.out _ _ ⟨au,trivial⟩ ?_;have kZ:=zh au;have bH:=zh bM.below;clear hK K had bM bW j0 au hSS;(try simp only[zQ]);have dV:=zh (bL.out.trans (Kpt.less (C:=C) eQ.out));rw[hR] at iq;have had:=zlr ⟨C.rb,0,none⟩ R.1 w6;refine zp 9 fun K hK=>?_;refine zlo (by rfl) (.func 197) [.tmp 49,.tmp 57] _ (by rfl) 197 _ zmM (by rfl) _ (by rfl) (fun v w'=>w'=w6/\R.1=0) (had.mono ?_) ?_
  ·rintro e y1 ⟨rfl,hv1⟩;rcases hv1 with⟨h0,u0,rfl⟩|⟨h0,rfl⟩
   ·exact .inl ⟨_,rfl,rfl,h0⟩
   ·refine .inr ⟨_,rfl,?_⟩;refine⟨rfl,dV.out,bH.out,?_⟩
    try rw[bE.out]
    rw[<-iq.out,show zkf r1 R=.err R.1 by unfold zkf;rw[if_pos h0]];rfl
  rintro v7 w7 ⟨rfl,h0⟩;have nH:=zh (show lsR C.p.prs C.F g back t { r1 with S:=R.2 }=o by rw[<-iq.out,show zkf r1 R=.ok { r1 with S:=R.2 } by unfold zkf;rw[if_neg (by simpa using h0)]];rfl);refine hK.out _ _ kZ.out ?_;clear hK K had h0;(try simp only[zQ]);refine zd ?_;obtain⟨r2,hr2⟩:∃ x,({ r1 with S:=R.2 }:RS)=x:=⟨_,rfl⟩
  rw[hr2] at fI nH;have hI:0<t.ks.length:=by have:=nI.out;omega
  have hI1:(0:Int)<(t.ks.length:Int):=by omega
  obtain⟨a,u,Au,cu,rfl,-,hu,⟨p0,p1,p2,p3⟩,hnu⟩:=ae.out.nd hI;have fD:kid t 0=u:=by unfold kid;rw[List.getD_eq_getElem?_getD,List.getElem?_eq_getElem hI];exact hu.out
  have qZ:=zh (show ∀ x∈u.ks,G C.p.prs x by rw[<-fD];exact hG1);have jI:=zh (show(runO C.p.prs C.F g back u r2).bind (fun r=>(zkw C.F r).bind fun r=>zkf r (zku r.S t.s 0))=o by rw[<-nH.out,<-fD];rfl);have hgu:runO C.p.prs C.F g back u r2 ≠ .gas:=fun e=>cz.out (by rw[<-jI.out,e];rfl);have ax:=zh (zlA HS.out nO.out fI.out u _ back hnu qZ.out hgu);have ha:a.add (0*4)=a:=by unfold Addr.add;simp
  rw[ha] at p0 p1 p2 p3;have q0:=zb bH.out p0;have q1:=zb bH.out p1;have q2:=zb bH.out p2;have q3:=zb bH.out p3;have j0:=eQ.out.blk (.inr (.inr ⟨Nat.le_refl _,l0⟩)) K0.out;have q4:=zc (i:=3) j0 rfl;clear fD hnu hu p0 p1 p2 p3 hgu ha j0 bT kr hG1;go_wp2_with fail;refine ax.out.mono ?_;rintro e w8 ⟨nT,kL,jM⟩;have lD:=zh (eQ.out.trans nT);have mf:=zh (bL.out.trans (Kpt.less (C:=C) lD.out));have jW:=zh (show Below C.w.heap.size C.w w8 from kL);have bQ:match runO C.p.prs C.F g back u r2 with
   | .gas=>True
   | .err x=>e=zl2 x
   | .ok r=>(∃ u,e=.returned u)/\RI (C.plus W.heap.size hi) w8 r:=jM
  clear q0 q1 q2 q3 q4 nT kL jM ax
  cases hx:runO C.p.prs C.F g back u r2 with
  | gas=>exact absurd (by rw[<-jI.out,hx];rfl) cz.out
  | err x =>
   rw[hx] at bQ;subst bQ;refine⟨rfl,mf.out,jW.out,?_⟩
   try rw[bE.out]
   rw[<-jI.out,hx];rfl
  | ok r3 =>
   rw[hx] at bQ;obtain⟨⟨u9,rfl⟩,hr3⟩:=bQ;have HST:=zh (zmn nO.out hr3);have gG:=zh (show((zkw C.F r3).bind fun r=>zkf r (zku r.S t.s 0))=o by rw[<-jI.out,hx];rfl);have lX:=zh hr3;clear hx hr3;go_wp2_with fail;refine HST.out.mono ?_;rintro e w9 ⟨aH,bJ,dx⟩;have gW:=zh (lD.out.trans aH);have iN:=zh (bL.out.trans (Kpt.less (C:=C) gW.out));have dh:=zh (show Below C.w.heap.size C.w w9 from bJ);have fA:match zkw C.F r3 with
    | .gas=>True
    | .err x=>e=zl2 x
    | .ok r=>(∃ u,e=.returned u)/\RI (C.plus W.heap.size hi) w9 r:=dx
   clear aH bJ dx HST
   cases hy:zkw C.F r3 with
   | gas=>exact absurd (by rw[<-gG.out,hy];rfl) cz.out
   | err x =>
    rw[hy] at fA;subst fA;refine⟨rfl,iN.out,dh.out,?_⟩
    try rw[bE.out]
    rw[<-gG.out,hy];rfl
   | ok r4 =>
    rw[hy] at fA;obtain⟨⟨u9,rfl⟩,hr4⟩:=fA;have qF:=zh hr4;have gY:=zh (show FB r3.n r4.S/\r4.n=r3.n+1 by obtain⟨rfl,-⟩:=zky hy;exact⟨lX.out.fb,rfl⟩);obtain⟨Rc,jP⟩:∃ R,zku r4.S t.s 0=R:=⟨_,rfl⟩
    have dN:=zh (show zkf r4 Rc=o by rw[<-gG.out,hy,<-jP];rfl);have j0:=gW.out.blk (.inr (.inr ⟨Nat.le_refl _,l0⟩)) K0.out;have hSS:(fun w':World=>w'.cell? ⟨C.rb,6,none⟩=some (.pointer (some ⟨C.sb,0,none⟩))/\w'.cell? ⟨W.heap.size,2,none⟩=some (.string t.s)) w9.drew/\(fun _:World=>True) w9.drew:=⟨⟨hr4.cells.1,zc j0 rfl⟩,trivial⟩
    clear hr4 hy j0;go_upto_region 17 with fail;refine zkc (fun w':World=>w'.cell? ⟨C.rb,6,none⟩=some (.pointer (some ⟨C.sb,0,none⟩))/\w'.cell? ⟨W.heap.size,2,none⟩=some (.string t.s)) (fun _:World=>True) 8 (by kernel_rfl) ?_;refine zT 0 hSS ?_;(try simp only[zQ]);refine zT 1 hSS ?_;(try simp only[zQ]);refine zT 2 hSS ?_;(try simp only[zQ]);refine zT 3 hSS ?_;(try simp only[zQ]);refine zT 4 hSS ?_;(try simp only[zQ]);refine zT 5 hSS ?_;(try simp only[zQ]);refine zT 6 hSS ?_;(try simp only[zQ]);have pX:Below w9.heap.size w9 w9.drew:=(Below.refl _ _).drew;have had:Calls Tryz.prog 186 [.pointer (some ⟨C.sb,0,none⟩),.string t.s,.int .i64 0].toArray w9.drew fun e w'=>∃ v,e=.returned v/\(v=.int .i64 Rc.1/\RI (C.plus W.heap.size hi) w' { r4 with S:=Rc.2 }/\Kpt C.n0 (C.plus W.heap.size hi).kb w9 w') :=
     ((qF.out.later pX).ks.close t.s 0).mono fun e w' ⟨h1,h2,h3⟩=>by
      have hs:=RI.store (C:=C.plus W.heap.size hi) (qF.out.later pX) (jP▸h2) h3 (by rw[gY.out.2,<-jP];exact gY.out.1.close_ _ _);exact⟨_,h1,by rw[jP],hs.1,(Kpt.of_below pX).trans hs.2⟩
    refine zo 7 fun K hK=>?_;refine zlK (by rfl) (.func 186) [.tmp 72,.tmp 74,.const (.int .i64 0)] _ (by rfl) 186 _ ztK (by rfl) _ (by rfl) _ had ?_;rintro v11 aJ ⟨rfl,fw,gN⟩;have fq:=zh (gW.out.trans gN);have j0:=fq.out.blk (.inr (.inr ⟨Nat.le_refl _,l0⟩)) K0.out;have jH:=zh fw;have au:(fun w':World=>w'.cell? ⟨C.rb,6,none⟩=some (.pointer (some ⟨C.sb,0,none⟩))/\w'.cell? ⟨W.heap.size,2,none⟩=some (.string t.s)) aJ:=⟨fw.cells.1,zc j0 rfl⟩
    refine hK.out _ _ ⟨au,trivial⟩ ?_;have kZ:=zh au;have fT:=zh fw.below;clear hK K had fw gN j0 au hSS;(try simp only[zQ]);have iO:=zh (bL.out.trans (Kpt.less (C:=C) fq.out));have had:=zlr ⟨C.rb,0,none⟩ Rc.1 aJ;refine zp 8 fun K hK=>?_;refine zlo (by rfl) (.func 197) [.tmp 68,.tmp 75] _ (by rfl) 197 _ zmM (by rfl) _ (by rfl) (fun v w'=>w'=aJ/\Rc.1=0) (had.mono ?_) ?_
    ·rintro e y1 ⟨rfl,hv1⟩;rcases hv1 with⟨h0,u0,rfl⟩|⟨h0,rfl⟩
     ·exact .inl ⟨_,rfl,rfl,h0⟩
     ·refine .inr ⟨_,rfl,?_⟩;refine⟨rfl,iO.out,fT.out,?_⟩
      try rw[bE.out]
      rw[<-dN.out,show zkf r4 Rc=.err Rc.1 by unfold zkf;rw[if_pos h0]]
    rintro v12 fU ⟨rfl,h0⟩;have fK:=zh (show o=.ok { r4 with S:=Rc.2 } by rw[<-dN.out];unfold zkf;rw[if_neg (by simpa using h0)]);refine hK.out _ _ kZ.out ?_;clear hK K had h0;(try simp only[zQ]);refine zd ?_;have lh:=zh jH.out.less;go_wp2_with fail;go_end0;refine⟨iO.out,fT.out,?_⟩
    try rw[bE.out]
    rw[fK.out];exact⟨⟨_,rfl⟩,lh.out⟩
end Go.Proofs.YtckhofdinldhpaaGreat
namespace Go.Proofs.YtckhofdinldhpaaGreat
open Go.RowKit
mutual
/-- ast.limited: what is left of the count,or none. -/
def lim:T->Nat->Nat->Option Nat
 | .nd _ _ _ ks,d,l=>if d=0\/l=0 then none else lims ks (d-1) (l-1)
def lims:List T->Nat->Nat->Option Nat
 | [],_,l=>some l
 | t::ts,d,l=>match lim t d l with
  | none=>none
  | some l'=>lims ts d l'
end
theorem zpu (ts us:List T) (d:Nat):∀ l,lims (ts++us) d l=(lims ts d l).bind fun r=>lims us d r:=by
 induction ts with
 | nil=>intro l;simp[lims]
 | cons t ts ih =>
  intro l;simp only[List.cons_append,lims]
  cases lim t d l with
  | none=>rfl
  | some r=>exact ih r
theorem zxS (t:T) (d l:Nat):lims [t] d l=lim t d l:=by
 simp only[lims]
 cases lim t d l<;>rfl
theorem zvF {ks:List T} {d l r j:Nat} (hj:j<ks.length) (h:lims (ks.take j) d l=some r):lims (ks.take (j+1)) d l=lim ks[j] d r:=by
 rw[List.take_succ_eq_append_getElem hj,zpu,h];exact zxS _ _ _
theorem zvG {ks:List T} {d l j:Nat} (h:lims (ks.take j) d l=none):lims ks d l=none:=by
 rw[<-List.take_append_drop j ks,zpu,h];rfl
theorem zKQ (t:T):∀ d l r,lim t d l=some r->r<=l:=by
 induction t using T.ind with
 | _ k n s ks ih =>
 intro d l r h;rw[lim] at h
 split at h
 ·cases h
 ·have key:∀ (us:List T),(∀ t∈us,∀ d l r,lim t d l=some r->r<=l)->∀ l r d,lims us d l=some r->r<=l:=by
   intro us
   induction us with
   | nil=>intro _ l r d h;simp[lims] at h;omega
   | cons t us ih2 =>
    intro hu l r d h;simp only[lims] at h
    cases h1:lim t d l with
    | none=>rw[h1] at h;cases h
    | some r1 =>
     rw[h1] at h;have:=hu t (by simp) d l r1 h1;have:=ih2 (fun t ht=>hu t (by simp[ht])) r1 r d h;omega
  have:=key ks ih _ _ _ h;omega
def LimE (w:World) (b:Nat) (o:Option Nat) (e:Ending) (w':World):Prop :=
 e=.returned (.bool o.isSome)/\∃ l':Nat,w'.heap[b]?=some (.cells #[.int .i64 (l':Int)] 3 (0,0))/\(∀ r,o=some r->l'=r)/\w.grownBy w' (some b)
theorem znQ {a b c:World} {row:Option Nat} (h1:a.grownBy b row) (h2:b.grownBy c row):a.grownBy c row :=
 ⟨h2.os.trans h1.os,h2.tape.trans h1.tape,h2.output.trans h1.output,Nat.le_trans h1.size h2.size,fun i hi hne=>(h2.block i (Nat.lt_of_lt_of_le hi h1.size) hne).trans (h1.block i hi hne)⟩
theorem zmL {w:World} (o:Obj) (row:Option Nat):w.grownBy (w.alloc o) row :=
 let h:=(Below.refl w.heap.size w).alloc (Nat.le_refl _) o
 ⟨h.os,h.tape,h.output,h.size,fun b hb _=>h.block b hb⟩
theorem zkX.grown {w w':World} {S:Nat->Prop} {A:Option Addr} {ts:List T} {b:Nat} (h:zkX w S A ts) (hg:w.grownBy w' (some b)) (hb:¬ S b):zkX w' S A ts :=
 h.keep (fun _ h _=>h) fun i hi hlt=>hg.block i hlt fun e=>by injection e with e;subst e;exact hb hi
theorem zsJ (t:T):∀ (d l:Nat) (S:Nat->Prop) (v:Value) (w:World) (b:Nat),NV w S t v->¬ S b->d<=80->l<=2000->w.heap[b]?=some (.cells #[.int .i64 (l:Int)] 3 (0,0)) ->
  Calls Tryz.prog 90 #[v,.int .i64 (d:Int),.pointer (some ⟨b,0,none⟩)] w (LimE w b (lim t d l)):=by
 induction t using T.ind with
 | _ k n s ks ih =>
 intro d l S v w b hv hSb hd hl hbx;obtain⟨A,c,rfl,hf,hlk,hlc,hrow⟩:=hv.open_;simp only[T.k_nd,T.n_nd,T.s_nd,T.ks_nd] at *
 have ak:=zkx hlk;have IH:=zh ih;have ae:=zh hrow;have jf:=zh hSb;have aO:=zh hbx;have hbl:=zki hbx;have c0:=zke (zc (i:=0) (u:=.int .i64 (l:Int)) hbx rfl);have f0:∀ o:Obj,(w.alloc o).frozen? ⟨b,0,none⟩=false:=fun o=>by
  have:(w.alloc o).heap[b]?=some (.cells #[.int .i64 (l:Int)] 3 (0,0)):=(Below.heap_alloc w o b hbl).trans hbx;exact zf this
 clear hv ih hrow hSb hf hlk hbx;have hne:¬ b=w.heap.size:=by omega
 have hne':¬ w.heap.size=b:=by omega
 by_cases hd0:d=0
 ·subst hd0;have HX:=zh (show lim (.nd k n s ks) 0 l=none by rw[lim];simp);go_enter Tryz.func90,Tryz.ntmps90;go_wp2_with fail;go_ret;rw[HX.out];exact⟨rfl,l,(Below.heap_alloc w _ b hbl).trans aO.out,(fun r h=>by cases h),zmL _ _⟩
 by_cases hl0:l=0
 ·subst hl0;have HX:=zh (show lim (.nd k n s ks) d 0=none by rw[lim];simp);have fd:((d:Int)==0)=false:=by simpa using hd0
  go_enter Tryz.func90,Tryz.ntmps90;go_wp2_with fail;go_ret;rw[HX.out];exact⟨rfl,0,(Below.heap_alloc w _ b hbl).trans aO.out,(fun r h=>by cases h),zmL _ _⟩
 obtain⟨d',rfl⟩:∃ d',d=d'+1:=⟨d-1,by omega⟩
 obtain⟨l',rfl⟩:∃ l',l=l'+1:=⟨l-1,by omega⟩
 have HX:=zh (show lim (.nd k n s ks) (d'+1) (l'+1)=lims ks d' l' by rw[lim,if_neg (by omega)];simp);rw[show((d'+1:Nat):Int)=(d':Int)+1 from rfl];have fd:((d':Int)+1==0)=false:=by simp;omega
 have fl:((l':Int)+1==0)=false:=by simp;omega
 clear hd0 hl0;have hb1:(w.setCell ⟨b,0,none⟩ (.int .i64 (l':Int))).heap[b]?=some (.cells #[.int .i64 (l':Int)] 3 (0,0)):=by
  have h1:=heap_setCell_same w b 0 _ 3 (.int .i64 (l':Int)) aO.out;simpa using h1
 have hz1:(w.setCell ⟨b,0,none⟩ (.int .i64 (l':Int))).heap.size=w.heap.size:=by simp[World.setCell]
 obtain⟨W0,hW0⟩:∃ W0,(w.setCell ⟨b,0,none⟩ (.int .i64 (l':Int))).alloc (.cells #[.int .u8 k,.int .i64 n,.string s,.slice A ks.length c] 29)=W0:=⟨_,rfl⟩
 have H0:W0.heap[b]?=some (.cells #[.int .i64 (l':Int)] 3 (0,0)):=by
  rw[<-hW0,Below.heap_alloc _ _ b (by rw[hz1];exact hbl)];exact hb1
 have A0:W0.heap[w.heap.size]?=some (.cells #[.int .u8 k,.int .i64 n,.string s,.slice A ks.length c] 29 (0,0)):=by
  rw[<-hW0,<-hz1];exact heap_alloc_new _ _
 have G0:w.grownBy W0 (some b):=by
  rw[<-hW0];refine znQ (zlu (zlZ w (some b)) (p:=⟨b,0,none⟩) rfl _) (zmL _ _)
 have HH:=zh (And.intro H0 (And.intro A0 G0));have HW0:=zh hW0;clear H0 G0 A0 hb1 hz1 hW0;go_enter Tryz.func90,Tryz.ntmps90;go_wp2_with fail;rw[HW0.out];clear c0 f0
 go_loopw [25] (fun i wr=>∃ (j lc:Nat),j<=ks.length/\i=.int .i64 j/\lc<=2000/\Hid (lims (ks.take j) d' l'=some lc)/\wr.heap[b]?=some (.cells #[.int .i64 (lc:Int)] 3 (0,0))/\wr.heap[w.heap.size]?=some (.cells #[.int .u8 k,.int .i64 n,.string s,.slice A ks.length c] 29 (0,0))/\w.grownBy wr (some b)) (fun i _=>ks.length-(intOf i).toNat)
 case atStart=>exact⟨0,l',Nat.zero_le _,rfl,by omega,zh (by simp[lims]),HH.out.1,HH.out.2.1,HH.out.2.2⟩
 case round =>
  obtain⟨j,lc,hj,rfl,jA,HLI,hbx,hax,hg⟩:=hrel;clear HH HW0;by_cases hlt:j<ks.length
  ·obtain⟨a,t,A1,c1,rfl,_,Ht,⟨q0,q1,q2,q3⟩,hn⟩:=(ae.out.grown hg jf.out).nd hlt;have hI:=IH.out ks[j] (List.getElem_mem hlt);rw[Ht.out] at hI;have mP:=zki hbx;have hal:∀ o:Obj,(wr.alloc o).heap[b]?=some (.cells #[.int .i64 (lc:Int)] 3 (0,0)):=fun o=>(Below.heap_alloc wr o b mP).trans hbx;have HI1:=zh (hI d' lc S _ (wr.alloc (.cells #[.int .u8 t.k,.int .i64 t.n,.string t.s,.slice A1 t.ks.length c1] 29)) b (hn.later ((Below.refl _ _).alloc (Nat.le_refl _) _)) jf.out (by omega) jA (hal _));have HT:=zh (show lims (ks.take (j+1)) d' l'=lim t d' lc by rw[zvF hlt HLI.out,Ht.out]);have HG:=zh (znQ hg (zmL (.cells #[.int .u8 t.k,.int .i64 t.n,.string t.s,.slice A1 t.ks.length c1] 29) _))
   have HAX:=zh (show ∀ o:Obj,(wr.alloc o).heap[w.heap.size]?=some (.cells #[.int .u8 k,.int .i64 n,.string s,.slice (some a) ks.length c] 29 (0,0)) from fun o=>(Below.heap_alloc wr o _ (zki hax)).trans hax);clear hI hn hbx hax hal;go_wp2_with fail;refine HI1.out.mono ?_;rintro e w1 ⟨rfl,l1,hb1,hl1,hg1⟩;have vJ:=zh (znQ HG.out hg1);have HA1:=zh ((hg1.block _ (zki (HAX.out _)) (fun e=>hne' (by injection e))).trans (HAX.out _));have HB1:=zh hb1;clear hb1 hg1
   cases ho:lim t d' lc with
   | none =>
    have bf:=zh (show lims ks d' l'=none from zvG (j:=j+1) (by rw[HT.out,ho]));go_wp2_with fail;go_ret;rw[HX.out,bf.out];exact⟨rfl,l1,HB1.out,(fun r h=>by cases h),vJ.out⟩
   | some r =>
    have hr1:=hl1 r ho;subst hr1;have hle:l1<=2000:=by have:=zKQ t d' lc l1 ho;omega
    have HT2:=zh (show lims (ks.take (j+1)) d' l'=some l1 by rw[HT.out,ho]);clear hl1 ho;go_wp2_with fail
    go_roundw
    case rel=>exact⟨j+1,l1,by omega,by go_num,hle,HT2,HB1.out,HA1.out,vJ.out⟩
    case measure=>simp[intOf];omega
  ·obtain rfl:j=ks.length:=by omega
   have HL2:=zh (show lims ks d' l'=some lc by have:=HLI.out;rw[List.take_of_length_le (by omega)] at this;exact this);go_wp2_with fail;go_ret;rw[HX.out,HL2.out];exact⟨rfl,lc,hbx,(fun r h=>by cases h;rfl),hg⟩
def zk1 (t:T):Bool:=(lim t 80 2000).isSome&&isB t
theorem zql (t:T) (v:Value) (w:World) (hv:NV w Any t v):Calls Tryz.prog 52 #[v] w fun e w'=>e=.returned (.bool (zk1 t))/\Below w.heap.size w w':=by
 have HV:=zh hv;have HX:=zh (show zk1 t=((lim t 80 2000).isSome&&isB t) from rfl);obtain⟨A,c,rfl,hf,hlk,hlc,hrow⟩:=hv.open_;clear hf hlk hrow hv hlc;generalize t.k=k,t.n=n,t.s=s,t.ks.length=l at *
 have nz:=zh (show NV w (fun b=>b<w.heap.size) t (nv k n s A l c) from HV.out.keep (fun _ _ h=>h) fun _ _ _=>rfl);have hb2:∀ o o',Below w.heap.size w ((w.alloc o).alloc o'):=fun o o'=>((Below.refl _ _).alloc (Nat.le_refl _) _).alloc (by simp) _;have HB2:=zh hb2;have aO:=zh (show ∀ o:Obj,((w.alloc o).alloc (.cells #[.int .i64 2000] 3)).heap[w.heap.size+1]?=some (.cells #[.int .i64 ((2000:Nat):Int)] 3 (0,0)) from fun o=>by
  have:=heap_alloc_new (w.alloc o) (.cells #[.int .i64 2000] 3);simpa using this)
 clear hb2;go_enter Tryz.func52,Tryz.ntmps52;go_wp2_with fail;refine(zsJ t 80 2000 (fun b=>b<w.heap.size) _ _ (w.heap.size+1) (nz.out.later (HB2.out _ _)) (fun h=>by have h':w.heap.size+1<w.heap.size:=h;omega) (by omega) (by omega) (aO.out _)).mono ?_;rintro e w1 ⟨rfl,l1,hb1,_,hg1⟩;have q1:Below w.heap.size w w1:=by
  refine(HB2.out (.cells #[.int .u8 k,.int .i64 n,.string s,.slice A l c] 29) (.cells #[.int .i64 2000] 3)).grown hg1 (by simp;omega) ?_;intro g e;injection e with e;omega
 have hc:∀ i,w1.cell? ⟨w.heap.size,i,none⟩=((w.alloc (.cells #[.int .u8 k,.int .i64 n,.string s,.slice A l c] 29)).alloc (.cells #[.int .i64 2000] 3)).cell? ⟨w.heap.size,i,none⟩:=fun i =>
  World.cell?_of_block (a:=⟨w.heap.size,i,none⟩) (hg1.block _ (by simp;omega) (fun e=>by simp at e))
 have x0:w1.cell? ⟨w.heap.size,0,none⟩=some (.int .u8 k):=(hc 0).trans (by simp);have x1:w1.cell? ⟨w.heap.size,1,none⟩=some (.int .i64 n):=(hc 1).trans (by simp);have x2:w1.cell? ⟨w.heap.size,2,none⟩=some (.string s):=(hc 2).trans (by simp);have x3:w1.cell? ⟨w.heap.size,3,none⟩=some (.slice A l c):=(hc 3).trans (by simp);have ny:=HX.out;clear hc hg1 hb1
 cases ho:(lim t 80 2000).isSome
 ·rw[ho] at ny;go_wp2_with fail;go_ret;exact⟨by rw[ny];rfl,q1⟩
 ·rw[ho] at ny;have bf:=zh ny;clear ny;go_wp2_with fail;refine(znW t _ _ (HV.out.later q1)).mono ?_;rintro e w2 ⟨rfl,ag⟩;go_wp2_with fail;go_ret;exact⟨by rw[bf.out];simp,q1.trans (ag.mono q1.size)⟩
def zmV (v:VD):Bool:=zmU v.s&&(if v.k=1\/v.k=3 then v.n==0 else if v.k=2 then decide (1<=v.n/\v.n<=16) else false)
theorem zyJ {vs:List VD} {f:VD->Bool} {j:Nat} (hj:j<vs.length) (h:(vs.take j).all f=true):(vs.take (j+1)).all f=f vs[j]:=by
 rw[List.take_succ_eq_append_getElem hj,List.all_append,h];simp
theorem zyK {vs:List VD} {f:VD->Bool} {j:Nat} (hj:j<vs.length) (h:f vs[j]=false):vs.all f=false:=by
 simp only[List.all_eq_false];exact⟨vs[j],List.getElem_mem hj,by simp[h]⟩
theorem zoM (vs:List VD) (A:Option Addr) (c:Nat) (S:Nat->Prop) (w:World) (hrow:RowV w S A vs) (hl:vs.length<=LV) (_hlc:vs.length<=c) :
  Calls Tryz.prog 50 #[.slice A vs.length c] w fun e w'=>e=.returned (.bool (vs.all zmV))/\Below w.heap.size w w':=by
 have hl':=zlE hl;have ae:=zh hrow;clear hrow hl;go_enter Tryz.func50,Tryz.ntmps50;go_wp2_with fail
 go_loopw [7] (fun i wr=>∃ j:Nat,j<=vs.length/\i=.int .i64 j/\Below w.heap.size w wr/\Hid ((vs.take j).all zmV=true)) (fun i _=>vs.length-(intOf i).toNat)
 case atStart=>exact⟨0,Nat.zero_le _,rfl,Below.refl _ _,zh (by simp)⟩
 case round =>
  obtain⟨j,hj,rfl,hb,HA⟩:=hrel;by_cases hlt:j<vs.length
  ·obtain⟨a,v,rfl,_,Hv,⟨q0,q1,q2⟩,hf⟩:=(ae.out.later hb).nd hlt;have HT:=zh (show(vs.take (j+1)).all zmV=zmV v by rw[zyJ hlt HA.out,Hv.out]);have HN:=zh (show zmV v=false->vs.all zmV=false from fun h=>zyK hlt (by rw[Hv.out];exact h));have HD:=zh (show zmV v=(zmU v.s&&(if v.k=1\/v.k=3 then v.n==0 else if v.k=2 then decide (1<=v.n/\v.n<=16) else false)) from rfl);obtain⟨s,hs⟩:∃ s,v.s=s:=⟨_,rfl⟩
   obtain⟨k,hk⟩:∃ k,v.k=k:=⟨_,rfl⟩
   obtain⟨n,hn⟩:∃ n,v.n=n:=⟨_,rfl⟩
   have dE:=HD.out;rw[hs,hk,hn] at dE;rw[hs] at q0;rw[hk] at q1;rw[hn] at q2;clear HD hf hs hk hn;have HD:=zh dE;clear dE;go_wp2_with fail;refine(zrc s _).mono ?_;rintro e w1 ⟨rfl,aa⟩;have q1':Below w.heap.size w w1:=(hb.alloc hb.size _).trans (aa.mono (by have:=hb.size;simp;omega));have x1:w1.cell? ⟨wr.heap.size,1,none⟩=some (.int .u8 k):=zb aa (by simp);have x2:w1.cell? ⟨wr.heap.size,2,none⟩=some (.int .i64 n):=zb aa (by simp);have dE:=HD.out;clear aa
   cases hnm:zmU s
   ·rw[hnm] at dE;have HR:=zh (HN.out (by rw[dE];rfl));clear dE;go_wp2_with fail;go_ret;exact⟨by rw[HR.out];rfl,q1'⟩
   rw[hnm,Bool.true_and] at dE;by_cases qg:k=1\/k=3
   ·rw[if_pos qg] at dE;by_cases hn0:n=0
    ·subst hn0;have HG:=zh (show(vs.take (j+1)).all zmV=true by rw[HT.out,dE];rfl);clear dE;rcases qg with rfl|rfl
     ·go_wp2_with fail
      go_roundw
      case rel=>exact⟨j+1,by omega,by go_num,q1',HG⟩
      case measure=>simp[intOf];omega
     ·go_wp2_with fail
      go_roundw
      case rel=>exact⟨j+1,by omega,by go_num,q1',HG⟩
      case measure=>simp[intOf];omega
    ·have fn:(n != 0)=true:=by simpa using hn0
     have HR:=zh (HN.out (by rw[dE];simpa using hn0));clear dE;rcases qg with rfl|rfl
     ·go_wp2_with fail;go_ret;exact⟨by rw[HR.out];rfl,q1'⟩
     ·go_wp2_with fail;go_ret;exact⟨by rw[HR.out];rfl,q1'⟩
   ·rw[if_neg qg] at dE;have f1:(k==1)=false:=by simp;omega
    have f3:(k==3)=false:=by simp;omega
    by_cases h2:k=2
    ·subst h2;rw[if_pos rfl] at dE;by_cases hl1:n<1
     ·have HR:=zh (HN.out (by rw[dE];simp;omega));clear dE;go_wp2_with fail;go_ret;exact⟨by rw[HR.out];rfl,q1'⟩
     ·by_cases hg16:16<n
      ·have HR:=zh (HN.out (by rw[dE];simp;omega));have pG:1<=n:=by omega
       clear dE hl1;go_wp2_with fail;go_ret;exact⟨by rw[HR.out];rfl,q1'⟩
      ·have HG:=zh (show(vs.take (j+1)).all zmV=true by rw[HT.out,dE];simp;omega);have pG:1<=n:=by omega
       have hg16':n<=16:=by omega
       clear dE hl1 hg16;go_wp2_with fail
       go_roundw
       case rel=>exact⟨j+1,by omega,by go_num,q1',HG⟩
       case measure=>simp[intOf];omega
    ·rw[if_neg h2] at dE;have f2:(k==2)=false:=by simpa using h2
     have HR:=zh (HN.out dE);clear dE;go_wp2_with fail;go_ret;exact⟨by rw[HR.out];rfl,q1'⟩
  ·obtain rfl:j=vs.length:=by omega
   have HR:=zh (show vs.all zmV=true by have:=HA.out;rw[List.take_of_length_le (by omega)] at this;exact this);go_wp2_with fail;go_ret;exact⟨by rw[HR.out];rfl,hb⟩
def zoQ (r:PR):Bool:=zmU r.s&&decide (r.ps.length<=8)&&r.ps.all zmV&&zk1 r.b
def zkE (p:PG):Bool:=decide (p.vs.length<=32)&&decide (p.prs.length<=64)&&p.vs.all zmV&&p.prs.all zoQ&&zk1 p.m
theorem zry {vs:List PR} {f:PR->Bool} {j:Nat} (hj:j<vs.length) (h:(vs.take j).all f=true):(vs.take (j+1)).all f=f vs[j]:=by
 rw[List.take_succ_eq_append_getElem hj,List.all_append,h];simp
theorem zrz {vs:List PR} {f:PR->Bool} {j:Nat} (hj:j<vs.length) (h:f vs[j]=false):vs.all f=false:=by
 simp only[List.all_eq_false];exact⟨vs[j],List.getElem_mem hj,by simp[h]⟩
theorem zmD (p:PG) (S:Nat->Prop) (v:Value) (w:World) (hv:PV w S p v):Calls Tryz.prog 17 #[v] w fun e w'=>e=.returned (.bool (zkE p))/\Below w.heap.size w w':=by
 obtain⟨A1,c1,A2,c2,A3,c3,rfl,hr⟩:=hv;have HR:=zh hr;have hv1:=zlE hr.lv;have hv2:=zlE hr.lp;have HX:=zh (show zkE p=(decide (p.vs.length<=32)&&decide (p.prs.length<=64)&&p.vs.all zmV&&p.prs.all zoQ&&zk1 p.m) from rfl);have jA:=hr.lpc;obtain⟨L1,hL1⟩:∃ L,p.vs.length=L:=⟨_,rfl⟩
 obtain⟨L2,hL2⟩:∃ L,p.prs.length=L:=⟨_,rfl⟩
 obtain⟨k,hk⟩:∃ k,p.m.k=k:=⟨_,rfl⟩
 obtain⟨n,hn⟩:∃ n,p.m.n=n:=⟨_,rfl⟩
 obtain⟨s,hs⟩:∃ s,p.m.s=s:=⟨_,rfl⟩
 obtain⟨l3,hl3⟩:∃ l,p.m.ks.length=l:=⟨_,rfl⟩
 have jU:=zh hL1;have HL2:=zh hL2;have hm:=hr.main;rw[hk,hn,hs,hl3] at hm;have HM:=zh hm;have hx:=HX.out;rw[hL1,hL2] at hx;rw[hL1] at hv1;rw[hL2] at hv2 jA;rw[hL1,hL2,hk,hn,hs,hl3];clear hr hm HX hL1 hL2 hk hn hs hl3;have HX:=zh hx;clear hx;have hb0:∀ o,Below w.heap.size w (w.alloc o):=fun o=>(Below.refl _ _).alloc (Nat.le_refl _) _;have HB0:=zh hb0;clear hb0;have rE:=zh (show ∀ w',Below w.heap.size w w'->Calls Tryz.prog 50 #[.slice A1 L1 c1] w' fun e w''=>e=.returned (.bool (p.vs.all zmV))/\Below w'.heap.size w' w'' from fun w' h=>by
  have:=zoM p.vs A1 c1 S w' (HR.out.vars.later h) HR.out.lv HR.out.lvc;rw[jU.out] at this;exact this)
 by_cases h32:32<L1
 ·have HF:=zh (show zkE p=false by rw[HX.out];simp;intro h;omega);have h32':(32:Int)<(L1:Int):=by omega
  go_enter Tryz.func17,Tryz.ntmps17;go_wp2_with fail;go_ret;exact⟨by rw[HF.out];rfl,HB0.out _⟩
 by_cases h64:64<L2
 ·have HF:=zh (show zkE p=false by rw[HX.out];simp;intro _ h;omega);have h32':(L1:Int)<=32:=by omega
  have h64':(64:Int)<(L2:Int):=by omega
  clear h32;go_enter Tryz.func17,Tryz.ntmps17;go_wp2_with fail;go_ret;exact⟨by rw[HF.out];rfl,HB0.out _⟩
 have h32':(L1:Int)<=32:=by omega
 have h64':(L2:Int)<=64:=by omega
 have hx:=HX.out;have e1:L1<=32:=by omega
 have e2:L2<=64:=by omega
 rw[decide_eq_true e1,decide_eq_true e2] at hx;simp only[Bool.true_and] at hx;clear HX h32 h64 e1 e2;have HX:=zh hx;clear hx;go_enter Tryz.func17,Tryz.ntmps17;go_wp2_with fail;refine(rE.out _ (HB0.out _)).mono ?_;rintro e w1 ⟨rfl,aa⟩;have q1:Below w.heap.size w w1:=(HB0.out _).trans (aa.mono (by simp));have hbx:w1.heap[w.heap.size]?=some (.cells #[.slice A1 L1 c1,.slice A2 L2 c2,.int .u8 k,.int .i64 n,.string s,.slice A3 l3 c3] 35 (0,0)):=(aa.block _ (by simp)).trans (heap_alloc_new w _);have x1:w1.cell? ⟨w.heap.size,1,none⟩=some (.slice A2 L2 c2):=zc hbx rfl;have hx:=HX.out;clear aa rE
 cases hd:p.vs.all zmV
 ·rw[hd] at hx;have HF:=zh (show zkE p=false by rw[hx];rfl);clear hx;go_wp2_with fail;go_ret;exact⟨by rw[HF.out];rfl,q1⟩
 rw[hd,Bool.true_and] at hx;have bf:=zh hx;have aO:=zh hbx;clear hx HX hd hbx;go_wp2_with fail
 go_loopw [24] (fun i wr=>∃ j:Nat,j<=L2/\i=.int .i64 j/\Below w1.heap.size w1 wr/\Hid ((p.prs.take j).all zoQ=true)) (fun i _=>L2-(intOf i).toNat)
 case atStart=>exact⟨0,Nat.zero_le _,rfl,Below.refl _ _,zh (by simp)⟩
 case round =>
  obtain⟨j,hj,rfl,hb,HA⟩:=hrel;have hq:Below w.heap.size w wr:=q1.trans (hb.mono q1.size);by_cases hlt:j<L2
  ·have hlt':j<p.prs.length:=by rw[HL2.out];exact hlt
   obtain⟨a,r,B1,d1,B2,d2,rfl,_,Hr,⟨z0,z1,z2,z3,z4,z5⟩,hrr⟩:=(HR.out.procs.later hq).nd hlt';have HRR:=zh hrr;have HT:=zh (show(p.prs.take (j+1)).all zoQ=zoQ r by rw[zry hlt' HA.out,Hr.out]);have HN:=zh (show zoQ r=false->zkE p=false from fun h=>by rw[bf.out,zrz hlt' (by rw[Hr.out];exact h)];rfl);have qJ:=zh (show zoQ r=(zmU r.s&&decide (r.ps.length<=8)&&r.ps.all zmV&&zk1 r.b) from rfl);have hd1:=zlE hrr.lp;clear hrr;have rE:=zh (show ∀ w',Below wr.heap.size wr w'->Calls Tryz.prog 50 #[.slice B1 r.ps.length d1] w' fun e w''=>e=.returned (.bool (r.ps.all zmV))/\Below w'.heap.size w' w'' from fun w' h=>zoM r.ps B1 d1 S w' (HRR.out.row.later h) HRR.out.lp HRR.out.lc);have iw:=zh (show ∀ w',Below wr.heap.size wr w'->NV w' Any r.b (nv r.b.k r.b.n r.b.s B2 r.b.ks.length d2) from fun w' h=>(HRR.out.body.later h).any)
   obtain⟨rs,hrs⟩:∃ s,r.s=s:=⟨_,rfl⟩
   obtain⟨rl,hrl⟩:∃ l,r.ps.length=l:=⟨_,rfl⟩
   obtain⟨bk,hbk⟩:∃ k,r.b.k=k:=⟨_,rfl⟩
   obtain⟨bn,hbn⟩:∃ k,r.b.n=k:=⟨_,rfl⟩
   obtain⟨bs,hbs⟩:∃ k,r.b.s=k:=⟨_,rfl⟩
   obtain⟨bl,hbl⟩:∃ k,r.b.ks.length=k:=⟨_,rfl⟩
   have hpb:=qJ.out;have wO:=rE.out;have hbd:=iw.out;rw[hrs] at z0 hpb;rw[hrl] at z1 hpb wO hd1;rw[hbk] at z2 hbd;rw[hbn] at z3 hbd;rw[hbs] at z4 hbd;rw[hbl] at z5 hbd;clear qJ rE iw HRR hrs hrl hbk hbn hbs hbl;have qJ:=zh hpb;have rE:=zh wO;have iw:=zh hbd;clear hpb wO hbd;go_wp2_with fail;refine(zrc rs _).mono ?_;rintro e w2 ⟨rfl,ag⟩;have b2:Below wr.heap.size wr w2:=((Below.refl _ _).alloc (Nat.le_refl _) _).trans (ag.mono (by simp));have hbx:w2.heap[wr.heap.size]?=some (.cells #[.string rs,.slice B1 rl d1,.int .u8 bk,.int .i64 bn,.string bs,.slice B2 bl d2] 103 (0,0)):=(ag.block _ (by simp)).trans (heap_alloc_new wr _);have u1:w2.cell? ⟨wr.heap.size,1,none⟩=some (.slice B1 rl d1):=zc hbx rfl;have hpb:=qJ.out;clear ag
   cases hnm:zmU rs
   ·rw[hnm] at hpb;have HF:=zh (HN.out (by rw[hpb];rfl));clear hpb;go_wp2_with fail;go_ret;exact⟨by rw[HF.out];rfl,hq.trans (b2.mono hq.size)⟩
   rw[hnm,Bool.true_and] at hpb;by_cases h8:8<rl
   ·have HF:=zh (HN.out (by rw[hpb];simp;intro h;omega));have h8':(8:Int)<(rl:Int):=by omega
    clear hpb;go_wp2_with fail;go_ret;exact⟨by rw[HF.out];rfl,hq.trans (b2.mono hq.size)⟩
   rw[decide_eq_true (show rl<=8 by omega),Bool.true_and] at hpb;have h8':(rl:Int)<=8:=by omega
   have lY:=zh hpb;have nP:=zh hbx;clear hpb qJ h8 hbx;go_wp2_with fail;refine(rE.out _ b2).mono ?_;rintro e w3 ⟨rfl,az⟩;have b3:=b2.trans (az.mono b2.size);have hbx:w3.heap[wr.heap.size]?=some (.cells #[.string rs,.slice B1 rl d1,.int .u8 bk,.int .i64 bn,.string bs,.slice B2 bl d2] 103 (0,0)):=(az.block _ (zki nP.out)).trans nP.out;have u2:w3.cell? ⟨wr.heap.size,2,none⟩=some (.int .u8 bk):=zc hbx rfl;have u3:w3.cell? ⟨wr.heap.size,3,none⟩=some (.int .i64 bn):=zc hbx rfl;have u4:w3.cell? ⟨wr.heap.size,4,none⟩=some (.string bs):=zc hbx rfl;have u5:w3.cell? ⟨wr.heap.size,5,none⟩=some (.slice B2 bl d2):=zc hbx rfl;have hpb:=lY.out;clear az u1 hbx
   cases hdd:r.ps.all zmV
   ·rw[hdd] at hpb;have HF:=zh (HN.out (by rw[hpb];rfl));clear hpb;go_wp2_with fail;go_ret;exact⟨by rw[HF.out];rfl,hq.trans (b3.mono hq.size)⟩
   rw[hdd,Bool.true_and] at hpb;have HPD:=zh hpb;clear hpb lY hdd;go_wp2_with fail;refine(zql r.b _ _ (iw.out _ b3)).mono ?_;rintro e w4 ⟨rfl,dn⟩;have b4:=b3.trans (dn.mono b3.size);have hpb:=HPD.out;clear dn u2 u3 u4 u5
   cases hbb:zk1 r.b
   ·rw[hbb] at hpb;have HF:=zh (HN.out hpb);clear hpb;go_wp2_with fail;go_ret;exact⟨by rw[HF.out];rfl,hq.trans (b4.mono hq.size)⟩
   ·rw[hbb] at hpb;have HG:=zh (show(p.prs.take (j+1)).all zoQ=true by rw[HT.out];exact hpb);have xB:=zh (hb.trans (b4.mono hb.size));clear hpb;go_wp2_with fail
    go_roundw
    case rel=>exact⟨j+1,by omega,by go_num,xB.out,HG⟩
    case measure=>simp[intOf];omega
  ·obtain rfl:j=L2:=by omega
   have HF:=zh (show zkE p=zk1 p.m by rw[bf.out];have:=HA.out;rw[List.take_of_length_le (by rw[HL2.out];omega)] at this;rw[this];rfl);have hbx:wr.heap[w.heap.size]?=some (.cells #[.slice A1 L1 c1,.slice A2 j c2,.int .u8 k,.int .i64 n,.string s,.slice A3 l3 c3] 35 (0,0)):=(hb.block _ (zki aO.out)).trans aO.out;have y2:wr.cell? ⟨w.heap.size,2,none⟩=some (.int .u8 k):=zc hbx rfl;have y3:wr.cell? ⟨w.heap.size,3,none⟩=some (.int .i64 n):=zc hbx rfl;have y4:wr.cell? ⟨w.heap.size,4,none⟩=some (.string s):=zc hbx rfl;have y5:wr.cell? ⟨w.heap.size,5,none⟩=some (.slice A3 l3 c3):=zc hbx rfl;go_wp2_with fail;refine(zql p.m _ _ (HM.out.later hq).any).mono ?_;rintro e w2 ⟨rfl,ag⟩;go_wp2_with fail;go_ret;exact⟨by rw[HF.out];rfl,hq.trans (ag.mono hq.size)⟩
theorem zwL {p:PG} {S:Nat->Prop} {v:Value} {w:World} (h:zkE p=true) (hv:PV w S p v):Calls Tryz.prog 17 #[v] w fun e w'=>e=.returned (.bool true)/\Below w.heap.size w w' :=
 (zmD p S v w hv).mono fun e w' ⟨he,hb⟩=>⟨by rw[he,h],hb⟩
def zmR (vs:List VD) (s:ByteArray):Int:=if (zlj vs s).isSome then 22 else 0
def useE (vs:List VD) (s:ByteArray) (k:Int):Int:=match zlj vs s with
 | none=>6
 | some v=>if v.k=k then 0 else 7
theorem zpC (vs:List VD) (A:Option Addr) (c:Nat) (s:ByteArray) (S:Nat->Prop) (w:World) (hrow:RowV w S A vs) (hl:vs.length<=LV) :
  Calls Tryz.prog 93 #[.slice A vs.length c,.string s] w fun e w'=>e=.returned (.int .i64 (zmR vs s))/\Below w.heap.size w w':=by
 have ae:=zh hrow;have HL:=zh hl;obtain⟨E,hE⟩:∃ E,zmR vs s=E:=⟨_,rfl⟩
 rw[hE];have HE:=zh hE;clear hrow hl hE;go_enter Tryz.func93,Tryz.ntmps93;go_wp2_with fail;refine(zo7 vs A c s S _ ae.out HL.out).mono ?_;rintro e w1 ⟨rfl,aa⟩
 cases hf:zlj vs s with
 | none =>
  have HN:=zh (show E=0 by rw[<-HE.out];simp[zmR,hf]);have HB:=zh (show Below w.heap.size w (w1.alloc (.cells #[.string ⟨#[]⟩,.int .u8 0,.int .i64 0] 83)) from aa.alloc aa.size _);clear hf aa;go_wp2_with fail;go_ret;exact⟨by rw[HN.out];rfl,HB.out⟩
 | some v =>
  have HN:=zh (show E=22 by rw[<-HE.out];simp[zmR,hf]);have HB:=zh (show Below w.heap.size w (w1.alloc (.cells #[.string v.s,.int .u8 v.k,.int .i64 v.n] 83)) from aa.alloc aa.size _);clear hf aa;go_wp2_with fail;go_ret;exact⟨by rw[HN.out];rfl,HB.out⟩
theorem zoo (vs:List VD) (A:Option Addr) (c:Nat) (s:ByteArray) (k:Int) (S:Nat->Prop) (w:World) (hrow:RowV w S A vs) (hl:vs.length<=LV) :
  Calls Tryz.prog 164 #[.slice A vs.length c,.string s,.int .u8 k] w fun e w'=>e=.returned (.int .i64 (useE vs s k))/\Below w.heap.size w w':=by
 have ae:=zh hrow;have HL:=zh hl;obtain⟨E,hE⟩:∃ E,useE vs s k=E:=⟨_,rfl⟩
 rw[hE];have HE:=zh hE;clear hrow hl hE;go_enter Tryz.func164,Tryz.ntmps164;go_wp2_with fail;refine(zo7 vs A c s S _ ae.out HL.out).mono ?_;rintro e w1 ⟨rfl,aa⟩
 cases hf:zlj vs s with
 | none =>
  have HN:=zh (show E=6 by rw[<-HE.out];simp[useE,hf]);have HB:=zh (show Below w.heap.size w (w1.alloc (.cells #[.string ⟨#[]⟩,.int .u8 0,.int .i64 0] 83)) from aa.alloc aa.size _);clear hf aa;go_wp2_with fail;go_ret;exact⟨by rw[HN.out];rfl,HB.out⟩
 | some v =>
  obtain⟨vm,vk,vl⟩:=v;have HB2:=zh (show Below w.heap.size w (w1.alloc (.cells #[.string vm,.int .u8 vk,.int .i64 vl] 83)) from aa.alloc aa.size _);have HN:=zh (show E=if vk=k then 0 else 7 by rw[<-HE.out];simp[useE,hf]);clear hf aa;by_cases hk:vk=k
  ·have e1:(vk==k)=true:=by simpa using hk
   have e2:(vk != k)=false:=by simpa using hk
   have aF:=zh (show E=0 by rw[HN.out,if_pos hk]);clear hk;go_wp2_with fail;go_ret;exact⟨by rw[aF.out];rfl,HB2.out⟩
  ·have e1:(vk==k)=false:=by simpa using hk
   have e2:(vk != k)=true:=by simpa using hk
   have aF:=zh (show E=7 by rw[HN.out,if_neg hk]);clear hk;go_wp2_with fail;go_ret;exact⟨by rw[aF.out];rfl,HB2.out⟩
def idxP (ps:List PR) (s:ByteArray):Option Nat:=ps.findIdx? fun r=>r.s.toList==s.toList
def zlJ (ps:List PR) (s:ByteArray):Int:=match idxP ps s with
 | some i=>i
 | none => -1
theorem zwQ (rs:ByteArray) (u1 u2 u3 u4 u5:Value) (s:ByteArray) (nb:Nat) (w:World) (hc:w.cell? ⟨nb,0,none⟩=some (.string s)) :
  Calls Tryz.prog 136 #[.agg #[.string rs,u1,u2,u3,u4,u5],.pointer (some ⟨nb,0,none⟩)] w fun e w'=>e=.returned (.bool (rs.toList==s.toList))/\Below w.heap.size w w':=by
 have hc':=zke hc;go_enter Tryz.func136,Tryz.ntmps136;go_wp2_with fail;go_ret;exact⟨rfl,(Below.refl _ _).alloc (Nat.le_refl _) _⟩
theorem zp1 (ps:List PR) (A:Option Addr) (c:Nat) (s:ByteArray) (nb:Nat) (S:Nat->Prop) (w:World) (hrow:RowP w S A ps) (hl:ps.length<=LV) (hc:w.cell? ⟨nb,0,none⟩=some (.string s)) :
  Calls Tryz.prog 135 #[.slice A ps.length c,.func (.func 136) #[] #[.pointer (some ⟨nb,0,none⟩)]] w fun e w'=>e=.returned (.int .i64 (zlJ ps s))/\Below w.heap.size w w':=by
 have hl':=zlE hl;have ae:=zh hrow;have HC:=zh hc;obtain⟨R,hR⟩:∃ R,zlJ ps s=R:=⟨_,rfl⟩
 rw[hR];have HR:=zh hR;clear hrow hl hc hR;go_enter Tryz.func135,Tryz.ntmps135;go_wp2_with fail
 go_loopw [8] (fun i wr=>∃ j:Nat,j<=ps.length/\i=.int .i64 j/\Below w.heap.size w wr/\Hid (∀ q (h:q<ps.length),q<j->(ps[q].s.toList==s.toList)=false)) (fun i _=>ps.length-(intOf i).toNat)
 case atStart=>exact⟨0,Nat.zero_le _,rfl,Below.refl _ _,zh fun q _ h=>by omega⟩
 case round =>
  obtain⟨j,hj,rfl,hbl,HJ⟩:=hrel;by_cases hlt:j<ps.length
  ·obtain⟨a,r,B1,f1,B2,f2,rfl,_,Hr,⟨q0,q1,q2,q3,q4,q5⟩,-⟩:=(ae.out.later hbl).nd hlt;obtain⟨b,hb⟩:∃ b,(r.s.toList==s.toList)=b:=⟨_,rfl⟩
   have HB:=zh hb;clear hb;go_wp2_with fail;refine(zwQ r.s _ _ _ _ _ s nb _ (zb hbl HC.out)).mono ?_;rintro e w1 ⟨rfl,aa⟩;rw[HB.out];have aj:=zh (zka hbl aa);clear aa q0 q1 q2 q3 q4 q5
   cases b
   ·have HJ2:=zh (show ∀ q (h:q<ps.length),q<j+1->(ps[q].s.toList==s.toList)=false from fun q h hq=>by
     by_cases e:q<j
     ·exact HJ.out q h e
     ·obtain rfl:q=j:=by omega
      rw[Hr.out];exact HB.out)
    go_wp2_with fail
    go_roundw
    case rel=>exact⟨j+1,by omega,by go_num,aj.out,HJ2⟩
    case measure=>simp[intOf];omega
   ·have HN:=zh (show R=j by
     rw[<-HR.out];have:idxP ps s=some j:=List.findIdx?_eq_some_iff_getElem.2 ⟨hlt,by rw[Hr.out];exact HB.out,fun q hq=>by rw[HJ.out q (by omega) hq];simp⟩;simp[zlJ,this])
    go_wp2_with fail;go_ret;exact⟨by rw[HN.out];rfl,aj.out⟩
  ·have HN:=zh (show R = -1 by
    rw[<-HR.out];have:idxP ps s=none:=List.findIdx?_eq_none_iff.2 fun r hr=>by
     obtain⟨q,hq,rfl⟩:=List.getElem_of_mem hr;exact HJ.out q hq (by omega)
    simp[zlJ,this])
   have aj:=zh hbl;clear hbl;go_wp2_with fail;go_ret;exact⟨by rw[HN.out];rfl,aj.out⟩
theorem zok (p:PG) (S:Nat->Prop) (v:Value) (s:ByteArray) (w:World) (hv:PV w S p v):Calls Tryz.prog 94 #[v,.string s] w fun e w'=>e=.returned (.int .i64 (zlJ p.prs s))/\Below w.heap.size w w':=by
 obtain⟨A1,c1,A2,c2,A3,c3,rfl,hr⟩:=hv;have HR:=zh hr;obtain⟨L1,hL1⟩:∃ L,p.vs.length=L:=⟨_,rfl⟩
 rw[hL1];clear hr hL1;go_enter Tryz.func94,Tryz.ntmps94;go_wp2_with fail;refine(zp1 p.prs A2 c2 s (w.heap.size+1) S _ (HR.out.procs.later (zkb (zkb (Below.refl _ _) _) _)) HR.out.lp (by simp)).mono ?_;rintro e w1 ⟨rfl,aa⟩;have HB:=zh (zka (zkb (zkb (Below.refl w.heap.size w) _) _) aa);clear aa;go_wp2_with fail;go_ret;exact⟨rfl,HB.out⟩
end Go.Proofs.YtckhofdinldhpaaGreat
namespace Go.Proofs.YtckhofdinldhpaaGreat
open Go Go.RowKit
theorem zoU:∀ (prs:List PR) (s:ByteArray) (i:Nat),prcI prs s=some i->zlJ prs s=(i:Int)/\i<prs.length
 | [],_,_,h=>by simp[prcI] at h
 | q::qs,s,i,h=>by
  unfold prcI at h;unfold zlJ idxP;rw[List.findIdx?_cons]
  split at h
  ·rename_i h0;injection h with h;subst h;rw[if_pos h0];exact⟨rfl,by simp⟩
  ·rename_i h0;rw[if_neg h0];obtain⟨j,hj,rfl⟩:=Option.map_eq_some_iff.1 h;have h5:=zoU qs s j hj;unfold zlJ idxP at h5
   cases hf:List.findIdx? (fun r=>r.s.toList==s.toList) qs with
   | none =>
    rw[hf] at h5;have h6:(-1:Int)=(j:Int):=h5.1;omega
   | some m =>
    rw[hf] at h5;have h6:(m:Int)=(j:Int):=h5.1;exact⟨by show((m+1:Nat):Int)=((j+1:Nat):Int);omega,by have:=h5.2;simp;omega⟩
def strA (l:List ByteArray):Array Value:=(l.map Value.string).toArray
theorem zKG:(Tryz.prog.info? 9).map (fun i=>(i.zero,i.size,i.bytes))=some (some (.string ⟨#[]⟩),1,16):=by kernel_rfl
theorem zxQ (n:Nat):madeCells (Value.string ⟨#[]⟩).cells (n*1)=strA (List.replicate n ⟨#[]⟩):=by
 unfold strA;apply Array.ext';apply List.ext_getElem
 ·rw[Array.length_toList,size_madeCells];simp
 ·intro i h1 h2;have e:i % 1=0:=by omega
  simp[madeCells,Value.cells,e]
theorem zLe (n:Nat) (hn:n<=17592186044416) (w:World):(Instr.makeSlice 232 (.int .i64 (n:Int)) (.int .i64 (n:Int))).run Tryz.prog w=.ok (.slice (some ⟨w.heap.size,0,none⟩) n n) (w.alloc (.cells (strA (List.replicate n ⟨#[]⟩)) 9)):=by
 have h:=zKG;obtain⟨i,hi,hz⟩:=Option.map_eq_some_iff.1 h;injection hz with h1 h2;injection h2 with h2 h3;have:=zmG (P:=Tryz.prog) 232 9 i (.string ⟨#[]⟩) Tryz.underlying232 hi h1 .i64 .i64 n n (Nat.le_refl _) (by rw[h3];omega) (by omega) w;rw[h2,zxQ] at this;exact this
def argL (ks:List T) (j:Nat):List ByteArray:=(ks.take j).map (·.s)++List.replicate (ks.length-j) ⟨#[]⟩
theorem zzm (ks:List T):argL ks 0=List.replicate ks.length ⟨#[]⟩:=by simp[argL]
theorem zyH (ks:List T):argL ks ks.length=ks.map (·.s):=by simp[argL]
theorem zyG (ks:List T) {j:Nat} (hj:j<=ks.length):(argL ks j).length=ks.length:=by simp[argL];omega
theorem zyF (ks:List T) {j:Nat} (hj:j<ks.length):(strA (argL ks j)).setIfInBounds j (.string ks[j].s)=strA (argL ks (j+1)):=by
 unfold strA;rw[List.setIfInBounds_toArray,<-List.map_set];congr 2;unfold argL;refine List.ext_getElem (by simp;omega) fun i h1 h2=>?_;rw[List.getElem_set];simp only[List.length_append,List.length_map,List.length_take,List.length_replicate,List.length_set] at h1 h2;by_cases e:j=i
 ·subst e;rw[if_pos rfl,List.getElem_append_left (by simp;omega)];simp
 ·rw[if_neg e];by_cases hi:i<j
  ·rw[List.getElem_append_left (by simp;omega),List.getElem_append_left (by simp;omega)];simp
  ·rw[List.getElem_append_right (by simp;omega),List.getElem_append_right (by simp;omega)];simp
theorem zxq {W:World} {b:Nat} {E:TypeId} {l:List ByteArray} (h:W.heap[b]?=some (.cells (strA l) E (0,0))):RowS W (some ⟨b,0,none⟩) l:=fun i hi=>by
 have ha:(⟨b,0,none⟩:Addr).add i=⟨b,i,none⟩:=by rw[Addr.add_lit,Nat.zero_add]
 refine⟨⟨b,0,none⟩,rfl,?_⟩;rw[ha];simp only[World.cell?,h];simp[strA,hi]
theorem RI.count {C:RC} (hC:C.Ok) {W:World} {r:RS} (h:RI C W r) {i:Nat} (hi:i<r.ent.length) (hn:r.ent.getD i 0+1<=r.n) :
  ∃ g c,C.ev=.slice (some ⟨g,0,none⟩) r.ent.length c/\W.cell? ⟨g,i,none⟩=some (.int .i64 (r.ent.getD i 0:Nat))/\W.frozen? ⟨g,i,none⟩=false /\
   RI C (W.setCell ⟨g,i,none⟩ (.int .i64 ((r.ent.getD i 0+1:Nat):Int))) { r with ent:=r.ent.set i (r.ent.getD i 0+1) }/\Kpt C.n0 C.kb W (W.setCell ⟨g,i,none⟩ (.int .i64 ((r.ent.getD i 0+1:Nat):Int))):=by
 obtain⟨e1,h2⟩:=h.ent;rcases h2 with h2|⟨g,cap,cur,hev,hb,hg,hcap,hlen,hsz,bT⟩
 ·have hn0:r.ent.length=0:=h2.2;omega
 ·have hcz:cur[i]?=some (.int .i64 (r.ent.getD i 0:Nat)):=by
   have h3:(zkj (r.ent.map Int.ofNat))[i]?=some (.int .i64 (r.ent.getD i 0:Nat)):=by simp[zkj,hi]
   rw[<-bT,List.getElem?_take] at h3
   split at h3
   ·simpa using h3
   ·cases h3
  have hci:i<cur.size:=by
   rcases Nat.lt_or_ge i cur.size with h|h
   ·exact h
   ·rw[Array.getElem?_eq_none h] at hcz;cases hcz
  have hrb:g≠C.rb:=fun e=>hC.ev.1 (by rw[hev,<-e];rfl);have hkb:¬ C.kb g:=hC.ev.2 g (by rw[hev];rfl);have hch:Chg (fun b=>b=g) W (W.setCell ⟨g,i,none⟩ (.int .i64 ((r.ent.getD i 0+1:Nat):Int))):=(Chg.refl (fun b=>b=g) W).setCell (p:=⟨g,i,none⟩) (.inl rfl) _;have hnn:=h.ks.hn;refine⟨g,cap,hev,zc hg hcz,zf hg,⟨h.ks.chg hch fun b _ e=>⟨by omega,.inr (.inr (.inr (by rw[hev,e];rfl)))⟩,?_,?_,by simp[h.el],?_,h.n,h.fb⟩,Kpt.chg hch fun b e=>⟨by omega,by rw[e];exact hkb⟩⟩
  ·rw[Below.heap_setCell _ _ _ _ (fun e=>hrb (by simpa using e.symm))];exact h.box
  ·have hs:=heap_setCell_same W g i _ _ (.int .i64 ((r.ent.getD i 0+1:Nat):Int)) hg;refine⟨by simp[zkj],.inr ⟨g,cap,_,by rw[hev];simp,hb,hs,by simpa using hcap,by simpa using hlen,by simpa using hsz,?_⟩⟩;have e2:((cur.setIfInBounds i (.int .i64 ((r.ent.getD i 0+1:Nat):Int))).toList.take ((r.ent.set i (r.ent.getD i 0+1)).length*1))=(cur.toList.take (r.ent.length*1)).set i (.int .i64 ((r.ent.getD i 0+1:Nat):Int)):=by
    rw[Array.toList_setIfInBounds,List.length_set,List.take_set]
   rw[e2,bT];simp[zkj,List.map_set]
  ·intro c hc;rcases List.mem_or_eq_of_mem_set hc with hc|rfl
   ·exact h.en c hc
   ·exact hn
theorem zyc:IsFn Tryz.prog 187 Tryz.f187:=⟨Tryz.func187,by kernel_rfl,by kernel_rfl⟩
def caR (prs:List PR) (F:Int) (g:Nat) (back:Bool) (i:Nat) (b:T) (r:RS):Out :=
 (zkp (zkk prs F g back) (blkL back b) { r with ent:=r.ent.set i (r.ent.getD i 0+1) }).bind fun r=>(zkw F r).bind fun r=>zkf r (zla r.S)
def caO (prs:List PR) (F:Int) (g:Nat) (back:Bool) (i:Nat) (q:PR) (ss:List ByteArray) (r:RS):Out :=
 (zkw F r).bind fun r=>(zkf r (zkT r.S q.ps ss)).bind (caR prs F g back i q.b)
theorem zo5 {G:List PR->T->Prop} {g:Nat} (hS:IStC G g) {C:RC} (hC:C.Ok) {W:World} {r:RS} (h:RI C W r) (t:T) (v:Value) (back:Bool) (hv:NV C.w Any t v) (i:Nat) (hi:prcI C.p.prs t.s=some i) (q:PR) (hq:C.p.prs[i]?=some q) (hG1:∀ u∈q.b.ks,G C.p.prs u)
  (aA:caO C.p.prs C.F g back i q (t.ks.map (·.s)) r ≠ .gas) :
  Calls Tryz.prog 198 #[.pointer (some ⟨C.rb,0,none⟩),v,.bool back] W (RunP C W (caO C.p.prs C.F g back i q (t.ks.map (·.s)) r)):=by
 have HV:=zh hv;have H:=zh h;have HS:=zh hS;have HC:=zh hC;obtain⟨hpi,hil⟩:=zoU _ _ _ hi;obtain⟨A,c,rfl,-,hlk,hlc,hrow⟩:=hv.open_;have ae:=zh hrow;have hb0:=zkb (Below.refl W.heap.size W) (.cells #[.int .u8 t.k,.int .i64 t.n,.string t.s,.slice A t.ks.length c] 29);have k0:=heap_alloc_new W (.cells #[.int .u8 t.k,.int .i64 t.n,.string t.s,.slice A t.ks.length c] 29);obtain⟨x0,x1,x2,x3⟩:=box4 k0;have rJ:=zh h.below;obtain⟨w1,hw1⟩:∃ x,W.alloc (.cells #[.int .u8 t.k,.int .i64 t.n,.string t.s,.slice A t.ks.length c] 29)=x:=⟨_,rfl⟩
 have hz1:w1.heap.size=W.heap.size+1:=by rw[<-hw1];simp
 rw[hw1] at hb0 k0 x0 x1 x2 x3;have hmk:=zLe t.ks.length (by unfold LK at hlk;omega);have hb1:=zkb hb0 (.cells (strA (List.replicate t.ks.length ⟨#[]⟩)) 9);have k1:=heap_alloc_new w1 (.cells (strA (List.replicate t.ks.length ⟨#[]⟩)) 9);have j0:=zkl k0 (.cells (strA (List.replicate t.ks.length ⟨#[]⟩)) 9);rw[hz1] at k1;rw[<-zzm] at hmk;have hz2:(w1.alloc (.cells (strA (argL t.ks 0)) 9)).heap.size=W.heap.size+2:=by simp[hz1]
 rw[<-zzm] at hb1 k1 j0;have HB1:=zh hb1;have K1:=zh k1;have J0:=zh j0;obtain⟨o,ho⟩:∃ o,caO C.p.prs C.F g back i q (t.ks.map (·.s)) r=o:=⟨_,rfl⟩
 have bE:=zh ho;have HO:=zh (show(zkw C.F r).bind (fun r=>(zkf r (zkT r.S q.ps (t.ks.map (·.s)))).bind (caR C.p.prs C.F g back i q.b))=o from ho);rw[ho] at aA ⊢;have cz:=zh aA;have HPI:=zh hpi;have sN:=zh hil;have HQ:=zh hq;have hlk2:t.ks.length<=17592186044416:=by unfold LK at hlk;omega
 have HZ2:=zh hz2;clear hv hb0 k0 h ho aA hrow hS hC hlk hpi hil hq hi hb1 k1 j0 hz2;go_enter Tryz.func198,Tryz.ntmps198;go_wp2_with fail;clear x0 x1 x2 x3 hw1 hmk;have jX:=zh (fun j (hj:j<t.ks.length)=>zyF t.ks hj);have HAN:=zh (fun j (hj:j<=t.ks.length)=>zyG t.ks hj)
 go_loopw [18] (fun x wr=>∃ j:Nat,j<=t.ks.length/\x=.int .i64 j/\Hid (Below W.heap.size W wr)/\Hid (wr.heap[W.heap.size]?=some (.cells #[.int .u8 t.k,.int .i64 t.n,.string t.s,.slice A t.ks.length c] 29 (0,0)))/\Hid (wr.heap[W.heap.size+1]?=some (.cells (strA (argL t.ks j)) 9 (0,0)))) (fun x _=>t.ks.length-(intOf x).toNat)
 case atStart=>exact⟨0,Nat.zero_le _,rfl,HB1,J0,K1⟩
 case round =>
  obtain⟨j,hj,rfl,aj,HJ,HK⟩:=hrel;clear HB1 J0 K1;by_cases hlt:j<t.ks.length
  ·obtain⟨a,u,Au,cu,rfl,-,Hu,⟨p0,p1,p2,p3⟩,-⟩:=ae.out.nd hlt;have hbb:=zka rJ.out aj.out;have q0:=zb hbb p0;have q1:=zb hbb p1;have q2:=zb hbb p2;have q3:=zb hbb p3;have hj1:(j:Int)<(t.ks.length:Int):=by omega
   have hj0:(0:Int)<=(j:Int):=by omega
   have kz:=zkl HK.out (.cells #[.int .u8 u.k,.int .i64 u.n,.string u.s,.slice Au u.ks.length cu] 29);have jz:=zkl HJ.out (.cells #[.int .u8 u.k,.int .i64 u.n,.string u.s,.slice Au u.ks.length cu] 29);have hbz:=zkb aj.out (.cells #[.int .u8 u.k,.int .i64 u.n,.string u.s,.slice Au u.ks.length cu] 29);have zc:∃ y,(strA (argL t.ks j))[j]?=some y:=⟨_,Array.getElem?_eq_getElem (by simp[strA,HAN.out j hj];exact hlt)⟩
   obtain⟨y,hy⟩:=zc;have zy:=zc kz hy;have zf:(wr.alloc (.cells #[.int .u8 u.k,.int .i64 u.n,.string u.s,.slice Au u.ks.length cu] 29)).frozen? ⟨W.heap.size+1,j,none⟩=false:=zf kz;have HBZ:=zh hbz;have HKZ:=zh kz;have HJZ:=zh jz;have hwlt:W.heap.size+1<wr.heap.size:=zki HK.out;clear hbb p0 p1 p2 p3 kz jz hbz hy;go_wp2_with fail
   go_roundw
   case rel =>
    have hch:=(Chg.refl (fun b=>b=W.heap.size+1) wr).setCell (p:=⟨W.heap.size+1,j,none⟩) (.inl rfl) (.string u.s);refine⟨j+1,by omega,by go_num,zh (zkb (aj.out.trans (hch.below aj.out.size fun b e=>by omega)) _),zh (zkl (hch.keep HJ.out (by omega)) _),zh ?_⟩;have:=heap_setCell_same _ (W.heap.size+1) j _ _ (.string u.s) HK.out;refine zkl ?_ _;rw[this,<-jX.out j hlt,Hu.out]
   case measure=>simp[intOf];omega
  ·obtain rfl:j=t.ks.length:=by omega
   rw[zyH] at HK;have hj1:¬ (t.ks.length:Int)<(t.ks.length:Int):=by omega
   have hrn:=H.out.n;have hel:=H.out.el;obtain⟨pa,q1,B1,d1,B2,d2,hA2,-,Hq1,⟨p0,p1,p2,p3,p4,p5⟩,hpr⟩:=HC.out.pg.procs.nd sN.out;obtain rfl:q=q1:=by
    have e:=HQ.out;rw[List.getElem?_eq_getElem sN.out,Hq1.out] at e;injection e with e;exact e.symm
   have HPRR:=zh hpr;have hbb:=zka rJ.out aj.out;have iV:=zh hbb;have bX:=zh (fun w' (hb:Below wr.heap.size wr w')=>zok C.p Any (pv C.A1 C.p.vs.length C.c1 C.A2 C.p.prs.length C.c2 C.p.m.k C.p.m.n C.p.m.s C.A3 C.p.m.ks.length C.c3) t.s w' ⟨_,_,_,_,_,_,rfl,HC.out.pg.later (zka iV.out hb)⟩);rw[HPI.out] at bX;have HXB:=zh (zkd H.out.box aj.out);rw[hA2] at bX;have jR:Hid (wr.cell? ⟨C.rb,0,none⟩=some (.slice C.A1 C.p.vs.length C.c1)/\wr.cell? ⟨C.rb,1,none⟩=some (.slice (some pa) C.p.prs.length C.c2)/\wr.cell? ⟨C.rb,2,none⟩=some (.int .u8 C.p.m.k)/\wr.cell? ⟨C.rb,3,none⟩=some (.int .i64 C.p.m.n)/\wr.cell? ⟨C.rb,4,none⟩=some (.string C.p.m.s)/\wr.cell? ⟨C.rb,5,none⟩=some (.slice C.A3 C.p.m.ks.length C.c3)) :=
    zh ⟨zc HXB.out rfl,by rw[<-hA2];exact zc HXB.out rfl,zc HXB.out rfl,zc HXB.out rfl,zc HXB.out rfl,zc HXB.out rfl⟩
   have qX:=zh (show(i:Int)<(C.p.prs.length:Int) by have:=sN.out;omega);obtain⟨rb,hrb⟩:∃ b,C.rb=b:=⟨_,rfl⟩
   obtain⟨z1,hz1⟩:∃ b,C.A1=b:=⟨_,rfl⟩
   obtain⟨z2,hz2⟩:∃ b,C.p.vs.length=b:=⟨_,rfl⟩
   obtain⟨z3,hz3⟩:∃ b,C.c1=b:=⟨_,rfl⟩
   obtain⟨z5,oN⟩:∃ b,C.p.prs.length=b:=⟨_,rfl⟩
   obtain⟨z6,eT⟩:∃ b,C.c2=b:=⟨_,rfl⟩
   obtain⟨z7,fZ⟩:∃ b,C.p.m.k=b:=⟨_,rfl⟩
   obtain⟨z8,wh⟩:∃ b,C.p.m.n=b:=⟨_,rfl⟩
   obtain⟨z9,uF⟩:∃ b,C.p.m.s=b:=⟨_,rfl⟩
   obtain⟨z10,oQ⟩:∃ b,C.A3=b:=⟨_,rfl⟩
   obtain⟨z11,oP⟩:∃ b,C.p.m.ks.length=b:=⟨_,rfl⟩
   obtain⟨z12,oO⟩:∃ b,C.c3=b:=⟨_,rfl⟩
   rw[hz1,hz2,hz3,oN,eT,fZ,wh,uF,oQ,oP,oO] at bX;rw[hrb,hz1,hz2,hz3,oN,eT,fZ,wh,uF,oQ,oP,oO] at jR;have aP:=zh (show ∀ w',Below wr.heap.size wr w'->(fun w':World=>w'.cell? ⟨rb,0,none⟩=some (.slice z1 z2 z3)/\w'.cell? ⟨rb,1,none⟩=some (.slice (some pa) z5 z6)/\w'.cell? ⟨rb,2,none⟩=some (.int .u8 z7)/\w'.cell? ⟨rb,3,none⟩=some (.int .i64 z8)/\w'.cell? ⟨rb,4,none⟩=some (.string z9)/\w'.cell? ⟨rb,5,none⟩=some (.slice z10 z11 z12)/\w'.cell? ⟨W.heap.size,2,none⟩=some (.string t.s)) w' from fun w' hb=>by
    obtain⟨y0,y1,y2,y3,y4,y5⟩:=jR.out;exact⟨zb hb y0,zb hb y1,zb hb y2,zb hb y3,zb hb y4,zb hb y5,zb hb (zc HJ.out rfl)⟩)
   have gD:=zh (aP.out _ (Below.refl _ _).drew);have lY:=zh (show C.w.cell? (pa.add (i*6))=_/\_/\_/\_/\_/\_ from ⟨p0,p1,p2,p3,p4,p5⟩);clear p0 p1 p2 p3 p4 p5 hpr hbb hz1 hz2 hz3 eT fZ wh uF oQ oP oO hel hrn hj1;have qx:=zh oN;rw[oN] at qX;clear oN;have eY:=zh hrb;clear hrb hA2;rw[eY.out];have hj1:¬ (t.ks.length:Int)<(t.ks.length:Int):=by omega
   go_upto_region 7 with fail
   go_region_held3 (fun w':World=>w'.cell? ⟨rb,0,none⟩=some (.slice z1 z2 z3)/\w'.cell? ⟨rb,1,none⟩=some (.slice (some pa) z5 z6)/\w'.cell? ⟨rb,2,none⟩=some (.int .u8 z7)/\w'.cell? ⟨rb,3,none⟩=some (.int .i64 z8)/\w'.cell? ⟨rb,4,none⟩=some (.string z9)/\w'.cell? ⟨rb,5,none⟩=some (.slice z10 z11 z12)/\w'.cell? ⟨W.heap.size,2,none⟩=some (.string t.s))
    (first|with_reducible exact bN.out|with_reducible exact gD.out)
    (first
     | (go_at_call 94;refine(bX.out _ (Below.refl _ _).drew).mono ?_;rintro e y1 ⟨rfl,bq⟩;have b1:=zka (Below.refl wr.heap.size wr).drew bq;have bN:=zh (aP.out _ b1))
     | fail)
   have hb1:=zka iV.out b1;have p0:=zb hb1 lY.out.1;have p1:=zb hb1 lY.out.2.1;have p2:=zb hb1 lY.out.2.2.1;have p3:=zb hb1 lY.out.2.2.2.1;have p4:=zb hb1 lY.out.2.2.2.2.1;have p5:=zb hb1 lY.out.2.2.2.2.2;obtain⟨-,e1,-⟩:=bN.out;have hi1:=qX.out;have hi0:(0:Int)<=(i:Int):=by omega
   have bU:=zkb (zka aj.out b1) (.cells #[.string q.s,.slice B1 q.ps.length d1,.int .u8 q.b.k,.int .i64 q.b.n,.string q.b.s,.slice B2 q.b.ks.length d2] 103);have k0:=zkl (zkd HJ.out b1) (.cells #[.string q.s,.slice B1 q.ps.length d1,.int .u8 q.b.k,.int .i64 q.b.n,.string q.b.s,.slice B2 q.b.ks.length d2] 103);have k1:=zkl (zkd HK.out b1) (.cells #[.string q.s,.slice B1 q.ps.length d1,.int .u8 q.b.k,.int .i64 q.b.n,.string q.b.s,.slice B2 q.b.ks.length d2] 103);have k2:=heap_alloc_new y1 (.cells #[.string q.s,.slice B1 q.ps.length d1,.int .u8 q.b.k,.int .i64 q.b.n,.string q.b.s,.slice B2 q.b.ks.length d2] 103);obtain⟨pb,hpb⟩:∃ x,y1.heap.size=x:=⟨_,rfl⟩
   have hpl:W.heap.size<=pb:=by rw[<-hpb];exact(zka aj.out b1).size
   obtain⟨w5,wy⟩:∃ x,y1.alloc (.cells #[.string q.s,.slice B1 q.ps.length d1,.int .u8 q.b.k,.int .i64 q.b.n,.string q.b.s,.slice B2 q.b.ks.length d2] 103)=x:=⟨_,rfl⟩
   rw[wy] at bU k0 k1;rw[hpb,wy] at k2;have bL:=zh (Kpt.of_below (n0:=C.n0) (kb:=C.kb) bU);obtain⟨uU,h5⟩:=H.out.plus HC.out bU;have l0:=zki k0;have l1:=zki k1;have l2:=zki k2;obtain⟨hi,hhi⟩:∃ x,w5.heap.size=x:=⟨_,rfl⟩
   rw[hhi] at uU h5 l0 l1 l2;have uz:=zh uU;have K0:=zh k0;have K1:=zh k1;have K2:=zh k2;have HST:=zh (zmn uU h5);rw[show(C.plus W.heap.size hi).rb=rb from eY.out] at HST;have xC:=zh hpl;obtain⟨ss,hss⟩:∃ ss,t.ks.map (·.s)=ss:=⟨_,rfl⟩
   have HSL:=zh (show ss.length=t.ks.length by rw[<-hss];simp);rw[hss] at HO K1;clear hb1 b1 bq bN aP gD bU k0 k1 k2 uU h5 lY hpl jR bX jX HAN HK HJ hss;go_upto_region 9 with fail;clear p0 p1 p2 p3 p4 p5 e1 wy hpb;go_wp2_with fail;refine HST.out.mono ?_;rintro e w6 ⟨bW,hb6,lS⟩;have dV:=zh (bL.out.trans (Kpt.less (C:=C) bW));have bH:=zh (show Below C.w.heap.size C.w w6 from hb6);have bR:match zkw C.F r with
    | .gas=>True
    | .err x=>e=zl2 x
    | .ok r=>(∃ u,e=.returned u)/\RI (C.plus W.heap.size hi) w6 r:=lS
   have qR:=zh bW;clear HST bW hb6 lS
   cases hy:zkw C.F r with
   | gas=>exact absurd (by rw[<-HO.out,hy];rfl) cz.out
   | err x =>
    rw[hy] at bR;subst bR;refine⟨rfl,dV.out,bH.out,?_⟩
    try rw[bE.out]
    rw[<-HO.out,hy];rfl
   | ok r1 =>
    rw[hy] at bR;obtain⟨⟨u3,rfl⟩,hr1⟩:=bR;have fI:=zh hr1;have nH:=zh (show(zkf r1 (zkT r1.S q.ps ss)).bind (caR C.p.prs C.F g back i q.b)=o by rw[<-HO.out,hy];rfl);have gZ:=zh (show FB r.n r1.S/\r1.n=r.n+1/\r1.ent=r.ent by obtain⟨rfl,-⟩:=zky hy;exact⟨H.out.fb,rfl,rfl⟩);have j2:=qR.out.blk (.inr (.inr ⟨xC.out,l2⟩)) K2.out;have hSS:(fun w':World=>w'.cell? ⟨rb,6,none⟩=some (.pointer (some ⟨C.sb,0,none⟩))/\w'.cell? ⟨pb,1,none⟩=some (.slice B1 q.ps.length d1)) w6.drew/\(fun _:World=>True) w6.drew:=⟨⟨by rw[<-eY.out];exact hr1.cells.1,zc j2 rfl⟩,trivial⟩
    clear hr1 hy j2;go_upto_region 10 with fail;refine zkc (fun w':World=>w'.cell? ⟨rb,6,none⟩=some (.pointer (some ⟨C.sb,0,none⟩))/\w'.cell? ⟨pb,1,none⟩=some (.slice B1 q.ps.length d1)) (fun _:World=>True) 9 (by kernel_rfl) ?_;refine zT 0 hSS ?_;(try simp only[zQ]);refine zT 1 hSS ?_;(try simp only[zQ]);refine zT 2 hSS ?_;(try simp only[zQ]);refine zT 3 hSS ?_;(try simp only[zQ]);refine zT 4 hSS ?_;(try simp only[zQ]);refine zT 5 hSS ?_;(try simp only[zQ]);refine zT 6 hSS ?_;(try simp only[zQ]);refine zT 7 hSS ?_;(try simp only[zQ]);obtain⟨R,hR⟩:∃ R,zkT r1.S q.ps ss=R:=⟨_,rfl⟩
    have HRR:=zh hR;have hbd:Below w6.heap.size w6 w6.drew:=(Below.refl _ _).drew;have hpq:q.ps.length<=1000:=HC.out.ps q (List.mem_of_getElem? HQ.out);have hen:=(fI.out.later hbd).ks.enter q.ps ss B1 (some ⟨W.heap.size+1,0,none⟩) d1 t.ks.length (HPRR.out.row.later (zka bH.out hbd)) ((zxq (qR.out.blk (.inr (.inr ⟨Nat.le_succ _,l1⟩)) K1.out)).later hbd) (by omega) (by rw[HSL.out];exact hlk2);rw[HSL.out] at hen;have had:Calls Tryz.prog 187 [.pointer (some ⟨C.sb,0,none⟩),.slice B1 q.ps.length d1,.slice (some ⟨W.heap.size+1,0,none⟩) t.ks.length t.ks.length].toArray w6.drew fun e w'=>∃ v,e=.returned v/\(v=.int .i64 R.1/\RI (C.plus W.heap.size hi) w' { r1 with S:=R.2 }/\Kpt C.n0 (C.plus W.heap.size hi).kb w6 w') :=
     hen.mono fun e w' ⟨h1,h2,h3⟩=>by
      have hs:=RI.store (C:=C.plus W.heap.size hi) (fI.out.later hbd) (hR▸h2) h3 (by rw[gZ.out.2.1,<-hR];exact gZ.out.1.enter _ _ hpq);exact⟨_,h1,by rw[hR],hs.1,(Kpt.of_below hbd).trans hs.2⟩
    refine zo 8 fun K hK=>?_;refine zlK (by rfl) (.func 187) [.tmp 50,.tmp 52,.tmp 53] _ (by rfl) 187 _ zyc (by rfl) _ (by rfl) _ had ?_;rintro v7 w7 ⟨rfl,dY,tC⟩;have qQ:=zh (qR.out.trans tC);have j2:=qQ.out.blk (.inr (.inr ⟨xC.out,l2⟩)) K2.out;have jg:=zh dY;have p9:(fun w':World=>w'.cell? ⟨rb,6,none⟩=some (.pointer (some ⟨C.sb,0,none⟩))/\w'.cell? ⟨pb,1,none⟩=some (.slice B1 q.ps.length d1)) w7:=⟨by rw[<-eY.out];exact dY.cells.1,zc j2 rfl⟩
    refine hK.out _ _ ⟨p9,trivial⟩ ?_;have HS7:=zh p9;have lK:=zh dY.below;clear hK K had dY tC j2 p9 hSS hen;(try simp only[zQ]);have uo:=zh (bL.out.trans (Kpt.less (C:=C) qQ.out));rw[hR] at nH;have had:=zlr ⟨rb,0,none⟩ R.1 w7;refine zp 9 fun K hK=>?_;refine zlo (by rfl) (.func 197) [.tmp 46,.tmp 54] _ (by rfl) 197 _ zmM (by rfl) _ (by rfl) (fun v w'=>w'=w7/\R.1=0) (had.mono ?_) ?_
    ·rintro e y1 ⟨rfl,hv1⟩;rcases hv1 with⟨h0,u0,rfl⟩|⟨h0,rfl⟩
     ·exact .inl ⟨_,rfl,rfl,h0⟩
     ·refine .inr ⟨_,rfl,?_⟩;refine⟨rfl,uo.out,lK.out,?_⟩
      try rw[bE.out]
      rw[<-nH.out,show zkf r1 R=.err R.1 by unfold zkf;rw[if_pos h0]];rfl
    rintro v8 w8 ⟨rfl,h0⟩;have jI:=zh (show caR C.p.prs C.F g back i q.b { r1 with S:=R.2 }=o by rw[<-nH.out,show zkf r1 R=.ok { r1 with S:=R.2 } by unfold zkf;rw[if_neg (by simpa using h0)]];rfl);refine hK.out _ _ HS7.out ?_;clear hK K had h0;(try simp only[zQ]);refine zd ?_;obtain⟨r2,hr2⟩:∃ x,({ r1 with S:=R.2 }:RS)=x:=⟨_,rfl⟩
    rw[hr2] at jg jI;have he2:r2.ent.length=C.p.prs.length:=jg.out.el;have hi2:i<r2.ent.length:=by rw[he2];exact sN.out
    have hn2:r2.ent.getD i 0+1<=r2.n:=by
     rw[<-hr2];simp only;rw[gZ.out.2.2,gZ.out.2.1,List.getD_eq_getElem?_getD,List.getElem?_eq_getElem (by rw[H.out.el];exact sN.out)];have:=H.out.en _ (List.getElem_mem (l:=r.ent) (n:=i) (by rw[H.out.el];exact sN.out));simp only[Option.getD_some];omega
    obtain⟨eg,ec,hev,hcz,hcf,hrc,hkc⟩:=jg.out.count uz.out hi2 hn2;have hev':C.ev=.slice (some ⟨eg,0,none⟩) r2.ent.length ec:=hev;obtain⟨-,-,-,e9,-⟩:=jg.out.cells;have e9':w8.cell? ⟨rb,9,none⟩=some (.slice (some ⟨eg,0,none⟩) z5 ec):=by
     rw[<-eY.out,<-qx.out,<-he2,<-hev'];exact e9
    have hnn:=jg.out.n;have wu:IntKind.i64.wrap ((r2.ent.getD i 0:Nat)+1:Int)=((r2.ent.getD i 0+1:Nat):Int):=by rw[IntWalk.i64_in _ (by omega)];omega
    have gG:=zh (show(runO C.p.prs C.F g back q.b { r2 with ent:=r2.ent.set i (r2.ent.getD i 0+1) }).bind (fun r=>(zkw C.F r).bind fun r=>zkf r (zla r.S))=o from jI.out);obtain⟨e0,he0⟩:∃ e,r2.ent.getD i 0=e:=⟨_,rfl⟩
    rw[he0] at hcz hrc hkc wu gG;obtain⟨w9,jq⟩:∃ x,w8.setCell ⟨eg,i,none⟩ (.int .i64 ((e0+1:Nat):Int))=x:=⟨_,rfl⟩
    rw[jq] at hrc hkc;obtain⟨r3,hr3⟩:∃ x,({ r2 with ent:=r2.ent.set i (e0+1) }:RS)=x:=⟨_,rfl⟩
    rw[hr3] at hrc gG;have qF:=zh hrc;have qP:=zh (qQ.out.trans hkc);have iN:=zh (bL.out.trans (Kpt.less (C:=C) qP.out));have dh:=zh (show Below C.w.heap.size C.w w9 from hrc.below);have j2:=qP.out.blk (.inr (.inr ⟨xC.out,l2⟩)) K2.out;have hgu:runO C.p.prs C.F g back q.b r3 ≠ .gas:=fun e=>cz.out (by rw[<-gG.out,e];rfl);have ax:=zh (zlA HS.out uz.out qF.out q.b _ back HPRR.out.body hG1 hgu);rw[show(C.plus W.heap.size hi).rb=rb from eY.out] at ax;have HJ2:=zh j2;have hi1:=qX.out;have hi0:(0:Int)<=(i:Int):=by omega
    rw[show((e0+1:Nat):Int)=(e0:Int)+1 by omega] at wu jq;clear hr2 he2 hi2 hn2 hev hev' e9 hnn he0 hr3 hrc hkc j2 hgu hG1 jI HS7 hbd hpq hR;go_upto_region 12 with fail;clear jq hcz hcf e9' wu;have q2:w9.cell? ⟨pb,2,none⟩=some (.int .u8 q.b.k):=zc HJ2.out rfl;have q3:w9.cell? ⟨pb,3,none⟩=some (.int .i64 q.b.n):=zc HJ2.out rfl;have q4:w9.cell? ⟨pb,4,none⟩=some (.string q.b.s):=zc HJ2.out rfl;have q5:w9.cell? ⟨pb,5,none⟩=some (.slice B2 q.b.ks.length d2):=zc HJ2.out rfl;go_wp2_with fail;refine ax.out.mono ?_;rintro e aQ ⟨hk10,hb10,jw⟩;have HK510:=zh (qP.out.trans hk10);have qU:=zh (bL.out.trans (Kpt.less (C:=C) HK510.out));have lM:=zh (show Below C.w.heap.size C.w aQ from hb10);have iX:match runO C.p.prs C.F g back q.b r3 with
     | .gas=>True
     | .err x=>e=zl2 x
     | .ok r=>(∃ u,e=.returned u)/\RI (C.plus W.heap.size hi) aQ r:=jw
    clear q2 q3 q4 q5 hk10 hb10 jw ax
    cases hx:runO C.p.prs C.F g back q.b r3 with
    | gas=>exact absurd (by rw[<-gG.out,hx];rfl) cz.out
    | err x =>
     rw[hx] at iX;subst iX;refine⟨rfl,qU.out,lM.out,?_⟩
     try rw[bE.out]
     rw[<-gG.out,hx];rfl
    | ok r4 =>
     rw[hx] at iX;obtain⟨⟨u9,rfl⟩,hr4⟩:=iX;have HST:=zh (zmn uz.out hr4);rw[show(C.plus W.heap.size hi).rb=rb from eY.out] at HST;have dU:=zh (show((zkw C.F r4).bind fun r=>zkf r (zla r.S))=o by rw[<-gG.out,hx];rfl);have HR10:=zh hr4;clear hx hr4;go_wp2_with fail;refine HST.out.mono ?_;rintro e aJ ⟨gN,mW,mD⟩;have HK511:=zh (HK510.out.trans gN);have iO:=zh (bL.out.trans (Kpt.less (C:=C) HK511.out));have fT:=zh (show Below C.w.heap.size C.w aJ from mW);have iW:match zkw C.F r4 with
      | .gas=>True
      | .err x=>e=zl2 x
      | .ok r=>(∃ u,e=.returned u)/\RI (C.plus W.heap.size hi) aJ r:=mD
     clear gN mW mD HST
     cases hy:zkw C.F r4 with
     | gas=>exact absurd (by rw[<-dU.out,hy];rfl) cz.out
     | err x =>
      rw[hy] at iW;subst iW;refine⟨rfl,iO.out,fT.out,?_⟩
      try rw[bE.out]
      rw[<-dU.out,hy];rfl
     | ok r5 =>
      rw[hy] at iW;obtain⟨⟨u9,rfl⟩,jr⟩:=iW;have jH:=zh jr;have gY:=zh (show FB r4.n r5.S/\r5.n=r4.n+1 by obtain⟨rfl,-⟩:=zky hy;exact⟨HR10.out.fb,rfl⟩);obtain⟨Rc,jP⟩:∃ R,zla r5.S=R:=⟨_,rfl⟩
      have dN:=zh (show zkf r5 Rc=o by rw[<-dU.out,hy,<-jP];rfl);have y6:aJ.cell? ⟨rb,6,none⟩=some (.pointer (some ⟨C.sb,0,none⟩)):=by rw[<-eY.out];exact jr.cells.1
      clear jr hy;go_wp2_with fail;refine(jH.out.ks.leave).mono ?_;rintro e fU ⟨rfl,h2,h3⟩;have hs:=RI.store (C:=C.plus W.heap.size hi) jH.out h2 h3 (by rw[gY.out.2];exact gY.out.1.leave);rw[jP] at hs ⊢;have lh:=zh hs.1;have HK512:=zh (HK511.out.trans hs.2);have fQ:=zh hs.1.below;have HK12:=zh (bL.out.trans (Kpt.less (C:=C) HK512.out));clear hs h2 h3 y6;go_wp2_with fail;refine(zlr ⟨rb,0,none⟩ Rc.1 fU).mono ?_;rintro e y1 ⟨rfl,hv1⟩;rcases hv1 with⟨h0,u0,rfl⟩|⟨h0,rfl⟩
      ·have fK:=zh (show o=.ok { r5 with S:=Rc.2 } by rw[<-dN.out];unfold zkf;rw[if_neg (by simpa using h0)]);have HR13:=zh lh.out.less;clear h0;go_wp2_with fail;go_end0;refine⟨HK12.out,fQ.out,?_⟩
       try rw[bE.out]
       rw[fK.out];exact⟨⟨_,rfl⟩,HR13.out⟩
      ·refine⟨rfl,HK12.out,fQ.out,?_⟩
       try rw[bE.out]
       rw[<-dN.out,show zkf r5 Rc=.err Rc.1 by unfold zkf;rw[if_pos h0]]
end Go.Proofs.YtckhofdinldhpaaGreat
