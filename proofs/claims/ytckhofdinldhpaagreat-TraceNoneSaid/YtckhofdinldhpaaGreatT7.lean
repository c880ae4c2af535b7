/-
  Texts of the proof, put together without their remarks: Ic, Iu, Iw, Ix, Iy, Il, Iv, Id, It, Lim, Val, Scp, Ik.
-/
import Derived.Test.YtckhofdinldhpaaGreatT6
set_option linter.unusedSimpArgs false
set_option linter.unusedVariables false
set_option maxHeartbeats 8000000
set_option maxRecDepth 100000
namespace Go.Proofs.YtckhofdinldhpaaGreat
open Go Go.RowKit
def brO (prs:List PR) (F:Int) (g:Nat) (back:Bool) (t:T) (r:RS):Out :=
 holdsO F (fstT back t) r fun yes r=>(bodyO (execO prs F g back) (blkL back (if yes=true then kid t 1 else kid t 2)) r).bind (assertO F (lstT back t) yes)
theorem branch_any {G:List PR->T->Prop} {g:Nat} (hS:IStC G g) {C:RC} (hC:C.Ok) {W:World} {r:RS} (h:RI C W r) (t:T) (v:Value) (back:Bool) (hv:NV C.w Any t v) (hk:t.ks.length=4) (hG1:∀ u∈(kid t 1).ks,G C.p.prs u) (hG2:∀ u∈(kid t 2).ks,G C.p.prs u)
  (hgas:brO C.p.prs C.F g back t r ≠ .gas) :
  Calls Tryz.prog 193 #[.pointer (some ⟨C.rb,0,none⟩),v,.bool back] W (RunP C W (brO C.p.prs C.F g back t r)):=by
 obtain ⟨A,c,rfl,-,hlk,hlc,hrow⟩:=hv.open_
 have HROW:=zh hrow
 have HS:=zh hS
 have HV:=zh hv
 have hb0:=bl_al (Below.refl W.heap.size W) (.cells #[.int .u8 t.k,.int .i64 t.n,.string t.s,.slice A t.ks.length c] 29)
 obtain ⟨x0,x1,x2,x3⟩:=box4 (heap_alloc_new W (.cells #[.int .u8 t.k,.int .i64 t.n,.string t.s,.slice A t.ks.length c] 29))
 have HB0:=zh hb0
 have H:=zh h
 have HC:=zh hC
 have HX:=zh (heap_alloc_new W (.cells #[.int .u8 t.k,.int .i64 t.n,.string t.s,.slice A t.ks.length c] 29))
 have HEN:=zh (fun w' (hb:Below W.heap.size W w')=>ends_any t _ back C.w w' (bl_tt h.below hb) hv (by omega))
 have HKL:=zh hk
 clear hrow hS hb0 h hv hk hC hlk
 go_enter Tryz.func193,Tryz.ntmps193
 go_wp2_with fail
 refine (HEN.out _ HB0.out).mono ?_
 rintro e w2 ⟨v1,v2,rfl,n1,n2,b2⟩
 obtain ⟨t1,ht1⟩:∃ x,fstT back t=x:=⟨_,rfl⟩
 obtain ⟨t2,ht2⟩:∃ x,lstT back t=x:=⟨_,rfl⟩
 have HT1:=zh ht1
 have HT2:=zh ht2
 rw [ht1] at n1
 rw [ht2] at n2
 obtain ⟨A1,c1,rfl,-⟩:=n1.open_
 obtain ⟨A2,c2,rfl,-⟩:=n2.open_
 have HN1:=zh n1
 have HN2:=zh n2
 have b3:=bl_al (bl_al (bl_tt HB0.out b2) (.cells #[.int .u8 t1.k,.int .i64 t1.n,.string t1.s,.slice A1 t1.ks.length c1] 29)) (.cells #[.int .u8 t2.k,.int .i64 t2.n,.string t2.s,.slice A2 t2.ks.length c2] 29)
 have k0:=blk_al (blk_al (blk_bl HX.out b2) (.cells #[.int .u8 t1.k,.int .i64 t1.n,.string t1.s,.slice A1 t1.ks.length c1] 29)) (.cells #[.int .u8 t2.k,.int .i64 t2.n,.string t2.s,.slice A2 t2.ks.length c2] 29)
 have k1:=blk_al (heap_alloc_new w2 (.cells #[.int .u8 t1.k,.int .i64 t1.n,.string t1.s,.slice A1 t1.ks.length c1] 29)) (.cells #[.int .u8 t2.k,.int .i64 t2.n,.string t2.s,.slice A2 t2.ks.length c2] 29)
 have k2:=heap_alloc_new (w2.alloc (.cells #[.int .u8 t1.k,.int .i64 t1.n,.string t1.s,.slice A1 t1.ks.length c1] 29)) (.cells #[.int .u8 t2.k,.int .i64 t2.n,.string t2.s,.slice A2 t2.ks.length c2] 29)
 simp only [World.size_alloc] at k2
 obtain ⟨w3,hw3⟩:∃ x,(w2.alloc (.cells #[.int .u8 t1.k,.int .i64 t1.n,.string t1.s,.slice A1 t1.ks.length c1] 29)).alloc (.cells #[.int .u8 t2.k,.int .i64 t2.n,.string t2.s,.slice A2 t2.ks.length c2] 29)=x:=⟨_,rfl⟩
 rw [hw3] at b3 k0 k1 k2
 have hz2:=bl_tt HB0.out b2
 have hzz:=hz2.size
 obtain ⟨hC3,h3⟩:=H.out.plus HC.out b3
 have HP3:=zh (Kpt.of_below (n0:=C.n0) (kb:=C.kb) b3)
 have l0:=blk_lt k0
 have l1:=blk_lt k1
 have l2:=blk_lt k2
 obtain ⟨hi,hhi⟩:∃ x,w3.heap.size=x:=⟨_,rfl⟩
 rw [hhi] at hC3 h3 l0 l1 l2
 have HC3:=zh hC3
 have H3:=zh h3
 have K0:=zh k0
 have K1:=zh k1
 have K2:=zh k2
 have HHO:=zh (holds_any hC3 h3 t1 _ n1)
 obtain ⟨p1,⟨y0,y1,y2,y3⟩⟩:True/\(w3.cell? ⟨w2.heap.size,0,none⟩=some (.int .u8 t1.k)/\w3.cell? ⟨w2.heap.size,1,none⟩=some (.int .i64 t1.n)/\w3.cell? ⟨w2.heap.size,2,none⟩=some (.string t1.s)/\w3.cell? ⟨w2.heap.size,3,none⟩=some (.slice A1 t1.ks.length c1)):=⟨trivial,zc k1 rfl,zc k1 rfl,zc k1 rfl,zc k1 rfl⟩
 clear n1 n2 b2 b3 k0 k1 k2 hz2 hC3 h3 x0 x1 x2 x3 HX HB0 HEN p1 ht1 ht2
 go_upto_region 2 with fail
 clear hw3
 go_wp2_with fail
 refine HHO.out.mono ?_
 rintro e w4 ⟨hk4,hb4,ho4⟩
 have HK4:=zh (HP3.out.trans (Kpt.less (C:=C) hk4))
 have HB4:=zh (show Below C.w.heap.size C.w w4 from hb4)
 clear y0 y1 y2 y3 HHO
 rcases ho4 with ⟨x,rfl,hx⟩|⟨b,r1,rfl,hr1,hx⟩
 ·refine ⟨rfl,HK4.out,HB4.out,?_⟩
  rw [show brO C.p.prs C.F g back t r=.err x by unfold brO; rw [HT1.out]; exact hx _]
 ·have k0:=hk4.blk (.inr (.inr ⟨by omega,l0⟩)) K0.out
  have k2:=hk4.blk (.inr (.inr ⟨by omega,l2⟩)) K2.out
  have HR4:=zh hr1
  have HBR:=zh (show brO C.p.prs C.F g back t r=(runO C.p.prs C.F g back (if b=true then kid t 1 else kid t 2) r1).bind (assertO C.F t2 b) by unfold brO; rw [HT1.out,HT2.out]; exact hx _)
  have K4:=zh k0
  have K5:=zh k2
  have z3:w4.cell? ⟨W.heap.size,3,none⟩=some (.slice A t.ks.length c):=zc k0 rfl
  have HGA:=zh hgas
  clear hk4 hb4 hr1 hx k0 k2 hgas
  cases b
  ·skip
   have hI:2<t.ks.length:=by have:=HKL.out; omega
   have hI1:(2:Int)<(t.ks.length:Int):=by omega
   obtain ⟨a,u,Au,cu,rfl,-,hu,⟨p0,p1,p2,p3⟩,hnu⟩:=HROW.out.nd hI
   have hku:kid t 2=u:=by unfold kid; rw [List.getD_eq_getElem?_getD,List.getElem?_eq_getElem hI]; exact hu.out
   have HGU:=zh (show ∀ x∈u.ks,G C.p.prs x by rw [<-hku]; exact hG2)
   have HBR2:=zh (show brO C.p.prs C.F g back t r=(runO C.p.prs C.F g back u r1).bind (assertO C.F t2 false) by rw [HBR.out]; simp only [Bool.false_eq_true,if_false,if_true,hku])
   have hgu:runO C.p.prs C.F g back u r1 ≠ .gas:=fun e=>HGA.out (by rw [HBR2.out,e]; rfl)
   have HBK:=zh (iblock_any HS.out HC3.out HR4.out u _ back hnu HGU.out hgu)
   have ha:a.add (2*4)=⟨a.block,a.off+8,none⟩:=by unfold Addr.add; split<;>simp_all
   rw [ha] at p0 p1 p2 p3
   have q0:w4.cell? ⟨a.block,a.off+8,none⟩=some (.int .u8 u.k):=zb HB4.out p0
   have q1:w4.cell? ⟨a.block,a.off+8+1,none⟩=some (.int .i64 u.n):=zb HB4.out p1
   have q2:w4.cell? ⟨a.block,a.off+8+2,none⟩=some (.string u.s):=zb HB4.out p2
   have q3:w4.cell? ⟨a.block,a.off+8+3,none⟩=some (.slice Au u.ks.length cu):=zb HB4.out p3
   clear hku hnu hu p0 p1 p2 p3 hgu
   go_wp2_with fail
   refine HBK.out.mono ?_
   rintro e w5 ⟨hk5,hb5,ho5⟩
   have HK5:=zh (HK4.out.trans (Kpt.less (C:=C) hk5))
   have HB5:=zh (show Below C.w.heap.size C.w w5 from hb5)
   have ho5':match runO C.p.prs C.F g back u r1 with
    | .gas=>True
    | .err x=>e=failE x
    | .ok r=>(∃ u,e=.returned u)/\RI (C.plus W.heap.size hi) w5 r:=ho5
   have k5:=hk5.blk (.inr (.inr ⟨by omega,l2⟩)) K5.out
   have K6:=zh k5
   clear q0 q1 q2 q3 z3 hk5 hb5 ho5 k5
   cases hx:runO C.p.prs C.F g back u r1 with
   | gas=>exact absurd (by rw [HBR2.out,hx]; rfl) HGA.out
   | err x =>
    rw [hx] at ho5'
    subst ho5'
    refine ⟨rfl,HK5.out,HB5.out,?_⟩
    rw [HBR2.out,hx]
    rfl
   | ok r2 =>
    rw [hx] at ho5'
    obtain ⟨⟨u2,rfl⟩,hr2⟩:=ho5'
    have HAS:=zh (assert_any HC3.out hr2 t2 _ HN2.out false)
    have HBR3:=zh (show brO C.p.prs C.F g back t r=assertO C.F t2 false r2 by rw [HBR2.out,hx]; rfl)
    have q0:w5.cell? ⟨w2.heap.size+1,0,none⟩=some (.int .u8 t2.k):=zc K6.out rfl
    have q1:w5.cell? ⟨w2.heap.size+1,1,none⟩=some (.int .i64 t2.n):=zc K6.out rfl
    have q2:w5.cell? ⟨w2.heap.size+1,2,none⟩=some (.string t2.s):=zc K6.out rfl
    have q3:w5.cell? ⟨w2.heap.size+1,3,none⟩=some (.slice A2 t2.ks.length c2):=zc K6.out rfl
    clear hx hr2
    go_wp2_with fail
    refine HAS.out.mono ?_
    rintro e w6 ⟨hk6,hb6,ho6⟩
    have HK6:=zh (HK5.out.trans (Kpt.less (C:=C) hk6))
    have HB6:=zh (show Below C.w.heap.size C.w w6 from hb6)
    have ho6':match assertO C.F t2 false r2 with
     | .gas=>True
     | .err x=>e=failE x
     | .ok r=>(∃ u,e=.returned u)/\RI (C.plus W.heap.size hi) w6 r:=ho6
    clear q0 q1 q2 q3 hk6 hb6 ho6
    cases hy:assertO C.F t2 false r2 with
    | gas=>exact absurd (by rw [HBR3.out,hy]) HGA.out
    | err x =>
     rw [hy] at ho6'
     subst ho6'
     refine ⟨rfl,HK6.out,HB6.out,?_⟩
     rw [HBR3.out,hy]
    | ok r3 =>
     rw [hy] at ho6'
     obtain ⟨⟨u3,rfl⟩,hr3⟩:=ho6'
     have HR6:=zh hr3.less
     have HBR4:=zh (show brO C.p.prs C.F g back t r=.ok r3 by rw [HBR3.out,hy])
     clear hr3 hy
     go_wp2_with fail
     go_end0
     refine ⟨HK6.out,HB6.out,?_⟩
     rw [HBR4.out]
     exact ⟨⟨_,rfl⟩,HR6.out⟩
  ·skip
   have hI:1<t.ks.length:=by have:=HKL.out; omega
   have hI1:(1:Int)<(t.ks.length:Int):=by omega
   obtain ⟨a,u,Au,cu,rfl,-,hu,⟨p0,p1,p2,p3⟩,hnu⟩:=HROW.out.nd hI
   have hku:kid t 1=u:=by unfold kid; rw [List.getD_eq_getElem?_getD,List.getElem?_eq_getElem hI]; exact hu.out
   have HGU:=zh (show ∀ x∈u.ks,G C.p.prs x by rw [<-hku]; exact hG1)
   have HBR2:=zh (show brO C.p.prs C.F g back t r=(runO C.p.prs C.F g back u r1).bind (assertO C.F t2 true) by rw [HBR.out]; simp only [Bool.false_eq_true,if_false,if_true,hku])
   have hgu:runO C.p.prs C.F g back u r1 ≠ .gas:=fun e=>HGA.out (by rw [HBR2.out,e]; rfl)
   have HBK:=zh (iblock_any HS.out HC3.out HR4.out u _ back hnu HGU.out hgu)
   have ha:a.add (1*4)=⟨a.block,a.off+4,none⟩:=by unfold Addr.add; split<;>simp_all
   rw [ha] at p0 p1 p2 p3
   have q0:w4.cell? ⟨a.block,a.off+4,none⟩=some (.int .u8 u.k):=zb HB4.out p0
   have q1:w4.cell? ⟨a.block,a.off+4+1,none⟩=some (.int .i64 u.n):=zb HB4.out p1
   have q2:w4.cell? ⟨a.block,a.off+4+2,none⟩=some (.string u.s):=zb HB4.out p2
   have q3:w4.cell? ⟨a.block,a.off+4+3,none⟩=some (.slice Au u.ks.length cu):=zb HB4.out p3
   clear hku hnu hu p0 p1 p2 p3 hgu
   go_wp2_with fail
   refine HBK.out.mono ?_
   rintro e w5 ⟨hk5,hb5,ho5⟩
   have HK5:=zh (HK4.out.trans (Kpt.less (C:=C) hk5))
   have HB5:=zh (show Below C.w.heap.size C.w w5 from hb5)
   have ho5':match runO C.p.prs C.F g back u r1 with
    | .gas=>True
    | .err x=>e=failE x
    | .ok r=>(∃ u,e=.returned u)/\RI (C.plus W.heap.size hi) w5 r:=ho5
   have k5:=hk5.blk (.inr (.inr ⟨by omega,l2⟩)) K5.out
   have K6:=zh k5
   clear q0 q1 q2 q3 z3 hk5 hb5 ho5 k5
   cases hx:runO C.p.prs C.F g back u r1 with
   | gas=>exact absurd (by rw [HBR2.out,hx]; rfl) HGA.out
   | err x =>
    rw [hx] at ho5'
    subst ho5'
    refine ⟨rfl,HK5.out,HB5.out,?_⟩
    rw [HBR2.out,hx]
    rfl
   | ok r2 =>
    rw [hx] at ho5'
    obtain ⟨⟨u2,rfl⟩,hr2⟩:=ho5'
    have HAS:=zh (assert_any HC3.out hr2 t2 _ HN2.out true)
    have HBR3:=zh (show brO C.p.prs C.F g back t r=assertO C.F t2 true r2 by rw [HBR2.out,hx]; rfl)
    have q0:w5.cell? ⟨w2.heap.size+1,0,none⟩=some (.int .u8 t2.k):=zc K6.out rfl
    have q1:w5.cell? ⟨w2.heap.size+1,1,none⟩=some (.int .i64 t2.n):=zc K6.out rfl
    have q2:w5.cell? ⟨w2.heap.size+1,2,none⟩=some (.string t2.s):=zc K6.out rfl
    have q3:w5.cell? ⟨w2.heap.size+1,3,none⟩=some (.slice A2 t2.ks.length c2):=zc K6.out rfl
    clear hx hr2
    go_wp2_with fail
    refine HAS.out.mono ?_
    rintro e w6 ⟨hk6,hb6,ho6⟩
    have HK6:=zh (HK5.out.trans (Kpt.less (C:=C) hk6))
    have HB6:=zh (show Below C.w.heap.size C.w w6 from hb6)
    have ho6':match assertO C.F t2 true r2 with
     | .gas=>True
     | .err x=>e=failE x
     | .ok r=>(∃ u,e=.returned u)/\RI (C.plus W.heap.size hi) w6 r:=ho6
    clear q0 q1 q2 q3 hk6 hb6 ho6
    cases hy:assertO C.F t2 true r2 with
    | gas=>exact absurd (by rw [HBR3.out,hy]) HGA.out
    | err x =>
     rw [hy] at ho6'
     subst ho6'
     refine ⟨rfl,HK6.out,HB6.out,?_⟩
     rw [HBR3.out,hy]
    | ok r3 =>
     rw [hy] at ho6'
     obtain ⟨⟨u3,rfl⟩,hr3⟩:=ho6'
     have HR6:=zh hr3.less
     have HBR4:=zh (show brO C.p.prs C.F g back t r=.ok r3 by rw [HBR3.out,hy])
     clear hr3 hy
     go_wp2_with fail
     go_end0
     refine ⟨HK6.out,HB6.out,?_⟩
     rw [HBR4.out]
     exact ⟨⟨_,rfl⟩,HR6.out⟩
def Up (n:Nat) (o:Out):Prop:=∀ r,o=.ok r->n<=r.n
section
variable {m n:Nat} {o:Out} {F:Int} {t:T} {r:RS}
theorem Up.of (h:Good n o):Up n o:=h.2
theorem Up.mono (h:Up n o) (hm:m<=n):Up m o:=fun r e=>Nat.le_trans hm (h r e)
theorem Up.bind {f:RS->Out} (h:Up n o) (hf:∀ r,n<=r.n->Up m (f r)):Up m (o.bind f):=by
 cases o with
 | gas=>intro r e; cases e
 | err x=>intro r e; cases e
 | ok r=>exact hf r (h r rfl)
theorem valO_up {f:Int->RS->Out} (hf:∀ x,Up m (f x r)):Up m (valO t r f):=by
 unfold valO
 split
 ·intro r e; cases e
 ·exact hf _
theorem holdsO_up {f:Bool->RS->Out} (hf:∀ b r',r.n+1<=r'.n->Up m (f b r')):Up m (holdsO F t r f):=by
 unfold holdsO
 exact (Up.of (stepO_good F r)).bind fun r' h=>valO_up fun x=>hf _ _ h
theorem bodyO_up {f:T->RS->Out} (hf:∀ t r,Up r.n (f t r)):∀ (l:List T) (r:RS),Up r.n (bodyO f l r)
 | [],r=>fun r' e=>by injection e with e; subst e; exact Nat.le_refl _
 | t::ts,r=>by
  rw [bodyO]
  exact (hf t r).bind fun r1 h1=>(bodyO_up hf ts r1).mono h1
theorem loopO_up {f:T->RS->Out} (hf:∀ t r,Up r.n (f t r)) {entry test:T} {l1 l2:List T}:∀ (m:Nat) (r:RS),Up r.n (loopO F f entry test l1 l2 m r)
 | 0,_=>fun r' e=>by cases e
 | m+1,r=>by
  rw [loopO]
  refine (bodyO_up hf l1 r).bind fun r1 h1=>holdsO_up fun b r2 h2=>?_
  split
  ·intro r' e; injection e with e; subst e; omega
  ·refine (bodyO_up hf l2 r2).bind fun r3 h3=>(Up.of (assertO_good F entry false r3)).bind fun r4 h4=>?_
   exact (loopO_up hf m r4).mono (by omega)
end
theorem execO_up {prs:List PR} {F:Int}:∀ (g:Nat) (back:Bool) (t:T) (r:RS),Up r.n (execO prs F g back t r)
 | 0,_,_,_=>fun r' e=>by cases e
 | g+1,back,t,r=>by
  have hb:∀ (back:Bool) l r1,Up r1.n (bodyO (execO prs F g back) l r1):=fun back l r1=>bodyO_up (fun u r2=>execO_up g back u r2) l r1
  rw [execO]
  split
  ·exact holdsO_up fun b r1 h1=>(hb _ _ r1).bind fun r2 h2=>(Up.of (assertO_good _ _ _ _)).mono (by omega)
  ·split
   ·refine (Up.of (assertO_good _ _ _ _)).bind fun r1 h1=>?_
    exact (loopO_up (fun u r2=>execO_up g back u r2) g r1).mono (by omega)
   ·split
    ·refine (Up.of (stepO_good F r)).bind fun r1 h1=>valO_up fun x=>?_
     refine (Up.of (storeO_good r1 _)).bind fun r2 h2=>(hb _ _ r2).bind fun r3 h3=>(Up.of (stepO_good F r3)).bind fun r4 h4=>valO_up fun x=>?_
     exact (Up.of (storeO_good r4 _)).mono (by omega)
    ·split
     ·refine (Up.of (stepO_good F r)).bind fun r1 h1=>?_
      refine (Up.of (storeO_good r1 _)).bind fun r2 h2=>(hb _ _ r2).bind fun r3 h3=>(Up.of (stepO_good F r3)).bind fun r4 h4=>?_
      exact (Up.of (storeO_good r4 _)).mono (by omega)
     ·split
      ·split
       ·intro r' e; cases e
       ·refine (Up.of (stepO_good F r)).bind fun r1 h1=>?_
        refine (Up.of (storeO_good r1 _)).bind fun r2 h2=>(hb _ _ _).bind fun r3 h3=>(Up.of (stepO_good F r3)).bind fun r4 h4=>?_
        exact (Up.of (storeO_good r4 _)).mono (by simp only at h3; omega)
      ·refine (Up.of (stepO_good F r)).bind fun r1 h1=>?_
       exact (Up.of (storeO_good r1 _)).mono (by omega)
def lpO (prs:List PR) (F:Int) (g:Nat) (back:Bool) (t:T) (r:RS):Out :=
 (assertO F (fstT back t) true r).bind (loopO F (execO prs F g back) (fstT back t) (lstT back t) (blkL back (kid t 1)) (blkL back (kid t 2)) g)
def stp (rb:Nat) (W:World):Nat:=match W.cell? ⟨rb,7,none⟩ with
 | some (.int _ n)=>n.toNat
 | _=>0
theorem stp_eq {C:RC} {W:World} {r:RS} (h:RI C W r):stp C.rb W=r.n:=by
 unfold stp
 rw [h.cells.2.1]
 simp
theorem loop_any {G:List PR->T->Prop} {g:Nat} (hS:IStC G g) {C:RC} (hC:C.Ok) {W:World} {r:RS} (h:RI C W r) (t:T) (v:Value) (back:Bool) (hv:NV C.w Any t v) (hk:t.ks.length=4) (hG1:∀ u∈(kid t 1).ks,G C.p.prs u) (hG2:∀ u∈(kid t 2).ks,G C.p.prs u)
  (hgas:lpO C.p.prs C.F g back t r ≠ .gas) :
  Calls Tryz.prog 194 #[.pointer (some ⟨C.rb,0,none⟩),v,.bool back] W (RunP C W (lpO C.p.prs C.F g back t r)):=by
 obtain ⟨A,c,rfl,-,hlk,hlc,hrow⟩:=hv.open_
 have HROW:=zh hrow
 have HS:=zh hS
 have HV:=zh hv
 have hb0:=bl_al (Below.refl W.heap.size W) (.cells #[.int .u8 t.k,.int .i64 t.n,.string t.s,.slice A t.ks.length c] 29)
 obtain ⟨x0,x1,x2,x3⟩:=box4 (heap_alloc_new W (.cells #[.int .u8 t.k,.int .i64 t.n,.string t.s,.slice A t.ks.length c] 29))
 have HB0:=zh hb0
 have H:=zh h
 have HC:=zh hC
 have HX:=zh (heap_alloc_new W (.cells #[.int .u8 t.k,.int .i64 t.n,.string t.s,.slice A t.ks.length c] 29))
 have HEN:=zh (fun w' (hb:Below W.heap.size W w')=>ends_any t _ back C.w w' (bl_tt h.below hb) hv (by omega))
 have HKL:=zh hk
 clear hrow hS hb0 h hv hk hC hlk
 go_enter Tryz.func194,Tryz.ntmps194
 go_wp2_with fail
 refine (HEN.out _ HB0.out).mono ?_
 rintro e w2 ⟨v1,v2,rfl,n1,n2,b2⟩
 obtain ⟨t1,ht1⟩:∃ x,fstT back t=x:=⟨_,rfl⟩
 obtain ⟨t2,ht2⟩:∃ x,lstT back t=x:=⟨_,rfl⟩
 have HT1:=zh ht1
 have HT2:=zh ht2
 rw [ht1] at n1
 rw [ht2] at n2
 obtain ⟨A1,c1,rfl,-⟩:=n1.open_
 obtain ⟨A2,c2,rfl,-⟩:=n2.open_
 have HN1:=zh n1
 have HN2:=zh n2
 have b3:=bl_al (bl_al (bl_tt HB0.out b2) (.cells #[.int .u8 t1.k,.int .i64 t1.n,.string t1.s,.slice A1 t1.ks.length c1] 29)) (.cells #[.int .u8 t2.k,.int .i64 t2.n,.string t2.s,.slice A2 t2.ks.length c2] 29)
 have k0:=blk_al (blk_al (blk_bl HX.out b2) (.cells #[.int .u8 t1.k,.int .i64 t1.n,.string t1.s,.slice A1 t1.ks.length c1] 29)) (.cells #[.int .u8 t2.k,.int .i64 t2.n,.string t2.s,.slice A2 t2.ks.length c2] 29)
 have k1:=blk_al (heap_alloc_new w2 (.cells #[.int .u8 t1.k,.int .i64 t1.n,.string t1.s,.slice A1 t1.ks.length c1] 29)) (.cells #[.int .u8 t2.k,.int .i64 t2.n,.string t2.s,.slice A2 t2.ks.length c2] 29)
 have k2:=heap_alloc_new (w2.alloc (.cells #[.int .u8 t1.k,.int .i64 t1.n,.string t1.s,.slice A1 t1.ks.length c1] 29)) (.cells #[.int .u8 t2.k,.int .i64 t2.n,.string t2.s,.slice A2 t2.ks.length c2] 29)
 simp only [World.size_alloc] at k2
 obtain ⟨w3,hw3⟩:∃ x,(w2.alloc (.cells #[.int .u8 t1.k,.int .i64 t1.n,.string t1.s,.slice A1 t1.ks.length c1] 29)).alloc (.cells #[.int .u8 t2.k,.int .i64 t2.n,.string t2.s,.slice A2 t2.ks.length c2] 29)=x:=⟨_,rfl⟩
 rw [hw3] at b3 k0 k1 k2
 have hz2:=bl_tt HB0.out b2
 have hzz:=hz2.size
 obtain ⟨hC3,h3⟩:=H.out.plus HC.out b3
 have HP3:=zh (Kpt.of_below (n0:=C.n0) (kb:=C.kb) b3)
 have l0:=blk_lt k0
 have l1:=blk_lt k1
 have l2:=blk_lt k2
 obtain ⟨hi,hhi⟩:∃ x,w3.heap.size=x:=⟨_,rfl⟩
 rw [hhi] at hC3 h3 l0 l1 l2
 have HC3:=zh hC3
 have H3:=zh h3
 have K0:=zh k0
 have K1:=zh k1
 have K2:=zh k2
 have HHO:=zh (assert_any hC3 h3 t1 _ n1 true)
 obtain ⟨p1,⟨y0,y1,y2,y3⟩⟩:True/\(w3.cell? ⟨w2.heap.size,0,none⟩=some (.int .u8 t1.k)/\w3.cell? ⟨w2.heap.size,1,none⟩=some (.int .i64 t1.n)/\w3.cell? ⟨w2.heap.size,2,none⟩=some (.string t1.s)/\w3.cell? ⟨w2.heap.size,3,none⟩=some (.slice A1 t1.ks.length c1)):=⟨trivial,zc k1 rfl,zc k1 rfl,zc k1 rfl,zc k1 rfl⟩
 clear n1 n2 b2 b3 k0 k1 k2 hz2 hC3 h3 x0 x1 x2 x3 HX HB0 HEN p1 ht1 ht2
 go_upto_region 2 with fail
 clear hw3
 obtain ⟨o,ho⟩:∃ o,lpO C.p.prs C.F g back t r=o:=⟨_,rfl⟩
 have HO:=zh (show (assertO C.F t1 true r).bind (loopO C.F (execO C.p.prs C.F g back) t1 t2 (blkL back (kid t 1)) (blkL back (kid t 2)) g)=o by rw [<-ho]; unfold lpO; rw [HT1.out,HT2.out])
 rw [ho] at hgas ⊢
 have HGA:=zh hgas
 have HLP:=zh ho
 clear hgas ho
 go_wp2_with fail
 refine HHO.out.mono ?_
 rintro e w4 ⟨hk4,hb4,ho4⟩
 have HK4:=zh (HP3.out.trans (Kpt.less (C:=C) hk4))
 have HB4:=zh (show Below C.w.heap.size C.w w4 from hb4)
 have ho4':match assertO C.F t1 true r with
  | .gas=>True
  | .err x=>e=failE x
  | .ok r=>(∃ u,e=.returned u)/\RI (C.plus W.heap.size hi) w4 r:=ho4
 have HK34:=zh hk4
 clear y0 y1 y2 y3 HHO hk4 hb4 ho4
 cases hy:assertO C.F t1 true r with
 | gas=>exact absurd (by rw [<-HO.out,hy]; rfl) HGA.out
 | err x =>
  rw [hy] at ho4'
  subst ho4'
  refine ⟨rfl,HK4.out,HB4.out,?_⟩
  rw [<-HO.out,hy]
  rfl
 | ok r1 =>
  rw [hy] at ho4'
  obtain ⟨⟨u3,rfl⟩,hr1⟩:=ho4'
  have HR4:=zh hr1
  have HO4:=zh (show loopO C.F (execO C.p.prs C.F g back) t1 t2 (blkL back (kid t 1)) (blkL back (kid t 2)) g r1=o by rw [<-HO.out,hy]; rfl)
  clear hr1 hy
  have hI1:(1:Int)<(t.ks.length:Int):=by have:=HKL.out; omega
  have hI2:(2:Int)<(t.ks.length:Int):=by have:=HKL.out; omega
  have hi1:1<t.ks.length:=by omega
  have hi2:2<t.ks.length:=by omega
  obtain ⟨a,u,Au,cu,rfl,-,hu,⟨p0,p1,p2,p3⟩,hnu⟩:=HROW.out.nd hi1
  obtain ⟨a',u',Au',cu',e',-,hu',⟨p4,p5,p6,p7⟩,hnu'⟩:=HROW.out.nd hi2
  injection e' with e'
  subst e'
  have hku:kid t 1=u:=by unfold kid; rw [List.getD_eq_getElem?_getD,List.getElem?_eq_getElem hi1]; exact hu.out
  have hku':kid t 2=u':=by unfold kid; rw [List.getD_eq_getElem?_getD,List.getElem?_eq_getElem hi2]; exact hu'.out
  rw [hku] at hG1
  rw [hku'] at hG2
  rw [hku,hku'] at HO4
  have HG1:=zh hG1
  have HG2:=zh hG2
  have HNU:=zh hnu
  have HNU':=zh hnu'
  have ha:a.add (1*4)=⟨a.block,a.off+4,none⟩:=by unfold Addr.add; split<;>simp_all
  have ha':a.add (2*4)=⟨a.block,a.off+8,none⟩:=by unfold Addr.add; split<;>simp_all
  rw [ha] at p0 p1 p2 p3
  rw [ha'] at p4 p5 p6 p7
  have HPP:=zh (show ∀ w',Below C.w.heap.size C.w w'->(w'.cell? ⟨a.block,a.off+4,none⟩=some (.int .u8 u.k)/\w'.cell? ⟨a.block,a.off+4+1,none⟩=some (.int .i64 u.n)/\w'.cell? ⟨a.block,a.off+4+2,none⟩=some (.string u.s)/\w'.cell? ⟨a.block,a.off+4+3,none⟩=some (.slice Au u.ks.length cu))/\(w'.cell? ⟨a.block,a.off+8,none⟩=some (.int .u8 u'.k)/\w'.cell? ⟨a.block,a.off+8+1,none⟩=some (.int .i64 u'.n)/\w'.cell? ⟨a.block,a.off+8+2,none⟩=some (.string u'.s)/\w'.cell? ⟨a.block,a.off+8+3,none⟩=some (.slice Au' u'.ks.length cu')) from fun w' hb=>⟨⟨zb hb p0,zb hb p1,zb hb p2,zb hb p3⟩,⟨zb hb p4,zb hb p5,zb hb p6,zb hb p7⟩⟩)
  clear hku hku' hnu hnu' hu hu' p0 p1 p2 p3 p4 p5 p6 p7 ha ha' hG1 hG2
  have hz0:W.heap.size<hi:=l0
  go_wp2_with fail
  go_loopw [] (fun wr=>∃ (m:Nat) (r1:RS),Hid (RI (C.plus W.heap.size hi) wr r1)/\Hid (Kpt C.n0 (C.plus W.heap.size hi).kb w3 wr)/\Hid (loopO C.F (execO C.p.prs C.F g back) t1 t2 (blkL back u) (blkL back u') m r1=o)) (fun wr=>C.F.toNat-stp C.rb wr)
  case atStart=>exact ⟨g,r1,HR4,HK34,HO4⟩
  case round =>
   obtain ⟨m,r3,HR,HK,HL⟩:=hrel
   have j0:=HK.out.blk (.inr (.inr ⟨by omega,l0⟩)) K0.out
   have j1:=HK.out.blk (.inr (.inr ⟨by omega,l1⟩)) K1.out
   have j2:=HK.out.blk (.inr (.inr ⟨by omega,l2⟩)) K2.out
   have z3:wr.cell? ⟨W.heap.size,3,none⟩=some (.slice (some a) t.ks.length c):=zc j0 rfl
   cases m with
   | zero=>exact absurd HL.out.symm HGA.out
   | succ m =>
    have HL2:=zh (show (runO C.p.prs C.F g back u r3).bind (fun r=>holdsO C.F t2 r fun b r=>if b=true then .ok r else (runO C.p.prs C.F g back u' r).bind fun r=>(assertO C.F t1 false r).bind (loopO C.F (execO C.p.prs C.F g back) t1 t2 (blkL back u) (blkL back u') m))=o from HL.out)
    have hgu:runO C.p.prs C.F g back u r3 ≠ .gas:=fun e=>HGA.out (by rw [<-HL2.out,e]; rfl)
    have HBK:=zh (iblock_any HS.out HC3.out HR.out u _ back HNU.out HG1.out hgu)
    obtain ⟨⟨q0,q1,q2,q3⟩,-⟩:=HPP.out wr HR.out.below
    clear hgu j0 j1 j2
    go_wp2_with fail
    refine HBK.out.mono ?_
    rintro e w5 ⟨hk5,hb5,ho5⟩
    have HK5:=zh (HK.out.trans hk5)
    have HB5:=zh (show Below C.w.heap.size C.w w5 from hb5)
    have ho5':match runO C.p.prs C.F g back u r3 with
     | .gas=>True
     | .err x=>e=failE x
     | .ok r=>(∃ u,e=.returned u)/\RI (C.plus W.heap.size hi) w5 r:=ho5
    clear q0 q1 q2 q3 z3 hk5 hb5 ho5 HBK
    cases hx:runO C.p.prs C.F g back u r3 with
    | gas=>exact absurd (by rw [<-HL2.out,hx]; rfl) HGA.out
    | err x =>
     rw [hx] at ho5'
     subst ho5'
     refine ⟨rfl,HP3.out.trans (Kpt.less (C:=C) HK5.out),HB5.out,?_⟩
     try rw [HLP.out]
     rw [<-HL2.out,hx]
     rfl
    | ok r4 =>
     rw [hx] at ho5'
     obtain ⟨⟨u2,rfl⟩,hr4⟩:=ho5'
     have HUP:=zh (bodyO_up (fun t r=>execO_up g back t r) (blkL back u) r3 r4 hx)
     have HL3:=zh (show (holdsO C.F t2 r4 fun b r=>if b=true then .ok r else (runO C.p.prs C.F g back u' r).bind fun r=>(assertO C.F t1 false r).bind (loopO C.F (execO C.p.prs C.F g back) t1 t2 (blkL back u) (blkL back u') m))=o by rw [<-HL2.out,hx]; rfl)
     have HHO2:=zh (holds_any HC3.out hr4 t2 _ HN2.out)
     have j2:=HK5.out.blk (.inr (.inr ⟨by omega,l2⟩)) K2.out
     have q0:w5.cell? ⟨w2.heap.size+1,0,none⟩=some (.int .u8 t2.k):=zc j2 rfl
     have q1:w5.cell? ⟨w2.heap.size+1,1,none⟩=some (.int .i64 t2.n):=zc j2 rfl
     have q2:w5.cell? ⟨w2.heap.size+1,2,none⟩=some (.string t2.s):=zc j2 rfl
     have q3:w5.cell? ⟨w2.heap.size+1,3,none⟩=some (.slice A2 t2.ks.length c2):=zc j2 rfl
     clear hx hr4 j2
     go_wp2_with fail
     refine HHO2.out.mono ?_
     rintro e w6 ⟨hk6,hb6,ho6⟩
     have HK6:=zh (HK5.out.trans hk6)
     have HB6:=zh (show Below C.w.heap.size C.w w6 from hb6)
     clear q0 q1 q2 q3 hk6 hb6 HHO2
     rcases ho6 with ⟨x,rfl,hx⟩|⟨b,r5,rfl,hr5,hx⟩
     ·refine ⟨rfl,HP3.out.trans (Kpt.less (C:=C) HK6.out),HB6.out,?_⟩
      try rw [HLP.out]
      rw [<-HL3.out,show ∀ f,holdsO C.F t2 r4 f=.err x from hx]
     ·have HR6:=zh hr5
      have HL4:=zh (show (if b=true then .ok r5 else (runO C.p.prs C.F g back u' r5).bind fun r=>(assertO C.F t1 false r).bind (loopO C.F (execO C.p.prs C.F g back) t1 t2 (blkL back u) (blkL back u') m))=o by rw [<-HL3.out,show ∀ f,holdsO C.F t2 r4 f=f b r5 from hx])
      have HUP2:=zh (holdsO_up (t:=t2) (F:=C.F) (r:=r4) (m:=r4.n+1) (f:=fun _ r=>.ok r) (fun b r' h r'' e=>by injection e with e; subst e; exact h) r5 (hx _))
      clear hx hr5
      cases b
      ·have HL5:=zh (show (runO C.p.prs C.F g back u' r5).bind (fun r=>(assertO C.F t1 false r).bind (loopO C.F (execO C.p.prs C.F g back) t1 t2 (blkL back u) (blkL back u') m))=o from HL4.out)
       have hgu:runO C.p.prs C.F g back u' r5 ≠ .gas:=fun e=>HGA.out (by rw [<-HL5.out,e]; rfl)
       have HBK:=zh (iblock_any HS.out HC3.out HR6.out u' _ back HNU'.out HG2.out hgu)
       have j0:=HK6.out.blk (.inr (.inr ⟨by omega,l0⟩)) K0.out
       have z3:w6.cell? ⟨W.heap.size,3,none⟩=some (.slice (some a) t.ks.length c):=zc j0 rfl
       obtain ⟨-,q0,q1,q2,q3⟩:=HPP.out w6 HB6.out
       clear hgu j0
       go_wp2_with fail
       refine HBK.out.mono ?_
       rintro e w7 ⟨hk7,hb7,ho7⟩
       have HK7:=zh (HK6.out.trans hk7)
       have HB7:=zh (show Below C.w.heap.size C.w w7 from hb7)
       have ho7':match runO C.p.prs C.F g back u' r5 with
        | .gas=>True
        | .err x=>e=failE x
        | .ok r=>(∃ u,e=.returned u)/\RI (C.plus W.heap.size hi) w7 r:=ho7
       clear q0 q1 q2 q3 z3 hk7 hb7 ho7 HBK
       cases hx:runO C.p.prs C.F g back u' r5 with
       | gas=>exact absurd (by rw [<-HL5.out,hx]; rfl) HGA.out
       | err x =>
        rw [hx] at ho7'
        subst ho7'
        refine ⟨rfl,HP3.out.trans (Kpt.less (C:=C) HK7.out),HB7.out,?_⟩
        try rw [HLP.out]
        rw [<-HL5.out,hx]
        rfl
       | ok r6 =>
        rw [hx] at ho7'
        obtain ⟨⟨u2,rfl⟩,hr6⟩:=ho7'
        have HUP3:=zh (bodyO_up (fun t r=>execO_up g back t r) (blkL back u') r5 r6 hx)
        have HL6:=zh (show (assertO C.F t1 false r6).bind (loopO C.F (execO C.p.prs C.F g back) t1 t2 (blkL back u) (blkL back u') m)=o by rw [<-HL5.out,hx]; rfl)
        have HAS:=zh (assert_any HC3.out hr6 t1 _ HN1.out false)
        have j1:=HK7.out.blk (.inr (.inr ⟨by omega,l1⟩)) K1.out
        have q0:w7.cell? ⟨w2.heap.size,0,none⟩=some (.int .u8 t1.k):=zc j1 rfl
        have q1:w7.cell? ⟨w2.heap.size,1,none⟩=some (.int .i64 t1.n):=zc j1 rfl
        have q2:w7.cell? ⟨w2.heap.size,2,none⟩=some (.string t1.s):=zc j1 rfl
        have q3:w7.cell? ⟨w2.heap.size,3,none⟩=some (.slice A1 t1.ks.length c1):=zc j1 rfl
        clear hx hr6 j1
        go_wp2_with fail
        refine HAS.out.mono ?_
        rintro e w8 ⟨hk8,hb8,ho8⟩
        have HK8:=zh (HK7.out.trans hk8)
        have HB8:=zh (show Below C.w.heap.size C.w w8 from hb8)
        have ho8':match assertO C.F t1 false r6 with
         | .gas=>True
         | .err x=>e=failE x
         | .ok r=>(∃ u,e=.returned u)/\RI (C.plus W.heap.size hi) w8 r:=ho8
        clear q0 q1 q2 q3 hk8 hb8 ho8 HAS
        cases hy:assertO C.F t1 false r6 with
        | gas=>exact absurd (by rw [<-HL6.out,hy]; rfl) HGA.out
        | err x =>
         rw [hy] at ho8'
         subst ho8'
         refine ⟨rfl,HP3.out.trans (Kpt.less (C:=C) HK8.out),HB8.out,?_⟩
         try rw [HLP.out]
         rw [<-HL6.out,hy]
         rfl
        | ok r7 =>
         rw [hy] at ho8'
         obtain ⟨⟨u3,rfl⟩,hr7⟩:=ho8'
         have HR7:=zh hr7
         have HL7:=zh (show loopO C.F (execO C.p.prs C.F g back) t1 t2 (blkL back u) (blkL back u') m r7=o by rw [<-HL6.out,hy]; rfl)
         have hmm:C.F.toNat-stp C.rb w8<C.F.toNat-stp C.rb wr:=by
          have e1:stp C.rb w8=r7.n:=stp_eq (C:=C.plus W.heap.size hi) HR7.out
          have e2:stp C.rb wr=r3.n:=stp_eq (C:=C.plus W.heap.size hi) HR.out
          obtain ⟨e3,e4⟩:=assertO_ok hy
          have e5:=HUP.out
          have e6:=HUP2.out
          have e7:=HUP3.out
          have e8:r7.n=r6.n+1:=by rw [e3]
          omega
         have HMM:=zh hmm
         clear hr7 hy hmm
         go_wp2_with fail
         go_roundw
         case rel=>exact ⟨m,r7,HR7,HK8,HL7⟩
         case measure=>exact HMM.out
      ·have HL5:=zh (show o=.ok r5 from HL4.out.symm)
       have HR8:=zh HR6.out.less
       go_wp2_with fail
       go_end0
       refine ⟨HP3.out.trans (Kpt.less (C:=C) HK6.out),HB6.out,?_⟩
       try rw [HLP.out]
       rw [HL5.out]
       exact ⟨⟨_,rfl⟩,HR8.out⟩
section
variable {C:RC} {W W':World} {r:RS} {S':ST}
theorem RI.store (h:RI C W r) (hk:KS C.w C.n0 C.sb (fun b=>C.kb b\/b=C.rb\/C.ev.ownBlock=some b) W' S') (hp:Kpt C.n0 (fun b=>C.kb b\/b=C.rb\/C.ev.ownBlock=some b) W W') (hf:FB r.n S') :
  RI C W' { r with S:=S' }/\Kpt C.n0 C.kb W W' :=
 ⟨⟨hk,hp.blk (.inr (.inr (.inl rfl))) h.box,own_chg h.ent fun b hb=>hp.kept b (h.ent.lt b hb).2 (.inr (.inr (.inr hb))),h.el,h.en,h.n,hf⟩,⟨hp.size,fun b hb hk=>hp.kept b hb (hk.imp id .inl)⟩⟩
end
theorem FB.fr {j:Nat} {S S':ST} (h:FB j S) (hf:FrK S S'):FB (j+1) S':=by
 obtain ⟨h1,h2,_⟩:=hf
 unfold FB
 rw [h1,h2]
 exact h.mono (Nat.le_succ _)
theorem FB.cur {j:Nat} {S:ST} (h:FB j S):S.cur.vs.length<=1000+j:=by
 rcases Nat.eq_zero_or_pos S.calls.length with h0|h0
 ·rw [cur_0 h0]; have:=h.1; omega
 ·rw [cur_1 h0]; exact h.2 _ (List.getElem_mem _)
theorem FB.setCur {j:Nat} {S:ST} (h:FB j S) (f:FR) (hf:f.vs.length<=S.cur.vs.length+1):FB (j+1) (S.setCur f):=by
 unfold ST.setCur
 by_cases h0:S.calls.length=0
 ·rw [if_pos h0]
  rw [cur_0 h0] at hf
  exact ⟨by have:=h.1; show f.vs.length<=_; omega,(h.mono (Nat.le_succ _)).2⟩
 ·rw [if_neg h0]
  refine ⟨(h.mono (Nat.le_succ _)).1,fun g hg=>?_⟩
  rw [cur_1 (by omega)] at hf
  rcases List.mem_or_eq_of_mem_set hg with hg|rfl
  ·exact (h.mono (Nat.le_succ _)).2 g hg
  ·have:=h.2 _ (List.getElem_mem (l:=S.calls) (n:=S.calls.length-1) (by omega)); omega
theorem FB.open_ {j:Nat} {S:ST} (h:FB j S) (v:VD) (x:Int):FB (j+1) (openE S v x).2:=by
 unfold openE
 repeat' split
 all_goals first|exact h.mono (Nat.le_succ _)|exact FB.setCur (S:=S.newCell _) h _ (by rw [newCell_cur]; simp [FR.push])
theorem FB.close_ {j:Nat} {S:ST} (h:FB j S) (s:ByteArray) (x:Int):FB (j+1) (closeE S s x).2:=by
 unfold closeE
 repeat' split
 all_goals first|exact h.mono (Nat.le_succ _)|skip
 all_goals exact h.setCur _ (by simp [FR.pop]; omega)
theorem FB.enter {j:Nat} {S:ST} (h:FB j S) (ps:List VD) (ss:List ByteArray) (hp:ps.length<=1000):FB (j+1) (enterE S ps ss).2:=by
 unfold enterE
 split
 ·exact h.mono (Nat.le_succ _)
 ·rcases he:entL S.cur ⟨[],[],0⟩ (ps.zip ss) with e|f
  ·exact h.mono (Nat.le_succ _)
  ·unfold entR
   dsimp only
   split
   ·exact h.mono (Nat.le_succ _)
   ·refine ⟨(h.mono (Nat.le_succ _)).1,fun g hg=>?_⟩
    rcases List.mem_append.1 hg with hg|hg
    ·exact (h.mono (Nat.le_succ _)).2 g hg
    ·simp at hg
     subst hg
     have:=entL_len _ _ _ he
     simp at this
     omega
theorem FB.leave {j:Nat} {S:ST} (h:FB j S):FB (j+1) (leaveE S).2:=by
 unfold leaveE
 split
 ·exact h.mono (Nat.le_succ _)
 ·exact ⟨(h.mono (Nat.le_succ _)).1,fun g hg=>(h.mono (Nat.le_succ _)).2 g (List.mem_of_mem_take hg)⟩
theorem FB.do_ {j:Nat} {S:ST} (h:FB j S) (t:T):FB (j+1) (doE S t).2:=h.fr (doE_fr _ _)
theorem FB.undo {j:Nat} {S:ST} (h:FB j S) (t:T):FB (j+1) (undoE S t).2:=h.fr (undoE_fr _ _)
theorem step_callP {P:Program} {ops:Array Oper} {o:Oper} {a:Act} {w:World} {K:Act->World->Prop} {Q:Exit->Act->World->Prop} {F:Prop} (hw:Region.wanted o (yielded ops a.tmps)=true) (x:Operand) (xs:List Operand) (ats:Array TypeId)
  (ho:o.op=.call { callee:=.value x,args:=xs.toArray,argTypes:=ats }) (f:FuncId) (fn:Func) (hf:IsFn P f fn) (hv:a.eval x=.func (.func f) #[] #[]) (l:List Value) (hargs:xs.map a.eval=l) (R:Value->World->Prop)
  (hc:Calls P f l.toArray w fun e w'=>(∃ v,e=.returned v/\R v w')\/∃ ch,e=.panicked ch/\Q (.panic ch) a w') (h:∀ v w',R v w'->K (a.put o.dst v) w') :
  if Region.wanted o (yielded ops a.tmps)=true then Oper.wp P o a w K Q else F:=by
 rw [if_pos hw]
 subst hargs
 have e:(execOp a.eval o).run P w=.ok (.enter f (xs.map a.eval).toArray) w:=by
  unfold execOp
  simp only [ho,resolve,hv,Deferred.ofValue,Sem.run_bind,Sem.run_pure,Result.andThen_ok,invoke,run_callFunc hf,Array.empty_append,List.map_toArray,Array.append_empty]
 unfold Oper.wp
 rw [e,Oper.upon_enter]
 refine hc.mono ?_
 rintro e w' (⟨v,rfl,hR⟩|⟨ch,rfl,hq⟩)
 ·exact h v w' hR
 ·exact hq
theorem fnValue:IsFn Tryz.prog 211 Tryz.f211:=⟨Tryz.func211,by kernel_rfl,by kernel_rfl⟩
theorem fnCheckI:IsFn Tryz.prog 197 Tryz.f197:=⟨Tryz.func197,by kernel_rfl,by kernel_rfl⟩
theorem fnOpenI:IsFn Tryz.prog 185 Tryz.f185:=⟨Tryz.func185,by kernel_rfl,by kernel_rfl⟩
theorem fnCloseI:IsFn Tryz.prog 186 Tryz.f186:=⟨Tryz.func186,by kernel_rfl,by kernel_rfl⟩
def loR (prs:List PR) (F:Int) (g:Nat) (back:Bool) (t t2:T) (r:RS):Out :=
 (bodyO (execO prs F g back) (blkL back (kid t 1)) r).bind fun r=>(stepO F r).bind fun r=>valO t2 r fun x r=>storeO r (closeE r.S t.s x)
def loO (prs:List PR) (F:Int) (g:Nat) (back:Bool) (t:T) (r:RS):Out :=
 (stepO F r).bind fun r=>valO (fstT back t) r fun x r=>(storeO r (openE r.S ⟨t.s,1,0⟩ x)).bind (loR prs F g back t (lstT back t))
theorem local_any {G:List PR->T->Prop} {g:Nat} (hS:IStC G g) {C:RC} (hC:C.Ok) {W:World} {r:RS} (h:RI C W r) (t:T) (v:Value) (back:Bool) (hv:NV C.w Any t v) (hk:t.ks.length=3) (hG1:∀ u∈(kid t 1).ks,G C.p.prs u)
  (hgas:loO C.p.prs C.F g back t r ≠ .gas) :
  Calls Tryz.prog 195 #[.pointer (some ⟨C.rb,0,none⟩),v,.bool back] W (RunP C W (loO C.p.prs C.F g back t r)):=by
 obtain ⟨A,c,rfl,-,hlk,hlc,hrow⟩:=hv.open_
 have HROW:=zh hrow
 have HS:=zh hS
 have HV:=zh hv
 have hb0:=bl_al (Below.refl W.heap.size W) (.cells #[.int .u8 t.k,.int .i64 t.n,.string t.s,.slice A t.ks.length c] 29)
 obtain ⟨x0,x1,x2,x3⟩:=box4 (heap_alloc_new W (.cells #[.int .u8 t.k,.int .i64 t.n,.string t.s,.slice A t.ks.length c] 29))
 have HB0:=zh hb0
 have H:=zh h
 have HC:=zh hC
 have HX:=zh (heap_alloc_new W (.cells #[.int .u8 t.k,.int .i64 t.n,.string t.s,.slice A t.ks.length c] 29))
 have HEN:=zh (fun w' (hb:Below W.heap.size W w')=>ends_any t _ back C.w w' (bl_tt h.below hb) hv (by omega))
 have HKL:=zh hk
 clear hrow hS hb0 h hv hk hC hlk
 go_enter Tryz.func195,Tryz.ntmps195
 go_wp2_with fail
 refine (HEN.out _ HB0.out).mono ?_
 rintro e w2 ⟨v1,v2,rfl,n1,n2,b2⟩
 obtain ⟨t1,ht1⟩:∃ x,fstT back t=x:=⟨_,rfl⟩
 obtain ⟨t2,ht2⟩:∃ x,lstT back t=x:=⟨_,rfl⟩
 have HT1:=zh ht1
 have HT2:=zh ht2
 rw [ht1] at n1
 rw [ht2] at n2
 obtain ⟨A1,c1,rfl,-⟩:=n1.open_
 obtain ⟨A2,c2,rfl,-⟩:=n2.open_
 have HN1:=zh n1
 have HN2:=zh n2
 have b3:=bl_al (bl_al (bl_tt HB0.out b2) (.cells #[.int .u8 t1.k,.int .i64 t1.n,.string t1.s,.slice A1 t1.ks.length c1] 29)) (.cells #[.int .u8 t2.k,.int .i64 t2.n,.string t2.s,.slice A2 t2.ks.length c2] 29)
 have k0:=blk_al (blk_al (blk_bl HX.out b2) (.cells #[.int .u8 t1.k,.int .i64 t1.n,.string t1.s,.slice A1 t1.ks.length c1] 29)) (.cells #[.int .u8 t2.k,.int .i64 t2.n,.string t2.s,.slice A2 t2.ks.length c2] 29)
 have k1:=blk_al (heap_alloc_new w2 (.cells #[.int .u8 t1.k,.int .i64 t1.n,.string t1.s,.slice A1 t1.ks.length c1] 29)) (.cells #[.int .u8 t2.k,.int .i64 t2.n,.string t2.s,.slice A2 t2.ks.length c2] 29)
 have k2:=heap_alloc_new (w2.alloc (.cells #[.int .u8 t1.k,.int .i64 t1.n,.string t1.s,.slice A1 t1.ks.length c1] 29)) (.cells #[.int .u8 t2.k,.int .i64 t2.n,.string t2.s,.slice A2 t2.ks.length c2] 29)
 simp only [World.size_alloc] at k2
 obtain ⟨w3,hw3⟩:∃ x,(w2.alloc (.cells #[.int .u8 t1.k,.int .i64 t1.n,.string t1.s,.slice A1 t1.ks.length c1] 29)).alloc (.cells #[.int .u8 t2.k,.int .i64 t2.n,.string t2.s,.slice A2 t2.ks.length c2] 29)=x:=⟨_,rfl⟩
 rw [hw3] at b3 k0 k1 k2
 have hz2:=bl_tt HB0.out b2
 have hzz:=hz2.size
 obtain ⟨hC3,h3⟩:=H.out.plus HC.out b3
 have HP3:=zh (Kpt.of_below (n0:=C.n0) (kb:=C.kb) b3)
 have l0:=blk_lt k0
 have l1:=blk_lt k1
 have l2:=blk_lt k2
 obtain ⟨hi,hhi⟩:∃ x,w3.heap.size=x:=⟨_,rfl⟩
 rw [hhi] at hC3 h3 l0 l1 l2
 have HC3:=zh hC3
 have H3:=zh h3
 have K0:=zh k0
 have K1:=zh k1
 have K2:=zh k2
 have HHO:=zh (step_any hC3 h3)
 obtain ⟨p1,⟨y0,y1,y2,y3⟩⟩:True/\(w3.cell? ⟨w2.heap.size,0,none⟩=some (.int .u8 t1.k)/\w3.cell? ⟨w2.heap.size,1,none⟩=some (.int .i64 t1.n)/\w3.cell? ⟨w2.heap.size,2,none⟩=some (.string t1.s)/\w3.cell? ⟨w2.heap.size,3,none⟩=some (.slice A1 t1.ks.length c1)):=⟨trivial,zc k1 rfl,zc k1 rfl,zc k1 rfl,zc k1 rfl⟩
 clear n1 n2 b2 b3 k0 k1 k2 hz2 hC3 h3 x0 x1 x2 x3 HX HB0 HEN p1 ht1 ht2
 go_upto_region 2 with fail
 clear hw3
 obtain ⟨o,ho⟩:∃ o,loO C.p.prs C.F g back t r=o:=⟨_,rfl⟩
 have HO:=zh (show (stepO C.F r).bind (fun r=>valO t1 r fun x r=>(storeO r (openE r.S ⟨t.s,1,0⟩ x)).bind (loR C.p.prs C.F g back t t2))=o by rw [<-ho]; unfold loO loR; rw [HT1.out,HT2.out])
 rw [ho] at hgas ⊢
 have HGA:=zh hgas
 have HLP:=zh ho
 clear hgas ho
 go_wp2_with fail
 refine HHO.out.mono ?_
 rintro e w4 ⟨hk4,hb4,ho4⟩
 have HK4:=zh (HP3.out.trans (Kpt.less (C:=C) hk4))
 have HB4:=zh (show Below C.w.heap.size C.w w4 from hb4)
 have ho4':match stepO C.F r with
  | .gas=>True
  | .err x=>e=failE x
  | .ok r=>(∃ u,e=.returned u)/\RI (C.plus W.heap.size hi) w4 r:=ho4
 have HK34:=zh hk4
 clear y0 y1 y2 y3 HHO hk4 hb4 ho4
 cases hy:stepO C.F r with
 | gas=>exact absurd (by rw [<-HO.out,hy]; rfl) HGA.out
 | err x =>
  rw [hy] at ho4'
  subst ho4'
  refine ⟨rfl,HK4.out,HB4.out,?_⟩
  rw [<-HO.out,hy]
  rfl
 | ok r1 =>
  rw [hy] at ho4'
  obtain ⟨⟨u3,rfl⟩,hr1⟩:=ho4'
  have HR4:=zh hr1
  have HO4:=zh (show (valO t1 r1 fun x r=>(storeO r (openE r.S ⟨t.s,1,0⟩ x)).bind (loR C.p.prs C.F g back t t2))=o by rw [<-HO.out,hy]; rfl)
  have HFB:=zh (show FB r.n r1.S/\r1.n=r.n+1 by obtain ⟨rfl,-⟩:=stepO_ok hy; exact ⟨H.out.fb,rfl⟩)
  have j0:=HK34.out.blk (.inr (.inr ⟨by omega,l0⟩)) K0.out
  have j1:=HK34.out.blk (.inr (.inr ⟨by omega,l1⟩)) K1.out
  have HVA:=zh (fun w' (hb:Below w4.heap.size w4 w')=>value_any (hr1.later hb) t1 _ HN1.out)
  have HSS:=zh (show ∀ w',Below w4.heap.size w4 w'->(fun w':World=>w'.cell? ⟨C.rb,6,none⟩=some (.pointer (some ⟨C.sb,0,none⟩))/\w'.cell? ⟨W.heap.size,2,none⟩=some (.string t.s)/\w'.cell? ⟨w2.heap.size,0,none⟩=some (.int .u8 t1.k)/\w'.cell? ⟨w2.heap.size,1,none⟩=some (.int .i64 t1.n)/\w'.cell? ⟨w2.heap.size,2,none⟩=some (.string t1.s)/\w'.cell? ⟨w2.heap.size,3,none⟩=some (.slice A1 t1.ks.length c1)) w' from fun w' hb=>⟨zb hb hr1.cells.1,zb hb (zc j0 rfl),zb hb (zc j1 rfl),zb hb (zc j1 rfl),zb hb (zc j1 rfl),zb hb (zc j1 rfl)⟩)
  have HQ0:=zh (HSS.out _ (Below.refl _ _).drew)
  clear hr1 hy j0 j1
  go_upto_region 3 with fail
  have hSS:(fun w':World=>w'.cell? ⟨C.rb,6,none⟩=some (.pointer (some ⟨C.sb,0,none⟩))/\w'.cell? ⟨W.heap.size,2,none⟩=some (.string t.s)/\w'.cell? ⟨w2.heap.size,0,none⟩=some (.int .u8 t1.k)/\w'.cell? ⟨w2.heap.size,1,none⟩=some (.int .i64 t1.n)/\w'.cell? ⟨w2.heap.size,2,none⟩=some (.string t1.s)/\w'.cell? ⟨w2.heap.size,3,none⟩=some (.slice A1 t1.ks.length c1)) w4.drew/\(fun _:World=>True) w4.drew:=⟨HQ0.out,trivial⟩
  refine wp_region_G (fun w':World=>w'.cell? ⟨C.rb,6,none⟩=some (.pointer (some ⟨C.sb,0,none⟩))/\w'.cell? ⟨W.heap.size,2,none⟩=some (.string t.s)/\w'.cell? ⟨w2.heap.size,0,none⟩=some (.int .u8 t1.k)/\w'.cell? ⟨w2.heap.size,1,none⟩=some (.int .i64 t1.n)/\w'.cell? ⟨w2.heap.size,2,none⟩=some (.string t1.s)/\w'.cell? ⟨w2.heap.size,3,none⟩=some (.slice A1 t1.ks.length c1)) (fun _:World=>True) 12 (by kernel_rfl) ?_
  refine zT 0 hSS ?_
  (try simp only [Act.put,zP])
  refine zT 1 hSS ?_
  (try simp only [Act.put,zP])
  refine zT 2 hSS ?_
  (try simp only [Act.put,zP])
  refine zT 3 hSS ?_
  (try simp only [Act.put,zP])
  refine zT 4 hSS ?_
  (try simp only [Act.put,zP])
  refine zT 5 hSS ?_
  (try simp only [Act.put,zP])
  refine zT 6 hSS ?_
  (try simp only [Act.put,zP])
  refine zT 7 hSS ?_
  (try simp only [Act.put,zP])
  refine zT 8 hSS ?_
  (try simp only [Act.put,zP])
  refine zT 9 hSS ?_
  (try simp only [Act.put,zP])
  have had:Calls Tryz.prog 211 [.pointer (some ⟨C.rb,0,none⟩),nv t1.k t1.n t1.s A1 t1.ks.length c1].toArray w4.drew (ValP (C.plus W.heap.size hi) w4.drew t1 r1):=HVA.out _ (Below.refl _ _).drew
  refine wpG_one (i:=10) (by kernel_rfl) rfl (fun K hK=>?_)
  refine step_callP (by rfl) (.func 211) [.tmp 24,.tmp 25] _ (by rfl) 211 _ fnValue (by rfl) _ (by rfl) (fun v w'=>Below w4.heap.size w4 w'/\∃ x,v=.int .i64 x/\I64 x/\∀ f,valO t1 r1 f=f x r1) (had.mono ?_) ?_
  ·rintro e y1 ⟨by1,hv1⟩
   have b1:=bl_tt (Below.refl w4.heap.size w4).drew by1
   rcases hv1 with ⟨x,rfl,hx⟩|⟨x,rfl,hxx,hx⟩
   ·refine .inr ⟨_,rfl,?_⟩
    refine ⟨rfl,HK4.out.trans (Kpt.of_below b1),bl_tt HB4.out b1,?_⟩
    try rw [HLP.out]
    rw [<-HO4.out,hx]
   ·exact .inl ⟨_,rfl,b1,x,rfl,hxx,hx⟩
  rintro v5 w5 ⟨b5,x,rfl,hx,hvx⟩
  have HB5:=zh b5
  have HX5:=zh hx
  have HO5:=zh (show (storeO r1 (openE r1.S ⟨t.s,1,0⟩ x)).bind (loR C.p.prs C.F g back t t2)=o by rw [<-HO4.out,hvx])
  refine hK.out _ _ ⟨HSS.out _ b5,trivial⟩ ?_
  clear hK K had b5 hx hvx hSS HVA
  (try simp only [Act.put,zP])
  obtain ⟨R,hR⟩:∃ R,openE r1.S ⟨t.s,1,0⟩ x=R:=⟨_,rfl⟩
  have HRR:=zh hR
  have hcur:=HFB.out.1.cur
  have hn6:=H.out.n
  have had:Calls Tryz.prog 185 [.pointer (some ⟨C.sb,0,none⟩),.agg #[.string t.s,.int .u8 1,.int .i64 0],.int .i64 x].toArray w5 fun e w'=>∃ v,e=.returned v/\(v=.int .i64 R.1/\RI (C.plus W.heap.size hi) w' { r1 with S:=R.2 }/\Kpt C.n0 (C.plus W.heap.size hi).kb w5 w') :=
   ((HR4.out.later HB5.out).ks.open_ ⟨t.s,1,0⟩ (by obtain ⟨_,_,_,hf,-⟩:=HV.out.open_; exact ⟨hf.2.2,⟨by simp only; omega,by simp only; omega⟩,⟨by simp only; omega,by simp only; omega⟩⟩) x HX5.out (by omega)).mono fun e w' ⟨h1,h2,h3⟩=>⟨_,h1,by rw [hR],(RI.store (C:=C.plus W.heap.size hi) (HR4.out.later HB5.out) (hR▸h2) h3 (by rw [HFB.out.2,<-hR]; exact HFB.out.1.open_ _ _))⟩
  refine wpG_one (i:=11) (by kernel_rfl) rfl (fun K hK=>?_)
  refine step_callG (by rfl) (.func 185) [.tmp 20,.tmp 23,.tmp 26] _ (by rfl) 185 _ fnOpenI (by rfl) _ (by rfl) _ had ?_
  rintro v6 w6 ⟨rfl,hr6,hk6⟩
  have HK36:=zh (HK34.out.trans ((Kpt.of_below HB5.out).trans hk6))
  have j0:=HK36.out.blk (.inr (.inr ⟨by omega,l0⟩)) K0.out
  have j1:=HK36.out.blk (.inr (.inr ⟨by omega,l1⟩)) K1.out
  have HR6:=zh hr6
  have hSS6:(fun w':World=>w'.cell? ⟨C.rb,6,none⟩=some (.pointer (some ⟨C.sb,0,none⟩))/\w'.cell? ⟨W.heap.size,2,none⟩=some (.string t.s)/\w'.cell? ⟨w2.heap.size,0,none⟩=some (.int .u8 t1.k)/\w'.cell? ⟨w2.heap.size,1,none⟩=some (.int .i64 t1.n)/\w'.cell? ⟨w2.heap.size,2,none⟩=some (.string t1.s)/\w'.cell? ⟨w2.heap.size,3,none⟩=some (.slice A1 t1.ks.length c1)) w6:=⟨hr6.cells.1,zc j0 rfl,zc j1 rfl,zc j1 rfl,zc j1 rfl,zc j1 rfl⟩
  refine hK.out _ _ ⟨hSS6,trivial⟩ ?_
  have HS6:=zh hSS6
  have HB6:=zh hr6.below
  clear hK K had hr6 hk6 j0 j1 hSS6 HQ0 HSS
  (try simp only [Act.put,zP])
  have HK6:=zh (HP3.out.trans (Kpt.less (C:=C) HK36.out))
  rw [hR] at HO5
  have had:=check_any ⟨C.rb,0,none⟩ R.1 w6
  refine wpG_past (i:=12) (by kernel_rfl) rfl (by kernel_rfl) (fun K hK=>?_)
  refine step_callP (by rfl) (.func 197) [.tmp 16,.tmp 27] _ (by rfl) 197 _ fnCheckI (by rfl) _ (by rfl) (fun v w'=>w'=w6/\R.1=0) (had.mono ?_) ?_
  ·rintro e y1 ⟨rfl,hv1⟩
   rcases hv1 with ⟨h0,u0,rfl⟩|⟨h0,rfl⟩
   ·exact .inl ⟨_,rfl,rfl,h0⟩
   ·refine .inr ⟨_,rfl,?_⟩
    refine ⟨rfl,HK6.out,HB6.out,?_⟩
    try rw [HLP.out]
    rw [<-HO5.out,show storeO r1 R=.err R.1 by unfold storeO; rw [if_pos h0]]
    rfl
  rintro v7 w7 ⟨rfl,h0⟩
  have HO6:=zh (show loR C.p.prs C.F g back t t2 { r1 with S:=R.2 }=o by rw [<-HO5.out,show storeO r1 R=.ok { r1 with S:=R.2 } by unfold storeO; rw [if_neg (by simpa using h0)]]; rfl)
  refine hK.out _ _ HS6.out ?_
  clear hK K had h0
  (try simp only [Act.put,zP])
  refine wpG_done (by kernel_rfl) ?_
  obtain ⟨r2,hr2⟩:∃ x,({ r1 with S:=R.2 }:RS)=x:=⟨_,rfl⟩
  rw [hr2] at HR6 HO6
  have hI:1<t.ks.length:=by have:=HKL.out; omega
  have hI1:(1:Int)<(t.ks.length:Int):=by omega
  obtain ⟨a,u,Au,cu,rfl,-,hu,⟨p0,p1,p2,p3⟩,hnu⟩:=HROW.out.nd hI
  have hku:kid t 1=u:=by unfold kid; rw [List.getD_eq_getElem?_getD,List.getElem?_eq_getElem hI]; exact hu.out
  have HGU:=zh (show ∀ x∈u.ks,G C.p.prs x by rw [<-hku]; exact hG1)
  have HO7:=zh (show (runO C.p.prs C.F g back u r2).bind (fun r=>(stepO C.F r).bind fun r=>valO t2 r fun x r=>storeO r (closeE r.S t.s x))=o by rw [<-HO6.out,<-hku]; rfl)
  have hgu:runO C.p.prs C.F g back u r2 ≠ .gas:=fun e=>HGA.out (by rw [<-HO7.out,e]; rfl)
  have HBK:=zh (iblock_any HS.out HC3.out HR6.out u _ back hnu HGU.out hgu)
  have ha:a.add (1*4)=⟨a.block,a.off+4,none⟩:=by unfold Addr.add; split<;>simp_all
  rw [ha] at p0 p1 p2 p3
  have q0:=zb HB6.out p0
  have q1:=zb HB6.out p1
  have q2:=zb HB6.out p2
  have q3:=zb HB6.out p3
  have j0:=HK36.out.blk (.inr (.inr ⟨by omega,l0⟩)) K0.out
  have q4:=zc (i:=3) j0 rfl
  clear hku hnu hu p0 p1 p2 p3 hgu ha j0 hcur hn6
  go_wp2_with fail
  refine HBK.out.mono ?_
  rintro e w8 ⟨hk8,hb8,ho8⟩
  have HK38:=zh (HK36.out.trans hk8)
  have HK8:=zh (HP3.out.trans (Kpt.less (C:=C) HK38.out))
  have HB8:=zh (show Below C.w.heap.size C.w w8 from hb8)
  have ho8':match runO C.p.prs C.F g back u r2 with
   | .gas=>True
   | .err x=>e=failE x
   | .ok r=>(∃ u,e=.returned u)/\RI (C.plus W.heap.size hi) w8 r:=ho8
  clear q0 q1 q2 q3 q4 hk8 hb8 ho8 HBK
  cases hx:runO C.p.prs C.F g back u r2 with
  | gas=>exact absurd (by rw [<-HO7.out,hx]; rfl) HGA.out
  | err x =>
   rw [hx] at ho8'
   subst ho8'
   refine ⟨rfl,HK8.out,HB8.out,?_⟩
   try rw [HLP.out]
   rw [<-HO7.out,hx]
   rfl
  | ok r3 =>
   rw [hx] at ho8'
   obtain ⟨⟨u9,rfl⟩,hr3⟩:=ho8'
   have HST:=zh (step_any HC3.out hr3)
   have HO8:=zh (show ((stepO C.F r3).bind fun r=>valO t2 r fun x r=>storeO r (closeE r.S t.s x))=o by rw [<-HO7.out,hx]; rfl)
   have HR8:=zh hr3
   clear hx hr3
   go_wp2_with fail
   refine HST.out.mono ?_
   rintro e w9 ⟨hk9,hb9,ho9⟩
   have HK39:=zh (HK38.out.trans hk9)
   have HK9:=zh (HP3.out.trans (Kpt.less (C:=C) HK39.out))
   have HB9:=zh (show Below C.w.heap.size C.w w9 from hb9)
   have ho9':match stepO C.F r3 with
    | .gas=>True
    | .err x=>e=failE x
    | .ok r=>(∃ u,e=.returned u)/\RI (C.plus W.heap.size hi) w9 r:=ho9
   clear hk9 hb9 ho9 HST
   cases hy:stepO C.F r3 with
   | gas=>exact absurd (by rw [<-HO8.out,hy]; rfl) HGA.out
   | err x =>
    rw [hy] at ho9'
    subst ho9'
    refine ⟨rfl,HK9.out,HB9.out,?_⟩
    try rw [HLP.out]
    rw [<-HO8.out,hy]
    rfl
   | ok r4 =>
    rw [hy] at ho9'
    obtain ⟨⟨u9,rfl⟩,hr4⟩:=ho9'
    have HR9:=zh hr4
    have HO9:=zh (show (valO t2 r4 fun x r=>storeO r (closeE r.S t.s x))=o by rw [<-HO8.out,hy]; rfl)
    have HFB9:=zh (show FB r3.n r4.S/\r4.n=r3.n+1 by obtain ⟨rfl,-⟩:=stepO_ok hy; exact ⟨HR8.out.fb,rfl⟩)
    have j0:=HK39.out.blk (.inr (.inr ⟨by omega,l0⟩)) K0.out
    have j2:=HK39.out.blk (.inr (.inr ⟨by omega,l2⟩)) K2.out
    have HVA:=zh (fun w' (hb:Below w9.heap.size w9 w')=>value_any (hr4.later hb) t2 _ HN2.out)
    have HSS:=zh (show ∀ w',Below w9.heap.size w9 w'->(fun w':World=>w'.cell? ⟨C.rb,6,none⟩=some (.pointer (some ⟨C.sb,0,none⟩))/\w'.cell? ⟨W.heap.size,2,none⟩=some (.string t.s)/\w'.cell? ⟨w2.heap.size+1,0,none⟩=some (.int .u8 t2.k)/\w'.cell? ⟨w2.heap.size+1,1,none⟩=some (.int .i64 t2.n)/\w'.cell? ⟨w2.heap.size+1,2,none⟩=some (.string t2.s)/\w'.cell? ⟨w2.heap.size+1,3,none⟩=some (.slice A2 t2.ks.length c2)) w' from fun w' hb=>⟨zb hb hr4.cells.1,zb hb (zc j0 rfl),zb hb (zc j2 rfl),zb hb (zc j2 rfl),zb hb (zc j2 rfl),zb hb (zc j2 rfl)⟩)
    clear hr4 hy j0 j2
    go_upto_region 6 with fail
    have hSS:(fun w':World=>w'.cell? ⟨C.rb,6,none⟩=some (.pointer (some ⟨C.sb,0,none⟩))/\w'.cell? ⟨W.heap.size,2,none⟩=some (.string t.s)/\w'.cell? ⟨w2.heap.size+1,0,none⟩=some (.int .u8 t2.k)/\w'.cell? ⟨w2.heap.size+1,1,none⟩=some (.int .i64 t2.n)/\w'.cell? ⟨w2.heap.size+1,2,none⟩=some (.string t2.s)/\w'.cell? ⟨w2.heap.size+1,3,none⟩=some (.slice A2 t2.ks.length c2)) w9.drew/\(fun _:World=>True) w9.drew:=⟨HSS.out _ (Below.refl _ _).drew,trivial⟩
    refine wp_region_G (fun w':World=>w'.cell? ⟨C.rb,6,none⟩=some (.pointer (some ⟨C.sb,0,none⟩))/\w'.cell? ⟨W.heap.size,2,none⟩=some (.string t.s)/\w'.cell? ⟨w2.heap.size+1,0,none⟩=some (.int .u8 t2.k)/\w'.cell? ⟨w2.heap.size+1,1,none⟩=some (.int .i64 t2.n)/\w'.cell? ⟨w2.heap.size+1,2,none⟩=some (.string t2.s)/\w'.cell? ⟨w2.heap.size+1,3,none⟩=some (.slice A2 t2.ks.length c2)) (fun _:World=>True) 11 (by kernel_rfl) ?_
    refine zT 0 hSS ?_
    (try simp only [Act.put,zP])
    refine zT 1 hSS ?_
    (try simp only [Act.put,zP])
    refine zT 2 hSS ?_
    (try simp only [Act.put,zP])
    refine zT 3 hSS ?_
    (try simp only [Act.put,zP])
    refine zT 4 hSS ?_
    (try simp only [Act.put,zP])
    refine zT 5 hSS ?_
    (try simp only [Act.put,zP])
    refine zT 6 hSS ?_
    (try simp only [Act.put,zP])
    refine zT 7 hSS ?_
    (try simp only [Act.put,zP])
    refine zT 8 hSS ?_
    (try simp only [Act.put,zP])
    have had:Calls Tryz.prog 211 [.pointer (some ⟨C.rb,0,none⟩),nv t2.k t2.n t2.s A2 t2.ks.length c2].toArray w9.drew (ValP (C.plus W.heap.size hi) w9.drew t2 r4):=HVA.out _ (Below.refl _ _).drew
    refine wpG_one (i:=9) (by kernel_rfl) rfl (fun K hK=>?_)
    refine step_callP (by rfl) (.func 211) [.tmp 45,.tmp 46] _ (by rfl) 211 _ fnValue (by rfl) _ (by rfl) (fun v w'=>Below w9.heap.size w9 w'/\∃ x,v=.int .i64 x/\I64 x/\∀ f,valO t2 r4 f=f x r4) (had.mono ?_) ?_
    ·rintro e y1 ⟨by1,hv1⟩
     have b1:=bl_tt (Below.refl w9.heap.size w9).drew by1
     rcases hv1 with ⟨x,rfl,hx⟩|⟨x,rfl,hxx,hx⟩
     ·refine .inr ⟨_,rfl,?_⟩
      refine ⟨rfl,HK9.out.trans (Kpt.of_below b1),bl_tt HB9.out b1,?_⟩
      try rw [HLP.out]
      rw [<-HO9.out,hx]
     ·exact .inl ⟨_,rfl,b1,x,rfl,hxx,hx⟩
    rintro v10 w10 ⟨b10,z,rfl,hx,hvx⟩
    have HB10:=zh b10
    obtain ⟨Rc,hRc⟩:∃ R,closeE r4.S t.s z=R:=⟨_,rfl⟩
    have HO10:=zh (show storeO r4 Rc=o by rw [<-HO9.out,hvx,hRc])
    refine hK.out _ _ ⟨HSS.out _ b10,trivial⟩ ?_
    clear hK K had b10 hx hvx hSS HVA
    (try simp only [Act.put,zP])
    have had:Calls Tryz.prog 186 [.pointer (some ⟨C.sb,0,none⟩),.string t.s,.int .i64 z].toArray w10 fun e w'=>∃ v,e=.returned v/\(v=.int .i64 Rc.1/\RI (C.plus W.heap.size hi) w' { r4 with S:=Rc.2 }/\Kpt C.n0 (C.plus W.heap.size hi).kb w10 w') :=
     ((HR9.out.later HB10.out).ks.close t.s z).mono fun e w' ⟨h1,h2,h3⟩=>⟨_,h1,by rw [hRc],(RI.store (C:=C.plus W.heap.size hi) (HR9.out.later HB10.out) (hRc▸h2) h3 (by rw [HFB9.out.2,<-hRc]; exact HFB9.out.1.close_ _ _))⟩
    refine wpG_one (i:=10) (by kernel_rfl) rfl (fun K hK=>?_)
    refine step_callG (by rfl) (.func 186) [.tmp 42,.tmp 44,.tmp 47] _ (by rfl) 186 _ fnCloseI (by rfl) _ (by rfl) _ had ?_
    rintro v11 w11 ⟨rfl,hr11,hk11⟩
    have HK311:=zh (HK39.out.trans ((Kpt.of_below HB10.out).trans hk11))
    have j0:=HK311.out.blk (.inr (.inr ⟨by omega,l0⟩)) K0.out
    have j2:=HK311.out.blk (.inr (.inr ⟨by omega,l2⟩)) K2.out
    have HR11:=zh hr11
    have hSS6:(fun w':World=>w'.cell? ⟨C.rb,6,none⟩=some (.pointer (some ⟨C.sb,0,none⟩))/\w'.cell? ⟨W.heap.size,2,none⟩=some (.string t.s)/\w'.cell? ⟨w2.heap.size+1,0,none⟩=some (.int .u8 t2.k)/\w'.cell? ⟨w2.heap.size+1,1,none⟩=some (.int .i64 t2.n)/\w'.cell? ⟨w2.heap.size+1,2,none⟩=some (.string t2.s)/\w'.cell? ⟨w2.heap.size+1,3,none⟩=some (.slice A2 t2.ks.length c2)) w11:=⟨hr11.cells.1,zc j0 rfl,zc j2 rfl,zc j2 rfl,zc j2 rfl,zc j2 rfl⟩
    refine hK.out _ _ ⟨hSS6,trivial⟩ ?_
    have HS6:=zh hSS6
    have HB11:=zh hr11.below
    clear hK K had hr11 hk11 j0 j2 hSS6 HSS
    (try simp only [Act.put,zP])
    have HK11:=zh (HP3.out.trans (Kpt.less (C:=C) HK311.out))
    have had:=check_any ⟨C.rb,0,none⟩ Rc.1 w11
    refine wpG_past (i:=11) (by kernel_rfl) rfl (by kernel_rfl) (fun K hK=>?_)
    refine step_callP (by rfl) (.func 197) [.tmp 38,.tmp 48] _ (by rfl) 197 _ fnCheckI (by rfl) _ (by rfl) (fun v w'=>w'=w11/\Rc.1=0) (had.mono ?_) ?_
    ·rintro e y1 ⟨rfl,hv1⟩
     rcases hv1 with ⟨h0,u0,rfl⟩|⟨h0,rfl⟩
     ·exact .inl ⟨_,rfl,rfl,h0⟩
     ·refine .inr ⟨_,rfl,?_⟩
      refine ⟨rfl,HK11.out,HB11.out,?_⟩
      try rw [HLP.out]
      rw [<-HO10.out,show storeO r4 Rc=.err Rc.1 by unfold storeO; rw [if_pos h0]]
    rintro v12 w12 ⟨rfl,h0⟩
    have HO11:=zh (show o=.ok { r4 with S:=Rc.2 } by rw [<-HO10.out]; unfold storeO; rw [if_neg (by simpa using h0)])
    refine hK.out _ _ HS6.out ?_
    clear hK K had h0
    (try simp only [Act.put,zP])
    refine wpG_done (by kernel_rfl) ?_
    have HR12:=zh HR11.out.less
    go_wp2_with fail
    go_end0
    refine ⟨HK11.out,HB11.out,?_⟩
    try rw [HLP.out]
    rw [HO11.out]
    exact ⟨⟨_,rfl⟩,HR12.out⟩
theorem stmt_if {G:List PR->T->Prop} {g:Nat} (hS:IStC G g) {C:RC} (hC:C.Ok) {W:World} {r:RS} (h:RI C W r) (t:T) (v:Value) (back:Bool) (hv:NV C.w Any t v) (hk0:t.k=52) (hk:t.ks.length=4) (hG1:∀ u∈(kid t 1).ks,G C.p.prs u) (hG2:∀ u∈(kid t 2).ks,G C.p.prs u)
  (o:Out) (ho:brO C.p.prs C.F g back t r=o) (hog:o ≠ .gas) :
  Calls Tryz.prog 157 #[.pointer (some ⟨C.rb,0,none⟩),v,.bool back] W (RunP C W o):=by
 have hgas:=hog
 obtain ⟨k,n,s,ks⟩:=t
 obtain rfl:k=52:=hk0
 obtain ⟨A,c,rfl,-,hlk,hlc,-⟩:=hv.open_
 have hb0:=bl_al (Below.refl W.heap.size W) (.cells #[.int .u8 52,.int .i64 n,.string s,.slice A ks.length c] 29)
 obtain ⟨x0,x1,x2,x3⟩:=box4 (heap_alloc_new W (.cells #[.int .u8 52,.int .i64 n,.string s,.slice A ks.length c] 29))
 have HK0:=zh (Kpt.of_below (n0:=C.n0) (kb:=C.kb) hb0)
 have HCC:=zh (show Calls Tryz.prog 193 #[.pointer (some ⟨C.rb,0,none⟩),.agg #[.int .u8 52,.int .i64 n,.string s,.slice A ks.length c],.bool back] (W.alloc (.cells #[.int .u8 52,.int .i64 n,.string s,.slice A ks.length c] 29)) (RunP C _ o) from (ho▸(branch_any hS hC (h.later hb0) _ _ back hv hk hG1 hG2 (ho▸hog))))
 clear hv hb0 h hgas hG1 ho hk
 go_enter Tryz.func157,Tryz.ntmps157
 go_wp2_with fail
 refine HCC.out.mono ?_
 rintro e w1 ⟨hk1,hb1,ho1⟩
 cases o with
 | gas=>exact absurd rfl hog
 | err x =>
  subst ho1
  exact ⟨rfl,HK0.out.trans hk1,hb1,rfl⟩
 | ok r1 =>
  obtain ⟨⟨u,rfl⟩,hr1⟩:=ho1
  have HR:=zh hr1
  have HK1:=zh (HK0.out.trans hk1)
  have HB1:=zh hb1
  clear x0 x1 x2 x3 hr1 hk1 hb1
  go_wp2_with fail
  go_end0
  exact ⟨HK1.out,HB1.out,⟨_,rfl⟩,HR.out⟩
theorem stmt_from {G:List PR->T->Prop} {g:Nat} (hS:IStC G g) {C:RC} (hC:C.Ok) {W:World} {r:RS} (h:RI C W r) (t:T) (v:Value) (back:Bool) (hv:NV C.w Any t v) (hk0:t.k=53) (hk:t.ks.length=4) (hG1:∀ u∈(kid t 1).ks,G C.p.prs u) (hG2:∀ u∈(kid t 2).ks,G C.p.prs u)
  (o:Out) (ho:lpO C.p.prs C.F g back t r=o) (hog:o ≠ .gas) :
  Calls Tryz.prog 157 #[.pointer (some ⟨C.rb,0,none⟩),v,.bool back] W (RunP C W o):=by
 have hgas:=hog
 obtain ⟨k,n,s,ks⟩:=t
 obtain rfl:k=53:=hk0
 obtain ⟨A,c,rfl,-,hlk,hlc,-⟩:=hv.open_
 have hb0:=bl_al (Below.refl W.heap.size W) (.cells #[.int .u8 53,.int .i64 n,.string s,.slice A ks.length c] 29)
 obtain ⟨x0,x1,x2,x3⟩:=box4 (heap_alloc_new W (.cells #[.int .u8 53,.int .i64 n,.string s,.slice A ks.length c] 29))
 have HK0:=zh (Kpt.of_below (n0:=C.n0) (kb:=C.kb) hb0)
 have HCC:=zh (show Calls Tryz.prog 194 #[.pointer (some ⟨C.rb,0,none⟩),.agg #[.int .u8 53,.int .i64 n,.string s,.slice A ks.length c],.bool back] (W.alloc (.cells #[.int .u8 53,.int .i64 n,.string s,.slice A ks.length c] 29)) (RunP C _ o) from (ho▸(loop_any hS hC (h.later hb0) _ _ back hv hk hG1 hG2 (ho▸hog))))
 clear hv hb0 h hgas hG1 ho hk
 go_enter Tryz.func157,Tryz.ntmps157
 go_wp2_with fail
 refine HCC.out.mono ?_
 rintro e w1 ⟨hk1,hb1,ho1⟩
 cases o with
 | gas=>exact absurd rfl hog
 | err x =>
  subst ho1
  exact ⟨rfl,HK0.out.trans hk1,hb1,rfl⟩
 | ok r1 =>
  obtain ⟨⟨u,rfl⟩,hr1⟩:=ho1
  have HR:=zh hr1
  have HK1:=zh (HK0.out.trans hk1)
  have HB1:=zh hb1
  clear x0 x1 x2 x3 hr1 hk1 hb1
  go_wp2_with fail
  go_end0
  exact ⟨HK1.out,HB1.out,⟨_,rfl⟩,HR.out⟩
theorem stmt_local {G:List PR->T->Prop} {g:Nat} (hS:IStC G g) {C:RC} (hC:C.Ok) {W:World} {r:RS} (h:RI C W r) (t:T) (v:Value) (back:Bool) (hv:NV C.w Any t v) (hk0:t.k=54) (hk:t.ks.length=3) (hG1:∀ u∈(kid t 1).ks,G C.p.prs u)
  (o:Out) (ho:loO C.p.prs C.F g back t r=o) (hog:o ≠ .gas) :
  Calls Tryz.prog 157 #[.pointer (some ⟨C.rb,0,none⟩),v,.bool back] W (RunP C W o):=by
 have hgas:=hog
 obtain ⟨k,n,s,ks⟩:=t
 obtain rfl:k=54:=hk0
 obtain ⟨A,c,rfl,-,hlk,hlc,-⟩:=hv.open_
 have hb0:=bl_al (Below.refl W.heap.size W) (.cells #[.int .u8 54,.int .i64 n,.string s,.slice A ks.length c] 29)
 obtain ⟨x0,x1,x2,x3⟩:=box4 (heap_alloc_new W (.cells #[.int .u8 54,.int .i64 n,.string s,.slice A ks.length c] 29))
 have HK0:=zh (Kpt.of_below (n0:=C.n0) (kb:=C.kb) hb0)
 have HCC:=zh (show Calls Tryz.prog 195 #[.pointer (some ⟨C.rb,0,none⟩),.agg #[.int .u8 54,.int .i64 n,.string s,.slice A ks.length c],.bool back] (W.alloc (.cells #[.int .u8 54,.int .i64 n,.string s,.slice A ks.length c] 29)) (RunP C _ o) from (ho▸(local_any hS hC (h.later hb0) _ _ back hv hk hG1 (ho▸hog))))
 clear hv hb0 h hgas hG1 ho hk
 go_enter Tryz.func157,Tryz.ntmps157
 go_wp2_with fail
 refine HCC.out.mono ?_
 rintro e w1 ⟨hk1,hb1,ho1⟩
 cases o with
 | gas=>exact absurd rfl hog
 | err x =>
  subst ho1
  exact ⟨rfl,HK0.out.trans hk1,hb1,rfl⟩
 | ok r1 =>
  obtain ⟨⟨u,rfl⟩,hr1⟩:=ho1
  have HR:=zh hr1
  have HK1:=zh (HK0.out.trans hk1)
  have HB1:=zh hb1
  clear x0 x1 x2 x3 hr1 hk1 hb1
  go_wp2_with fail
  go_end0
  exact ⟨HK1.out,HB1.out,⟨_,rfl⟩,HR.out⟩
theorem fnDoI:IsFn Tryz.prog 20 Tryz.f20:=⟨Tryz.func20,by kernel_rfl,by kernel_rfl⟩
theorem fnUndoI:IsFn Tryz.prog 19 Tryz.f19:=⟨Tryz.func19,by kernel_rfl,by kernel_rfl⟩
def basO (F:Int) (back:Bool) (t:T) (r:RS):Out:=(stepO F r).bind fun r=>storeO r (if back=true then undoE r.S t else doE r.S t)
theorem stmt_bas {C:RC} (hC:C.Ok) {W:World} {r:RS} (h:RI C W r) (t:T) (v:Value) (back:Bool) (hv:NV C.w Any t v) (hk:t.k≠52/\t.k≠53/\t.k≠54/\t.k≠55/\t.k≠50/\t.k≠51) :
  Calls Tryz.prog 157 #[.pointer (some ⟨C.rb,0,none⟩),v,.bool back] W (RunP C W (basO C.F back t r)):=by
 have HV:=zh hv
 have H:=zh h
 obtain ⟨A,c,rfl,-,hlk,hlc,-⟩:=hv.open_
 have e0:(t.k==52)=false:=by simpa using hk.1
 have e1:(t.k==53)=false:=by simpa using hk.2.1
 have e2:(t.k==54)=false:=by simpa using hk.2.2.1
 have e3:(t.k==55)=false:=by simpa using hk.2.2.2.1
 have e4:(t.k==50)=false:=by simpa using hk.2.2.2.2.1
 have e5:(t.k==51)=false:=by simpa using hk.2.2.2.2.2
 have hb0:=bl_al (Below.refl W.heap.size W) (.cells #[.int .u8 t.k,.int .i64 t.n,.string t.s,.slice A t.ks.length c] 29)
 obtain ⟨hC1,h1⟩:=h.plus hC hb0
 have k0:=heap_alloc_new W (.cells #[.int .u8 t.k,.int .i64 t.n,.string t.s,.slice A t.ks.length c] 29)
 obtain ⟨x0,x1,x2,x3⟩:=box4 k0
 have HP3:=zh (Kpt.of_below (n0:=C.n0) (kb:=C.kb) hb0)
 obtain ⟨w3,hw3⟩:∃ x,W.alloc (.cells #[.int .u8 t.k,.int .i64 t.n,.string t.s,.slice A t.ks.length c] 29)=x:=⟨_,rfl⟩
 rw [hw3] at hC1 h1 k0 x0 x1 x2 x3 HP3
 have l0:=blk_lt k0
 have K0:=zh k0
 obtain ⟨hi,hhi⟩:∃ x,w3.heap.size=x:=⟨_,rfl⟩
 rw [hhi] at hC1 h1 l0
 have HHO:=zh (step_any hC1 h1)
 obtain ⟨o,ho⟩:∃ o,basO C.F back t r=o:=⟨_,rfl⟩
 have HLP:=zh ho
 have HO:=zh (show (stepO C.F r).bind (fun r=>storeO r (if back=true then undoE r.S t else doE r.S t))=o from ho)
 rw [ho]
 clear hv hb0 hC1 h1 k0 h hk ho
 go_enter Tryz.func157,Tryz.ntmps157
 go_wp2_with fail
 refine HHO.out.mono ?_
 rintro e w4 ⟨hk4,hb4,ho4⟩
 have HK4:=zh (HP3.out.trans (Kpt.less (C:=C) hk4))
 have HB4:=zh (show Below C.w.heap.size C.w w4 from hb4)
 have ho4':match stepO C.F r with
  | .gas=>True
  | .err x=>e=failE x
  | .ok r=>(∃ u,e=.returned u)/\RI (C.plus W.heap.size hi) w4 r:=ho4
 have HK34:=zh hk4
 clear x0 x1 x2 x3 HHO hk4 hb4 ho4 hw3
 cases hy:stepO C.F r with
 | gas=>exact absurd hy (stepO_good _ _).1
 | err x =>
  rw [hy] at ho4'
  subst ho4'
  refine ⟨rfl,HK4.out,HB4.out,?_⟩
  try rw [HLP.out]
  rw [<-HO.out,hy]
  rfl
 | ok r1 =>
  rw [hy] at ho4'
  obtain ⟨⟨u3,rfl⟩,hr1⟩:=ho4'
  have HR4:=zh hr1
  have HO4:=zh (show storeO r1 (if back=true then undoE r1.S t else doE r1.S t)=o by rw [<-HO.out,hy]; rfl)
  have HFB:=zh (show FB r.n r1.S/\r1.n=r.n+1 by obtain ⟨rfl,-⟩:=stepO_ok hy; exact ⟨H.out.fb,rfl⟩)
  have j0:=HK34.out.blk (.inr (.inr ⟨Nat.le_refl _,l0⟩)) K0.out
  have hSS:(fun w':World=>w'.cell? ⟨C.rb,6,none⟩=some (.pointer (some ⟨C.sb,0,none⟩))/\w'.cell? ⟨W.heap.size,0,none⟩=some (.int .u8 t.k)/\w'.cell? ⟨W.heap.size,1,none⟩=some (.int .i64 t.n)/\w'.cell? ⟨W.heap.size,2,none⟩=some (.string t.s)/\w'.cell? ⟨W.heap.size,3,none⟩=some (.slice A t.ks.length c)) w4.drew/\(fun _:World=>True) w4.drew:=⟨⟨hr1.cells.1,zc j0 rfl,zc j0 rfl,zc j0 rfl,zc j0 rfl⟩,trivial⟩
  clear hr1 hy j0
  cases back
  ·skip
   go_upto_region 5 with fail
   refine wp_region_G (fun w':World=>w'.cell? ⟨C.rb,6,none⟩=some (.pointer (some ⟨C.sb,0,none⟩))/\w'.cell? ⟨W.heap.size,0,none⟩=some (.int .u8 t.k)/\w'.cell? ⟨W.heap.size,1,none⟩=some (.int .i64 t.n)/\w'.cell? ⟨W.heap.size,2,none⟩=some (.string t.s)/\w'.cell? ⟨W.heap.size,3,none⟩=some (.slice A t.ks.length c)) (fun _:World=>True) 7 (by kernel_rfl) ?_
   refine zT 0 hSS ?_
   (try simp only [Act.put,zP])
   refine zT 1 hSS ?_
   (try simp only [Act.put,zP])
   refine zT 2 hSS ?_
   (try simp only [Act.put,zP])
   refine zT 3 hSS ?_
   (try simp only [Act.put,zP])
   refine zT 4 hSS ?_
   (try simp only [Act.put,zP])
   refine zT 5 hSS ?_
   (try simp only [Act.put,zP])
   obtain ⟨R,hR⟩:∃ R,doE r1.S t=R:=⟨_,rfl⟩
   have HO5:=zh (show storeO r1 R=o by rw [<-hR]; exact HO4.out)
   have hbd:Below w4.heap.size w4 w4.drew:=(Below.refl _ _).drew
   have had:Calls Tryz.prog 20 [.pointer (some ⟨C.sb,0,none⟩),.agg #[.int .u8 t.k,.int .i64 t.n,.string t.s,.slice A t.ks.length c]].toArray w4.drew fun e w'=>∃ v,e=.returned v/\(v=.int .i64 R.1/\RI (C.plus W.heap.size hi) w' { r1 with S:=R.2 }/\Kpt C.n0 (C.plus W.heap.size hi).kb w4 w') :=
    ((HR4.out.later hbd).ks.do_ t _ (HV.out.later (bl_tt HB4.out hbd))).mono fun e w' ⟨h1,h2,h3⟩=>by
     have hs:=RI.store (C:=C.plus W.heap.size hi) (HR4.out.later hbd) h2 h3 (by rw [HFB.out.2]; exact HFB.out.1.do_ _)
     rw [hR] at h1 hs
     exact ⟨_,h1,rfl,hs.1,(Kpt.of_below hbd).trans hs.2⟩
   refine wpG_one (i:=6) (by kernel_rfl) rfl (fun K hK=>?_)
   refine step_callG (by rfl) (.func 20) [.tmp 23,.tmp 24] _ (by rfl) 20 _ fnDoI (by rfl) _ (by rfl) _ had ?_
   rintro v6 w6 ⟨rfl,hr6,hk6⟩
   have HK6:=zh (HK4.out.trans (Kpt.less (C:=C) hk6))
   have j0:=(HK34.out.trans hk6).blk (.inr (.inr ⟨Nat.le_refl _,l0⟩)) K0.out
   have hSS6:(fun w':World=>w'.cell? ⟨C.rb,6,none⟩=some (.pointer (some ⟨C.sb,0,none⟩))/\w'.cell? ⟨W.heap.size,0,none⟩=some (.int .u8 t.k)/\w'.cell? ⟨W.heap.size,1,none⟩=some (.int .i64 t.n)/\w'.cell? ⟨W.heap.size,2,none⟩=some (.string t.s)/\w'.cell? ⟨W.heap.size,3,none⟩=some (.slice A t.ks.length c)) w6:=⟨hr6.cells.1,zc j0 rfl,zc j0 rfl,zc j0 rfl,zc j0 rfl⟩
   have HR6:=zh hr6.less
   have HB6:=zh hr6.below
   refine hK.out _ _ ⟨hSS6,trivial⟩ ?_
   have HS6:=zh hSS6
   clear hK K had hr6 hk6 j0 hSS6 hSS
   (try simp only [Act.put,zP])
   have had:=check_any ⟨C.rb,0,none⟩ R.1 w6
   refine wpG_past (i:=7) (by kernel_rfl) rfl (by kernel_rfl) (fun K hK=>?_)
   refine step_callP (by rfl) (.func 197) [.tmp 19,.tmp 25] _ (by rfl) 197 _ fnCheckI (by rfl) _ (by rfl) (fun v w'=>w'=w6/\R.1=0) (had.mono ?_) ?_
   ·rintro e y1 ⟨rfl,hv1⟩
    rcases hv1 with ⟨h0,u0,rfl⟩|⟨h0,rfl⟩
    ·exact .inl ⟨_,rfl,rfl,h0⟩
    ·refine .inr ⟨_,rfl,?_⟩
     refine ⟨rfl,HK6.out,HB6.out,?_⟩
     try rw [HLP.out]
     rw [<-HO5.out,show storeO r1 R=.err R.1 by unfold storeO; rw [if_pos h0]]
   rintro v12 w12 ⟨rfl,h0⟩
   have HO11:=zh (show o=.ok { r1 with S:=R.2 } by rw [<-HO5.out]; unfold storeO; rw [if_neg (by simpa using h0)])
   refine hK.out _ _ HS6.out ?_
   clear hK K had h0
   (try simp only [Act.put,zP])
   refine wpG_done (by kernel_rfl) ?_
   go_wp2_with fail
   go_end0
   refine ⟨HK6.out,HB6.out,?_⟩
   try rw [HLP.out]
   rw [HO11.out]
   exact ⟨⟨_,rfl⟩,HR6.out⟩
  ·skip
   go_upto_region 4 with fail
   refine wp_region_G (fun w':World=>w'.cell? ⟨C.rb,6,none⟩=some (.pointer (some ⟨C.sb,0,none⟩))/\w'.cell? ⟨W.heap.size,0,none⟩=some (.int .u8 t.k)/\w'.cell? ⟨W.heap.size,1,none⟩=some (.int .i64 t.n)/\w'.cell? ⟨W.heap.size,2,none⟩=some (.string t.s)/\w'.cell? ⟨W.heap.size,3,none⟩=some (.slice A t.ks.length c)) (fun _:World=>True) 7 (by kernel_rfl) ?_
   refine zT 0 hSS ?_
   (try simp only [Act.put,zP])
   refine zT 1 hSS ?_
   (try simp only [Act.put,zP])
   refine zT 2 hSS ?_
   (try simp only [Act.put,zP])
   refine zT 3 hSS ?_
   (try simp only [Act.put,zP])
   refine zT 4 hSS ?_
   (try simp only [Act.put,zP])
   refine zT 5 hSS ?_
   (try simp only [Act.put,zP])
   obtain ⟨R,hR⟩:∃ R,undoE r1.S t=R:=⟨_,rfl⟩
   have HO5:=zh (show storeO r1 R=o by rw [<-hR]; exact HO4.out)
   have hbd:Below w4.heap.size w4 w4.drew:=(Below.refl _ _).drew
   have had:Calls Tryz.prog 19 [.pointer (some ⟨C.sb,0,none⟩),.agg #[.int .u8 t.k,.int .i64 t.n,.string t.s,.slice A t.ks.length c]].toArray w4.drew fun e w'=>∃ v,e=.returned v/\(v=.int .i64 R.1/\RI (C.plus W.heap.size hi) w' { r1 with S:=R.2 }/\Kpt C.n0 (C.plus W.heap.size hi).kb w4 w') :=
    ((HR4.out.later hbd).ks.undo t _ (HV.out.later (bl_tt HB4.out hbd))).mono fun e w' ⟨h1,h2,h3⟩=>by
     have hs:=RI.store (C:=C.plus W.heap.size hi) (HR4.out.later hbd) h2 h3 (by rw [HFB.out.2]; exact HFB.out.1.undo _)
     rw [hR] at h1 hs
     exact ⟨_,h1,rfl,hs.1,(Kpt.of_below hbd).trans hs.2⟩
   refine wpG_one (i:=6) (by kernel_rfl) rfl (fun K hK=>?_)
   refine step_callG (by rfl) (.func 19) [.tmp 15,.tmp 16] _ (by rfl) 19 _ fnUndoI (by rfl) _ (by rfl) _ had ?_
   rintro v6 w6 ⟨rfl,hr6,hk6⟩
   have HK6:=zh (HK4.out.trans (Kpt.less (C:=C) hk6))
   have j0:=(HK34.out.trans hk6).blk (.inr (.inr ⟨Nat.le_refl _,l0⟩)) K0.out
   have hSS6:(fun w':World=>w'.cell? ⟨C.rb,6,none⟩=some (.pointer (some ⟨C.sb,0,none⟩))/\w'.cell? ⟨W.heap.size,0,none⟩=some (.int .u8 t.k)/\w'.cell? ⟨W.heap.size,1,none⟩=some (.int .i64 t.n)/\w'.cell? ⟨W.heap.size,2,none⟩=some (.string t.s)/\w'.cell? ⟨W.heap.size,3,none⟩=some (.slice A t.ks.length c)) w6:=⟨hr6.cells.1,zc j0 rfl,zc j0 rfl,zc j0 rfl,zc j0 rfl⟩
   have HR6:=zh hr6.less
   have HB6:=zh hr6.below
   refine hK.out _ _ ⟨hSS6,trivial⟩ ?_
   have HS6:=zh hSS6
   clear hK K had hr6 hk6 j0 hSS6 hSS
   (try simp only [Act.put,zP])
   have had:=check_any ⟨C.rb,0,none⟩ R.1 w6
   refine wpG_past (i:=7) (by kernel_rfl) rfl (by kernel_rfl) (fun K hK=>?_)
   refine step_callP (by rfl) (.func 197) [.tmp 11,.tmp 17] _ (by rfl) 197 _ fnCheckI (by rfl) _ (by rfl) (fun v w'=>w'=w6/\R.1=0) (had.mono ?_) ?_
   ·rintro e y1 ⟨rfl,hv1⟩
    rcases hv1 with ⟨h0,u0,rfl⟩|⟨h0,rfl⟩
    ·exact .inl ⟨_,rfl,rfl,h0⟩
    ·refine .inr ⟨_,rfl,?_⟩
     refine ⟨rfl,HK6.out,HB6.out,?_⟩
     try rw [HLP.out]
     rw [<-HO5.out,show storeO r1 R=.err R.1 by unfold storeO; rw [if_pos h0]]
   rintro v12 w12 ⟨rfl,h0⟩
   have HO11:=zh (show o=.ok { r1 with S:=R.2 } by rw [<-HO5.out]; unfold storeO; rw [if_neg (by simpa using h0)])
   refine hK.out _ _ HS6.out ?_
   clear hK K had h0
   (try simp only [Act.put,zP])
   refine wpG_done (by kernel_rfl) ?_
   go_wp2_with fail
   go_end0
   refine ⟨HK6.out,HB6.out,?_⟩
   try rw [HLP.out]
   rw [HO11.out]
   exact ⟨⟨_,rfl⟩,HR6.out⟩
def lsR (prs:List PR) (F:Int) (g:Nat) (back:Bool) (t:T) (r:RS):Out :=
 (bodyO (execO prs F g back) (blkL back (kid t 0)) r).bind fun r=>(stepO F r).bind fun r=>storeO r (closeE r.S t.s 0)
def lsO (prs:List PR) (F:Int) (g:Nat) (back:Bool) (t:T) (r:RS):Out :=
 (stepO F r).bind fun r=>(storeO r (openE r.S ⟨t.s,3,0⟩ 0)).bind (lsR prs F g back t)
theorem stmt_ls {G:List PR->T->Prop} {g:Nat} (hS:IStC G g) {C:RC} (hC:C.Ok) {W:World} {r:RS} (h:RI C W r) (t:T) (v:Value) (back:Bool) (hv:NV C.w Any t v) (hk0:t.k=55) (hk:t.ks.length=1) (hG1:∀ u∈(kid t 0).ks,G C.p.prs u)
  (hgas:lsO C.p.prs C.F g back t r ≠ .gas) :
  Calls Tryz.prog 157 #[.pointer (some ⟨C.rb,0,none⟩),v,.bool back] W (RunP C W (lsO C.p.prs C.F g back t r)):=by
 have HV:=zh hv
 have H:=zh h
 have HS:=zh hS
 have HKL:=zh hk
 obtain ⟨A,c,rfl,-,hlk,hlc,hrow⟩:=hv.open_
 have HROW:=zh hrow
 have hb0:=bl_al (Below.refl W.heap.size W) (.cells #[.int .u8 t.k,.int .i64 t.n,.string t.s,.slice A t.ks.length c] 29)
 obtain ⟨hC1,h1⟩:=h.plus hC hb0
 have k0:=heap_alloc_new W (.cells #[.int .u8 t.k,.int .i64 t.n,.string t.s,.slice A t.ks.length c] 29)
 obtain ⟨x0,x1,x2,x3⟩:=box4 k0
 have HP3:=zh (Kpt.of_below (n0:=C.n0) (kb:=C.kb) hb0)
 obtain ⟨w3,hw3⟩:∃ x,W.alloc (.cells #[.int .u8 t.k,.int .i64 t.n,.string t.s,.slice A t.ks.length c] 29)=x:=⟨_,rfl⟩
 rw [hw3] at hC1 h1 k0 x0 x1 x2 x3 HP3
 have l0:=blk_lt k0
 have K0:=zh k0
 obtain ⟨hi,hhi⟩:∃ x,w3.heap.size=x:=⟨_,rfl⟩
 rw [hhi] at hC1 h1 l0
 have HC1:=zh hC1
 have HHO:=zh (step_any hC1 h1)
 obtain ⟨o,ho⟩:∃ o,lsO C.p.prs C.F g back t r=o:=⟨_,rfl⟩
 have HLP:=zh ho
 have HO:=zh (show (stepO C.F r).bind (fun r=>(storeO r (openE r.S ⟨t.s,3,0⟩ 0)).bind (lsR C.p.prs C.F g back t))=o from ho)
 rw [ho] at hgas ⊢
 have HGA:=zh hgas
 rw [hk0] at hw3
 have hw3':=hw3
 clear hv hb0 hC1 h1 k0 h hk ho hgas hrow hS hlk
 have HKK:=zh hk0
 rw [hk0] at x0
 rw [hk0]
 clear hk0
 go_enter Tryz.func157,Tryz.ntmps157
 go_wp2_with fail
 refine HHO.out.mono ?_
 rintro e w4 ⟨hk4,hb4,ho4⟩
 have HK4:=zh (HP3.out.trans (Kpt.less (C:=C) hk4))
 have HB4:=zh (show Below C.w.heap.size C.w w4 from hb4)
 have ho4':match stepO C.F r with
  | .gas=>True
  | .err x=>e=failE x
  | .ok r=>(∃ u,e=.returned u)/\RI (C.plus W.heap.size hi) w4 r:=ho4
 have HK34:=zh hk4
 clear x0 x1 x2 x3 HHO hk4 hb4 ho4 hw3 hw3'
 cases hy:stepO C.F r with
 | gas=>exact absurd hy (stepO_good _ _).1
 | err x =>
  rw [hy] at ho4'
  subst ho4'
  refine ⟨rfl,HK4.out,HB4.out,?_⟩
  try rw [HLP.out]
  rw [<-HO.out,hy]
  rfl
 | ok r1 =>
  rw [hy] at ho4'
  obtain ⟨⟨u3,rfl⟩,hr1⟩:=ho4'
  have HR4:=zh hr1
  have HO4:=zh (show (storeO r1 (openE r1.S ⟨t.s,3,0⟩ 0)).bind (lsR C.p.prs C.F g back t)=o by rw [<-HO.out,hy]; rfl)
  have HFB:=zh (show FB r.n r1.S/\r1.n=r.n+1 by obtain ⟨rfl,-⟩:=stepO_ok hy; exact ⟨H.out.fb,rfl⟩)
  have j0:=HK34.out.blk (.inr (.inr ⟨Nat.le_refl _,l0⟩)) K0.out
  have hSS:(fun w':World=>w'.cell? ⟨C.rb,6,none⟩=some (.pointer (some ⟨C.sb,0,none⟩))/\w'.cell? ⟨W.heap.size,2,none⟩=some (.string t.s)) w4.drew/\(fun _:World=>True) w4.drew:=⟨⟨hr1.cells.1,zc j0 rfl⟩,trivial⟩
  clear hr1 hy j0
  go_upto_region 14 with fail
  refine wp_region_G (fun w':World=>w'.cell? ⟨C.rb,6,none⟩=some (.pointer (some ⟨C.sb,0,none⟩))/\w'.cell? ⟨W.heap.size,2,none⟩=some (.string t.s)) (fun _:World=>True) 9 (by kernel_rfl) ?_
  refine zT 0 hSS ?_
  (try simp only [Act.put,zP])
  refine zT 1 hSS ?_
  (try simp only [Act.put,zP])
  refine zT 2 hSS ?_
  (try simp only [Act.put,zP])
  refine zT 3 hSS ?_
  (try simp only [Act.put,zP])
  refine zT 4 hSS ?_
  (try simp only [Act.put,zP])
  refine zT 5 hSS ?_
  (try simp only [Act.put,zP])
  refine zT 6 hSS ?_
  (try simp only [Act.put,zP])
  refine zT 7 hSS ?_
  (try simp only [Act.put,zP])
  obtain ⟨R,hR⟩:∃ R,openE r1.S ⟨t.s,3,0⟩ 0=R:=⟨_,rfl⟩
  have HRR:=zh hR
  have hcur:=HFB.out.1.cur
  have hn6:=H.out.n
  have hbd:Below w4.heap.size w4 w4.drew:=(Below.refl _ _).drew
  have had:Calls Tryz.prog 185 [.pointer (some ⟨C.sb,0,none⟩),.agg #[.string t.s,.int .u8 3,.int .i64 0],.int .i64 0].toArray w4.drew fun e w'=>∃ v,e=.returned v/\(v=.int .i64 R.1/\RI (C.plus W.heap.size hi) w' { r1 with S:=R.2 }/\Kpt C.n0 (C.plus W.heap.size hi).kb w4 w') :=
   ((HR4.out.later hbd).ks.open_ ⟨t.s,3,0⟩ (by obtain ⟨_,_,_,hf,-⟩:=HV.out.open_; exact ⟨hf.2.2,⟨by simp only; omega,by simp only; omega⟩,⟨by simp only; omega,by simp only; omega⟩⟩) 0 zero_I64 (by omega)).mono fun e w' ⟨h1,h2,h3⟩=>by
    have hs:=RI.store (C:=C.plus W.heap.size hi) (HR4.out.later hbd) (hR▸h2) h3 (by rw [HFB.out.2,<-hR]; exact HFB.out.1.open_ _ _)
    exact ⟨_,h1,by rw [hR],hs.1,(Kpt.of_below hbd).trans hs.2⟩
  refine wpG_one (i:=8) (by kernel_rfl) rfl (fun K hK=>?_)
  refine step_callG (by rfl) (.func 185) [.tmp 53,.tmp 56,.const (.int .i64 0)] _ (by rfl) 185 _ fnOpenI (by rfl) _ (by rfl) _ had ?_
  rintro v6 w6 ⟨rfl,hr6,hk6⟩
  have HK36:=zh (HK34.out.trans hk6)
  have j0:=HK36.out.blk (.inr (.inr ⟨Nat.le_refl _,l0⟩)) K0.out
  have HR6:=zh hr6
  have hSS6:(fun w':World=>w'.cell? ⟨C.rb,6,none⟩=some (.pointer (some ⟨C.sb,0,none⟩))/\w'.cell? ⟨W.heap.size,2,none⟩=some (.string t.s)) w6:=⟨hr6.cells.1,zc j0 rfl⟩
  refine hK.out _ _ ⟨hSS6,trivial⟩ ?_
  have HS6:=zh hSS6
  have HB6:=zh hr6.below
  clear hK K had hr6 hk6 j0 hSS6 hSS
  (try simp only [Act.put,zP])
  have HK6:=zh (HP3.out.trans (Kpt.less (C:=C) HK36.out))
  rw [hR] at HO4
  have had:=check_any ⟨C.rb,0,none⟩ R.1 w6
  refine wpG_past (i:=9) (by kernel_rfl) rfl (by kernel_rfl) (fun K hK=>?_)
  refine step_callP (by rfl) (.func 197) [.tmp 49,.tmp 57] _ (by rfl) 197 _ fnCheckI (by rfl) _ (by rfl) (fun v w'=>w'=w6/\R.1=0) (had.mono ?_) ?_
  ·rintro e y1 ⟨rfl,hv1⟩
   rcases hv1 with ⟨h0,u0,rfl⟩|⟨h0,rfl⟩
   ·exact .inl ⟨_,rfl,rfl,h0⟩
   ·refine .inr ⟨_,rfl,?_⟩
    refine ⟨rfl,HK6.out,HB6.out,?_⟩
    try rw [HLP.out]
    rw [<-HO4.out,show storeO r1 R=.err R.1 by unfold storeO; rw [if_pos h0]]
    rfl
  rintro v7 w7 ⟨rfl,h0⟩
  have HO6:=zh (show lsR C.p.prs C.F g back t { r1 with S:=R.2 }=o by rw [<-HO4.out,show storeO r1 R=.ok { r1 with S:=R.2 } by unfold storeO; rw [if_neg (by simpa using h0)]]; rfl)
  refine hK.out _ _ HS6.out ?_
  clear hK K had h0
  (try simp only [Act.put,zP])
  refine wpG_done (by kernel_rfl) ?_
  obtain ⟨r2,hr2⟩:∃ x,({ r1 with S:=R.2 }:RS)=x:=⟨_,rfl⟩
  rw [hr2] at HR6 HO6
  have hI:0<t.ks.length:=by have:=HKL.out; omega
  have hI1:(0:Int)<(t.ks.length:Int):=by omega
  obtain ⟨a,u,Au,cu,rfl,-,hu,⟨p0,p1,p2,p3⟩,hnu⟩:=HROW.out.nd hI
  have hku:kid t 0=u:=by unfold kid; rw [List.getD_eq_getElem?_getD,List.getElem?_eq_getElem hI]; exact hu.out
  have HGU:=zh (show ∀ x∈u.ks,G C.p.prs x by rw [<-hku]; exact hG1)
  have HO7:=zh (show (runO C.p.prs C.F g back u r2).bind (fun r=>(stepO C.F r).bind fun r=>storeO r (closeE r.S t.s 0))=o by rw [<-HO6.out,<-hku]; rfl)
  have hgu:runO C.p.prs C.F g back u r2 ≠ .gas:=fun e=>HGA.out (by rw [<-HO7.out,e]; rfl)
  have HBK:=zh (iblock_any HS.out HC1.out HR6.out u _ back hnu HGU.out hgu)
  have ha:a.add (0*4)=a:=by unfold Addr.add; simp
  rw [ha] at p0 p1 p2 p3
  have q0:=zb HB6.out p0
  have q1:=zb HB6.out p1
  have q2:=zb HB6.out p2
  have q3:=zb HB6.out p3
  have j0:=HK36.out.blk (.inr (.inr ⟨Nat.le_refl _,l0⟩)) K0.out
  have q4:=zc (i:=3) j0 rfl
  clear hku hnu hu p0 p1 p2 p3 hgu ha j0 hcur hn6 hG1
  go_wp2_with fail
  refine HBK.out.mono ?_
  rintro e w8 ⟨hk8,hb8,ho8⟩
  have HK38:=zh (HK36.out.trans hk8)
  have HK8:=zh (HP3.out.trans (Kpt.less (C:=C) HK38.out))
  have HB8:=zh (show Below C.w.heap.size C.w w8 from hb8)
  have ho8':match runO C.p.prs C.F g back u r2 with
   | .gas=>True
   | .err x=>e=failE x
   | .ok r=>(∃ u,e=.returned u)/\RI (C.plus W.heap.size hi) w8 r:=ho8
  clear q0 q1 q2 q3 q4 hk8 hb8 ho8 HBK
  cases hx:runO C.p.prs C.F g back u r2 with
  | gas=>exact absurd (by rw [<-HO7.out,hx]; rfl) HGA.out
  | err x =>
   rw [hx] at ho8'
   subst ho8'
   refine ⟨rfl,HK8.out,HB8.out,?_⟩
   try rw [HLP.out]
   rw [<-HO7.out,hx]
   rfl
  | ok r3 =>
   rw [hx] at ho8'
   obtain ⟨⟨u9,rfl⟩,hr3⟩:=ho8'
   have HST:=zh (step_any HC1.out hr3)
   have HO8:=zh (show ((stepO C.F r3).bind fun r=>storeO r (closeE r.S t.s 0))=o by rw [<-HO7.out,hx]; rfl)
   have HR8:=zh hr3
   clear hx hr3
   go_wp2_with fail
   refine HST.out.mono ?_
   rintro e w9 ⟨hk9,hb9,ho9⟩
   have HK39:=zh (HK38.out.trans hk9)
   have HK9:=zh (HP3.out.trans (Kpt.less (C:=C) HK39.out))
   have HB9:=zh (show Below C.w.heap.size C.w w9 from hb9)
   have ho9':match stepO C.F r3 with
    | .gas=>True
    | .err x=>e=failE x
    | .ok r=>(∃ u,e=.returned u)/\RI (C.plus W.heap.size hi) w9 r:=ho9
   clear hk9 hb9 ho9 HST
   cases hy:stepO C.F r3 with
   | gas=>exact absurd (by rw [<-HO8.out,hy]; rfl) HGA.out
   | err x =>
    rw [hy] at ho9'
    subst ho9'
    refine ⟨rfl,HK9.out,HB9.out,?_⟩
    try rw [HLP.out]
    rw [<-HO8.out,hy]
    rfl
   | ok r4 =>
    rw [hy] at ho9'
    obtain ⟨⟨u9,rfl⟩,hr4⟩:=ho9'
    have HR9:=zh hr4
    have HFB9:=zh (show FB r3.n r4.S/\r4.n=r3.n+1 by obtain ⟨rfl,-⟩:=stepO_ok hy; exact ⟨HR8.out.fb,rfl⟩)
    obtain ⟨Rc,hRc⟩:∃ R,closeE r4.S t.s 0=R:=⟨_,rfl⟩
    have HO10:=zh (show storeO r4 Rc=o by rw [<-HO8.out,hy,<-hRc]; rfl)
    have j0:=HK39.out.blk (.inr (.inr ⟨Nat.le_refl _,l0⟩)) K0.out
    have hSS:(fun w':World=>w'.cell? ⟨C.rb,6,none⟩=some (.pointer (some ⟨C.sb,0,none⟩))/\w'.cell? ⟨W.heap.size,2,none⟩=some (.string t.s)) w9.drew/\(fun _:World=>True) w9.drew:=⟨⟨hr4.cells.1,zc j0 rfl⟩,trivial⟩
    clear hr4 hy j0
    go_upto_region 17 with fail
    refine wp_region_G (fun w':World=>w'.cell? ⟨C.rb,6,none⟩=some (.pointer (some ⟨C.sb,0,none⟩))/\w'.cell? ⟨W.heap.size,2,none⟩=some (.string t.s)) (fun _:World=>True) 8 (by kernel_rfl) ?_
    refine zT 0 hSS ?_
    (try simp only [Act.put,zP])
    refine zT 1 hSS ?_
    (try simp only [Act.put,zP])
    refine zT 2 hSS ?_
    (try simp only [Act.put,zP])
    refine zT 3 hSS ?_
    (try simp only [Act.put,zP])
    refine zT 4 hSS ?_
    (try simp only [Act.put,zP])
    refine zT 5 hSS ?_
    (try simp only [Act.put,zP])
    refine zT 6 hSS ?_
    (try simp only [Act.put,zP])
    have hbd9:Below w9.heap.size w9 w9.drew:=(Below.refl _ _).drew
    have had:Calls Tryz.prog 186 [.pointer (some ⟨C.sb,0,none⟩),.string t.s,.int .i64 0].toArray w9.drew fun e w'=>∃ v,e=.returned v/\(v=.int .i64 Rc.1/\RI (C.plus W.heap.size hi) w' { r4 with S:=Rc.2 }/\Kpt C.n0 (C.plus W.heap.size hi).kb w9 w') :=
     ((HR9.out.later hbd9).ks.close t.s 0).mono fun e w' ⟨h1,h2,h3⟩=>by
      have hs:=RI.store (C:=C.plus W.heap.size hi) (HR9.out.later hbd9) (hRc▸h2) h3 (by rw [HFB9.out.2,<-hRc]; exact HFB9.out.1.close_ _ _)
      exact ⟨_,h1,by rw [hRc],hs.1,(Kpt.of_below hbd9).trans hs.2⟩
    refine wpG_one (i:=7) (by kernel_rfl) rfl (fun K hK=>?_)
    refine step_callG (by rfl) (.func 186) [.tmp 72,.tmp 74,.const (.int .i64 0)] _ (by rfl) 186 _ fnCloseI (by rfl) _ (by rfl) _ had ?_
    rintro v11 w11 ⟨rfl,hr11,hk11⟩
    have HK311:=zh (HK39.out.trans hk11)
    have j0:=HK311.out.blk (.inr (.inr ⟨Nat.le_refl _,l0⟩)) K0.out
    have HR11:=zh hr11
    have hSS6:(fun w':World=>w'.cell? ⟨C.rb,6,none⟩=some (.pointer (some ⟨C.sb,0,none⟩))/\w'.cell? ⟨W.heap.size,2,none⟩=some (.string t.s)) w11:=⟨hr11.cells.1,zc j0 rfl⟩
    refine hK.out _ _ ⟨hSS6,trivial⟩ ?_
    have HS6:=zh hSS6
    have HB11:=zh hr11.below
    clear hK K had hr11 hk11 j0 hSS6 hSS
    (try simp only [Act.put,zP])
    have HK11:=zh (HP3.out.trans (Kpt.less (C:=C) HK311.out))
    have had:=check_any ⟨C.rb,0,none⟩ Rc.1 w11
    refine wpG_past (i:=8) (by kernel_rfl) rfl (by kernel_rfl) (fun K hK=>?_)
    refine step_callP (by rfl) (.func 197) [.tmp 68,.tmp 75] _ (by rfl) 197 _ fnCheckI (by rfl) _ (by rfl) (fun v w'=>w'=w11/\Rc.1=0) (had.mono ?_) ?_
    ·rintro e y1 ⟨rfl,hv1⟩
     rcases hv1 with ⟨h0,u0,rfl⟩|⟨h0,rfl⟩
     ·exact .inl ⟨_,rfl,rfl,h0⟩
     ·refine .inr ⟨_,rfl,?_⟩
      refine ⟨rfl,HK11.out,HB11.out,?_⟩
      try rw [HLP.out]
      rw [<-HO10.out,show storeO r4 Rc=.err Rc.1 by unfold storeO; rw [if_pos h0]]
    rintro v12 w12 ⟨rfl,h0⟩
    have HO11:=zh (show o=.ok { r4 with S:=Rc.2 } by rw [<-HO10.out]; unfold storeO; rw [if_neg (by simpa using h0)])
    refine hK.out _ _ HS6.out ?_
    clear hK K had h0
    (try simp only [Act.put,zP])
    refine wpG_done (by kernel_rfl) ?_
    have HR12:=zh HR11.out.less
    go_wp2_with fail
    go_end0
    refine ⟨HK11.out,HB11.out,?_⟩
    try rw [HLP.out]
    rw [HO11.out]
    exact ⟨⟨_,rfl⟩,HR12.out⟩
end Go.Proofs.YtckhofdinldhpaaGreat
namespace Go.Proofs.YtckhofdinldhpaaGreat
open Go.RowKit
mutual
/-- ast.limited: what is left of the count,or none. -/
def lim:T->Nat->Nat->Option Nat
 | .nd _ _ _ ks,d,l=>if d=0\/l=0 then none else lims ks (d-1) (l-1)
def lims:List T->Nat->Nat->Option Nat
 | [],_,l=>some l
 | t::ts,d,l=>match lim t d l with
  | none=>none
  | some l'=>lims ts d l'
end
theorem lims_append (ts us:List T) (d:Nat):∀ l,lims (ts++us) d l=(lims ts d l).bind fun r=>lims us d r:=by
 induction ts with
 | nil=>intro l; simp [lims]
 | cons t ts ih =>
  intro l
  simp only [List.cons_append,lims]
  cases lim t d l with
  | none=>rfl
  | some r=>exact ih r
theorem lims_one (t:T) (d l:Nat):lims [t] d l=lim t d l:=by
 simp only [lims]
 cases lim t d l<;>rfl
theorem lims_take {ks:List T} {d l r j:Nat} (hj:j<ks.length) (h:lims (ks.take j) d l=some r):lims (ks.take (j+1)) d l=lim ks[j] d r:=by
 rw [List.take_succ_eq_append_getElem hj,lims_append,h]
 exact lims_one _ _ _
theorem lims_none {ks:List T} {d l j:Nat} (h:lims (ks.take j) d l=none):lims ks d l=none:=by
 rw [<-List.take_append_drop j ks,lims_append,h]
 rfl
theorem lim_le (t:T):∀ d l r,lim t d l=some r->r<=l:=by
 induction t using T.ind with
 | _ k n s ks ih =>
 intro d l r h
 rw [lim] at h
 split at h
 ·cases h
 ·have key:∀ (us:List T),(∀ t∈us,∀ d l r,lim t d l=some r->r<=l)->∀ l r d,lims us d l=some r->r<=l:=by
   intro us
   induction us with
   | nil=>intro _ l r d h; simp [lims] at h; omega
   | cons t us ih2 =>
    intro hu l r d h
    simp only [lims] at h
    cases h1:lim t d l with
    | none=>rw [h1] at h; cases h
    | some r1 =>
     rw [h1] at h
     have:=hu t (by simp) d l r1 h1
     have:=ih2 (fun t ht=>hu t (by simp [ht])) r1 r d h
     omega
  have:=key ks ih _ _ _ h
  omega
def LimE (w:World) (b:Nat) (o:Option Nat) (e:Ending) (w':World):Prop :=
 e=.returned (.bool o.isSome)/\∃ l':Nat,w'.heap[b]?=some (.cells #[.int .i64 (l':Int)] 3 (0,0))/\(∀ r,o=some r->l'=r)/\w.grownBy w' (some b)
theorem grown_trans {a b c:World} {row:Option Nat} (h1:a.grownBy b row) (h2:b.grownBy c row):a.grownBy c row :=
 ⟨h2.os.trans h1.os,h2.tape.trans h1.tape,h2.output.trans h1.output,Nat.le_trans h1.size h2.size,fun i hi hne=>(h2.block i (Nat.lt_of_lt_of_le hi h1.size) hne).trans (h1.block i hi hne)⟩
theorem grown_alloc {w:World} (o:Obj) (row:Option Nat):w.grownBy (w.alloc o) row :=
 let h:=(Below.refl w.heap.size w).alloc (Nat.le_refl _) o
 ⟨h.os,h.tape,h.output,h.size,fun b hb _=>h.block b hb⟩
theorem NV.grown {w w':World} {S:Nat->Prop} {t:T} {v:Value} {b:Nat} (h:NV w S t v) (hg:w.grownBy w' (some b)) (hb:¬ S b):NV w' S t v :=
 h.keep (fun _ h _=>h) fun i hi hlt=>hg.block i hlt fun e=>by injection e with e; subst e; exact hb hi
theorem RowAt.grown {w w':World} {S:Nat->Prop} {A:Option Addr} {ts:List T} {b:Nat} (h:RowAt w S A ts) (hg:w.grownBy w' (some b)) (hb:¬ S b):RowAt w' S A ts :=
 h.keep (fun _ h _=>h) fun i hi hlt=>hg.block i hlt fun e=>by injection e with e; subst e; exact hb hi
theorem limited_any (t:T):∀ (d l:Nat) (S:Nat->Prop) (v:Value) (w:World) (b:Nat),NV w S t v->¬ S b->d<=80->l<=2000->w.heap[b]?=some (.cells #[.int .i64 (l:Int)] 3 (0,0)) ->
  Calls Tryz.prog 90 #[v,.int .i64 (d:Int),.pointer (some ⟨b,0,none⟩)] w (LimE w b (lim t d l)):=by
 induction t using T.ind with
 | _ k n s ks ih =>
 intro d l S v w b hv hSb hd hl hbx
 obtain ⟨A,c,rfl,hf,hlk,hlc,hrow⟩:=hv.open_
 simp only [T.k_nd,T.n_nd,T.s_nd,T.ks_nd] at *
 have hlk':=LK_int hlk
 have IH:=zh ih
 have HROW:=zh hrow
 have HSB:=zh hSb
 have HBX:=zh hbx
 have hbl:=blk_lt hbx
 have c0:=cell_al (zc (i:=0) (u:=.int .i64 (l:Int)) hbx rfl)
 have f0:∀ o:Obj,(w.alloc o).frozen? ⟨b,0,none⟩=false:=fun o=>by
  have:(w.alloc o).heap[b]?=some (.cells #[.int .i64 (l:Int)] 3 (0,0)):=(Below.heap_alloc w o b hbl).trans hbx
  exact zf this
 clear hv ih hrow hSb hf hlk hbx
 have hne:¬ b=w.heap.size:=by omega
 have hne':¬ w.heap.size=b:=by omega
 by_cases hd0:d=0
 ·subst hd0
  have HX:=zh (show lim (.nd k n s ks) 0 l=none by rw [lim]; simp)
  go_enter Tryz.func90,Tryz.ntmps90
  go_wp2_with fail
  go_ret
  rw [HX.out]
  exact ⟨rfl,l,(Below.heap_alloc w _ b hbl).trans HBX.out,(fun r h=>by cases h),grown_alloc _ _⟩
 by_cases hl0:l=0
 ·subst hl0
  have HX:=zh (show lim (.nd k n s ks) d 0=none by rw [lim]; simp)
  have fd:((d:Int)==0)=false:=by simpa using hd0
  go_enter Tryz.func90,Tryz.ntmps90
  go_wp2_with fail
  go_ret
  rw [HX.out]
  exact ⟨rfl,0,(Below.heap_alloc w _ b hbl).trans HBX.out,(fun r h=>by cases h),grown_alloc _ _⟩
 obtain ⟨d',rfl⟩:∃ d',d=d'+1:=⟨d-1,by omega⟩
 obtain ⟨l',rfl⟩:∃ l',l=l'+1:=⟨l-1,by omega⟩
 have HX:=zh (show lim (.nd k n s ks) (d'+1) (l'+1)=lims ks d' l' by rw [lim,if_neg (by omega)]; simp)
 rw [show ((d'+1:Nat):Int)=(d':Int)+1 from rfl]
 have fd:((d':Int)+1==0)=false:=by simp; omega
 have fl:((l':Int)+1==0)=false:=by simp; omega
 clear hd0 hl0
 have hb1:(w.setCell ⟨b,0,none⟩ (.int .i64 (l':Int))).heap[b]?=some (.cells #[.int .i64 (l':Int)] 3 (0,0)):=by
  have h1:=heap_setCell_same w b 0 _ 3 (.int .i64 (l':Int)) HBX.out
  simpa using h1
 have hz1:(w.setCell ⟨b,0,none⟩ (.int .i64 (l':Int))).heap.size=w.heap.size:=by simp [World.setCell]
 obtain ⟨W0,hW0⟩:∃ W0,(w.setCell ⟨b,0,none⟩ (.int .i64 (l':Int))).alloc (.cells #[.int .u8 k,.int .i64 n,.string s,.slice A ks.length c] 29)=W0:=⟨_,rfl⟩
 have H0:W0.heap[b]?=some (.cells #[.int .i64 (l':Int)] 3 (0,0)):=by
  rw [<-hW0,Below.heap_alloc _ _ b (by rw [hz1]; exact hbl)]; exact hb1
 have A0:W0.heap[w.heap.size]?=some (.cells #[.int .u8 k,.int .i64 n,.string s,.slice A ks.length c] 29 (0,0)):=by
  rw [<-hW0,<-hz1]; exact heap_alloc_new _ _
 have G0:w.grownBy W0 (some b):=by
  rw [<-hW0]
  refine grown_trans (only_set (only_refl w (some b)) (p:=⟨b,0,none⟩) rfl _) (grown_alloc _ _)
 have HH:=zh (And.intro H0 (And.intro A0 G0))
 have HW0:=zh hW0
 clear H0 G0 A0 hb1 hz1 hW0
 go_enter Tryz.func90,Tryz.ntmps90
 go_wp2_with fail
 rw [HW0.out]
 clear c0 f0
 go_loopw [25] (fun i wr=>∃ (j lc:Nat),j<=ks.length/\i=.int .i64 j/\lc<=2000/\Hid (lims (ks.take j) d' l'=some lc)/\wr.heap[b]?=some (.cells #[.int .i64 (lc:Int)] 3 (0,0))/\wr.heap[w.heap.size]?=some (.cells #[.int .u8 k,.int .i64 n,.string s,.slice A ks.length c] 29 (0,0))/\w.grownBy wr (some b)) (fun i _=>ks.length-(intOf i).toNat)
 case atStart=>exact ⟨0,l',Nat.zero_le _,rfl,by omega,zh (by simp [lims]),HH.out.1,HH.out.2.1,HH.out.2.2⟩
 case round =>
  obtain ⟨j,lc,hj,rfl,hlc2,HLI,hbx,hax,hg⟩:=hrel
  clear HH HW0
  by_cases hlt:j<ks.length
  ·obtain ⟨a,t,A1,c1,rfl,_,Ht,⟨q0,q1,q2,q3⟩,hn⟩:=(HROW.out.grown hg HSB.out).nd hlt
   have hI:=IH.out ks[j] (List.getElem_mem hlt)
   rw [Ht.out] at hI
   have hbl2:=blk_lt hbx
   have hal:∀ o:Obj,(wr.alloc o).heap[b]?=some (.cells #[.int .i64 (lc:Int)] 3 (0,0)):=fun o=>(Below.heap_alloc wr o b hbl2).trans hbx
   have HI1:=zh (hI d' lc S _ (wr.alloc (.cells #[.int .u8 t.k,.int .i64 t.n,.string t.s,.slice A1 t.ks.length c1] 29)) b (hn.later ((Below.refl _ _).alloc (Nat.le_refl _) _)) HSB.out (by omega) hlc2 (hal _))
   have HT:=zh (show lims (ks.take (j+1)) d' l'=lim t d' lc by rw [lims_take hlt HLI.out,Ht.out])
   have HG:=zh (grown_trans hg (grown_alloc (.cells #[.int .u8 t.k,.int .i64 t.n,.string t.s,.slice A1 t.ks.length c1] 29) _))
   have HAX:=zh (show ∀ o:Obj,(wr.alloc o).heap[w.heap.size]?=some (.cells #[.int .u8 k,.int .i64 n,.string s,.slice (some a) ks.length c] 29 (0,0)) from fun o=>(Below.heap_alloc wr o _ (blk_lt hax)).trans hax)
   clear hI hn hbx hax hal
   go_wp2_with fail
   refine HI1.out.mono ?_
   rintro e w1 ⟨rfl,l1,hb1,hl1,hg1⟩
   have HG1:=zh (grown_trans HG.out hg1)
   have HA1:=zh ((hg1.block _ (blk_lt (HAX.out _)) (fun e=>hne' (by injection e))).trans (HAX.out _))
   have HB1:=zh hb1
   clear hb1 hg1
   cases ho:lim t d' lc with
   | none =>
    have HX2:=zh (show lims ks d' l'=none from lims_none (j:=j+1) (by rw [HT.out,ho]))
    go_wp2_with fail
    go_ret
    rw [HX.out,HX2.out]
    exact ⟨rfl,l1,HB1.out,(fun r h=>by cases h),HG1.out⟩
   | some r =>
    have hr1:=hl1 r ho
    subst hr1
    have hle:l1<=2000:=by have:=lim_le t d' lc l1 ho; omega
    have HT2:=zh (show lims (ks.take (j+1)) d' l'=some l1 by rw [HT.out,ho])
    clear hl1 ho
    go_wp2_with fail
    go_roundw
    case rel=>exact ⟨j+1,l1,by omega,by go_num,hle,HT2,HB1.out,HA1.out,HG1.out⟩
    case measure=>simp [intOf]; omega
  ·obtain rfl:j=ks.length:=by omega
   have HL2:=zh (show lims ks d' l'=some lc by have:=HLI.out; rw [List.take_of_length_le (by omega)] at this; exact this)
   go_wp2_with fail
   go_ret
   rw [HX.out,HL2.out]
   exact ⟨rfl,lc,hbx,(fun r h=>by cases h; rfl),hg⟩
def isBodyB (t:T):Bool:=(lim t 80 2000).isSome&&isB t
theorem isBody_any (t:T) (v:Value) (w:World) (hv:NV w Any t v):Calls Tryz.prog 52 #[v] w fun e w'=>e=.returned (.bool (isBodyB t))/\Below w.heap.size w w':=by
 have HV:=zh hv
 have HX:=zh (show isBodyB t=((lim t 80 2000).isSome&&isB t) from rfl)
 obtain ⟨A,c,rfl,hf,hlk,hlc,hrow⟩:=hv.open_
 clear hf hlk hrow hv hlc
 generalize t.k=k,t.n=n,t.s=s,t.ks.length=l at *
 have HV2:=zh (show NV w (fun b=>b<w.heap.size) t (nv k n s A l c) from HV.out.keep (fun _ _ h=>h) fun _ _ _=>rfl)
 have hb2:∀ o o',Below w.heap.size w ((w.alloc o).alloc o'):=fun o o'=>((Below.refl _ _).alloc (Nat.le_refl _) _).alloc (by simp) _
 have HB2:=zh hb2
 have HBX:=zh (show ∀ o:Obj,((w.alloc o).alloc (.cells #[.int .i64 2000] 3)).heap[w.heap.size+1]?=some (.cells #[.int .i64 ((2000:Nat):Int)] 3 (0,0)) from fun o=>by
  have:=heap_alloc_new (w.alloc o) (.cells #[.int .i64 2000] 3)
  simpa using this)
 clear hb2
 go_enter Tryz.func52,Tryz.ntmps52
 go_wp2_with fail
 refine (limited_any t 80 2000 (fun b=>b<w.heap.size) _ _ (w.heap.size+1) (HV2.out.later (HB2.out _ _)) (fun h=>by have h':w.heap.size+1<w.heap.size:=h; omega) (by omega) (by omega) (HBX.out _)).mono ?_
 rintro e w1 ⟨rfl,l1,hb1,_,hg1⟩
 have q1:Below w.heap.size w w1:=by
  refine (HB2.out (.cells #[.int .u8 k,.int .i64 n,.string s,.slice A l c] 29) (.cells #[.int .i64 2000] 3)).grown hg1 (by simp; omega) ?_
  intro g e; injection e with e; omega
 have hc:∀ i,w1.cell? ⟨w.heap.size,i,none⟩=((w.alloc (.cells #[.int .u8 k,.int .i64 n,.string s,.slice A l c] 29)).alloc (.cells #[.int .i64 2000] 3)).cell? ⟨w.heap.size,i,none⟩:=fun i =>
  World.cell?_of_block (a:=⟨w.heap.size,i,none⟩) (hg1.block _ (by simp; omega) (fun e=>by simp at e))
 have x0:w1.cell? ⟨w.heap.size,0,none⟩=some (.int .u8 k):=(hc 0).trans (by simp)
 have x1:w1.cell? ⟨w.heap.size,1,none⟩=some (.int .i64 n):=(hc 1).trans (by simp)
 have x2:w1.cell? ⟨w.heap.size,2,none⟩=some (.string s):=(hc 2).trans (by simp)
 have x3:w1.cell? ⟨w.heap.size,3,none⟩=some (.slice A l c):=(hc 3).trans (by simp)
 have HX1:=HX.out
 clear hc hg1 hb1
 cases ho:(lim t 80 2000).isSome
 ·rw [ho] at HX1
  go_wp2_with fail
  go_ret
  exact ⟨by rw [HX1]; rfl,q1⟩
 ·rw [ho] at HX1
  have HX2:=zh HX1
  clear HX1
  go_wp2_with fail
  refine (IsBlock_any t _ _ (HV.out.later q1)).mono ?_
  rintro e w2 ⟨rfl,bw2⟩
  go_wp2_with fail
  go_ret
  exact ⟨by rw [HX2.out]; simp,q1.trans (bw2.mono q1.size)⟩
def declB (v:VD):Bool:=nameB v.s&&(if v.k=1\/v.k=3 then v.n==0 else if v.k=2 then decide (1<=v.n/\v.n<=16) else false)
theorem all_take {vs:List VD} {f:VD->Bool} {j:Nat} (hj:j<vs.length) (h:(vs.take j).all f=true):(vs.take (j+1)).all f=f vs[j]:=by
 rw [List.take_succ_eq_append_getElem hj,List.all_append,h]; simp
theorem all_none {vs:List VD} {f:VD->Bool} {j:Nat} (hj:j<vs.length) (h:f vs[j]=false):vs.all f=false:=by
 simp only [List.all_eq_false]
 exact ⟨vs[j],List.getElem_mem hj,by simp [h]⟩
theorem declared_any (vs:List VD) (A:Option Addr) (c:Nat) (S:Nat->Prop) (w:World) (hrow:RowV w S A vs) (hl:vs.length<=LV) (_hlc:vs.length<=c) :
  Calls Tryz.prog 50 #[.slice A vs.length c] w fun e w'=>e=.returned (.bool (vs.all declB))/\Below w.heap.size w w':=by
 have hl':=LV_int hl
 have HROW:=zh hrow
 clear hrow hl
 go_enter Tryz.func50,Tryz.ntmps50
 go_wp2_with fail
 go_loopw [7] (fun i wr=>∃ j:Nat,j<=vs.length/\i=.int .i64 j/\Below w.heap.size w wr/\Hid ((vs.take j).all declB=true)) (fun i _=>vs.length-(intOf i).toNat)
 case atStart=>exact ⟨0,Nat.zero_le _,rfl,Below.refl _ _,zh (by simp)⟩
 case round =>
  obtain ⟨j,hj,rfl,hb,HA⟩:=hrel
  by_cases hlt:j<vs.length
  ·obtain ⟨a,v,rfl,_,Hv,⟨q0,q1,q2⟩,hf⟩:=(HROW.out.later hb).nd hlt
   have HT:=zh (show (vs.take (j+1)).all declB=declB v by rw [all_take hlt HA.out,Hv.out])
   have HN:=zh (show declB v=false->vs.all declB=false from fun h=>all_none hlt (by rw [Hv.out]; exact h))
   have HD:=zh (show declB v=(nameB v.s&&(if v.k=1\/v.k=3 then v.n==0 else if v.k=2 then decide (1<=v.n/\v.n<=16) else false)) from rfl)
   obtain ⟨s,hs⟩:∃ s,v.s=s:=⟨_,rfl⟩
   obtain ⟨k,hk⟩:∃ k,v.k=k:=⟨_,rfl⟩
   obtain ⟨n,hn⟩:∃ n,v.n=n:=⟨_,rfl⟩
   have HD':=HD.out
   rw [hs,hk,hn] at HD'
   rw [hs] at q0
   rw [hk] at q1
   rw [hn] at q2
   clear HD hf hs hk hn
   have HD:=zh HD'
   clear HD'
   go_wp2_with fail
   refine (Name_any s _).mono ?_
   rintro e w1 ⟨rfl,bw1⟩
   have q1':Below w.heap.size w w1:=(hb.alloc hb.size _).trans (bw1.mono (by have:=hb.size; simp; omega))
   have x1:w1.cell? ⟨wr.heap.size,1,none⟩=some (.int .u8 k):=zb bw1 (by simp)
   have x2:w1.cell? ⟨wr.heap.size,2,none⟩=some (.int .i64 n):=zb bw1 (by simp)
   have HD':=HD.out
   clear bw1
   cases hnm:nameB s
   ·rw [hnm] at HD'
    have HR:=zh (HN.out (by rw [HD']; rfl))
    clear HD'
    go_wp2_with fail
    go_ret
    exact ⟨by rw [HR.out]; rfl,q1'⟩
   rw [hnm,Bool.true_and] at HD'
   by_cases h13:k=1\/k=3
   ·rw [if_pos h13] at HD'
    by_cases hn0:n=0
    ·subst hn0
     have HG:=zh (show (vs.take (j+1)).all declB=true by rw [HT.out,HD']; rfl)
     clear HD'
     rcases h13 with rfl|rfl
     ·go_wp2_with fail
      go_roundw
      case rel=>exact ⟨j+1,by omega,by go_num,q1',HG⟩
      case measure=>simp [intOf]; omega
     ·go_wp2_with fail
      go_roundw
      case rel=>exact ⟨j+1,by omega,by go_num,q1',HG⟩
      case measure=>simp [intOf]; omega
    ·have fn:(n != 0)=true:=by simpa using hn0
     have HR:=zh (HN.out (by rw [HD']; simpa using hn0))
     clear HD'
     rcases h13 with rfl|rfl
     ·go_wp2_with fail
      go_ret
      exact ⟨by rw [HR.out]; rfl,q1'⟩
     ·go_wp2_with fail
      go_ret
      exact ⟨by rw [HR.out]; rfl,q1'⟩
   ·rw [if_neg h13] at HD'
    have f1:(k==1)=false:=by simp; omega
    have f3:(k==3)=false:=by simp; omega
    by_cases h2:k=2
    ·subst h2
     rw [if_pos rfl] at HD'
     by_cases hl1:n<1
     ·have HR:=zh (HN.out (by rw [HD']; simp; omega))
      clear HD'
      go_wp2_with fail
      go_ret
      exact ⟨by rw [HR.out]; rfl,q1'⟩
     ·by_cases hg16:16<n
      ·have HR:=zh (HN.out (by rw [HD']; simp; omega))
       have hl1':1<=n:=by omega
       clear HD' hl1
       go_wp2_with fail
       go_ret
       exact ⟨by rw [HR.out]; rfl,q1'⟩
      ·have HG:=zh (show (vs.take (j+1)).all declB=true by rw [HT.out,HD']; simp; omega)
       have hl1':1<=n:=by omega
       have hg16':n<=16:=by omega
       clear HD' hl1 hg16
       go_wp2_with fail
       go_roundw
       case rel=>exact ⟨j+1,by omega,by go_num,q1',HG⟩
       case measure=>simp [intOf]; omega
    ·rw [if_neg h2] at HD'
     have f2:(k==2)=false:=by simpa using h2
     have HR:=zh (HN.out HD')
     clear HD'
     go_wp2_with fail
     go_ret
     exact ⟨by rw [HR.out]; rfl,q1'⟩
  ·obtain rfl:j=vs.length:=by omega
   have HR:=zh (show vs.all declB=true by have:=HA.out; rw [List.take_of_length_le (by omega)] at this; exact this)
   go_wp2_with fail
   go_ret
   exact ⟨by rw [HR.out]; rfl,hb⟩
def procB (r:PR):Bool:=nameB r.s&&decide (r.ps.length<=8)&&r.ps.all declB&&isBodyB r.b
def validB (p:PG):Bool:=decide (p.vs.length<=32)&&decide (p.prs.length<=64)&&p.vs.all declB&&p.prs.all procB&&isBodyB p.m
theorem pall_take {vs:List PR} {f:PR->Bool} {j:Nat} (hj:j<vs.length) (h:(vs.take j).all f=true):(vs.take (j+1)).all f=f vs[j]:=by
 rw [List.take_succ_eq_append_getElem hj,List.all_append,h]; simp
theorem pall_none {vs:List PR} {f:PR->Bool} {j:Nat} (hj:j<vs.length) (h:f vs[j]=false):vs.all f=false:=by
 simp only [List.all_eq_false]
 exact ⟨vs[j],List.getElem_mem hj,by simp [h]⟩
theorem Valid_any (p:PG) (S:Nat->Prop) (v:Value) (w:World) (hv:PV w S p v):Calls Tryz.prog 17 #[v] w fun e w'=>e=.returned (.bool (validB p))/\Below w.heap.size w w':=by
 obtain ⟨A1,c1,A2,c2,A3,c3,rfl,hr⟩:=hv
 have HR:=zh hr
 have hv1:=LV_int hr.lv
 have hv2:=LV_int hr.lp
 have HX:=zh (show validB p=(decide (p.vs.length<=32)&&decide (p.prs.length<=64)&&p.vs.all declB&&p.prs.all procB&&isBodyB p.m) from rfl)
 have hlc2:=hr.lpc
 obtain ⟨L1,hL1⟩:∃ L,p.vs.length=L:=⟨_,rfl⟩
 obtain ⟨L2,hL2⟩:∃ L,p.prs.length=L:=⟨_,rfl⟩
 obtain ⟨k,hk⟩:∃ k,p.m.k=k:=⟨_,rfl⟩
 obtain ⟨n,hn⟩:∃ n,p.m.n=n:=⟨_,rfl⟩
 obtain ⟨s,hs⟩:∃ s,p.m.s=s:=⟨_,rfl⟩
 obtain ⟨l3,hl3⟩:∃ l,p.m.ks.length=l:=⟨_,rfl⟩
 have HL1:=zh hL1
 have HL2:=zh hL2
 have hm:=hr.main
 rw [hk,hn,hs,hl3] at hm
 have HM:=zh hm
 have hx:=HX.out
 rw [hL1,hL2] at hx
 rw [hL1] at hv1
 rw [hL2] at hv2 hlc2
 rw [hL1,hL2,hk,hn,hs,hl3]
 clear hr hm HX hL1 hL2 hk hn hs hl3
 have HX:=zh hx
 clear hx
 have hb0:∀ o,Below w.heap.size w (w.alloc o):=fun o=>(Below.refl _ _).alloc (Nat.le_refl _) _
 have HB0:=zh hb0
 clear hb0
 have HDC:=zh (show ∀ w',Below w.heap.size w w'->Calls Tryz.prog 50 #[.slice A1 L1 c1] w' fun e w''=>e=.returned (.bool (p.vs.all declB))/\Below w'.heap.size w' w'' from fun w' h=>by
  have:=declared_any p.vs A1 c1 S w' (HR.out.vars.later h) HR.out.lv HR.out.lvc
  rw [HL1.out] at this
  exact this)
 by_cases h32:32<L1
 ·have HF:=zh (show validB p=false by rw [HX.out]; simp; intro h; omega)
  have h32':(32:Int)<(L1:Int):=by omega
  go_enter Tryz.func17,Tryz.ntmps17
  go_wp2_with fail
  go_ret
  exact ⟨by rw [HF.out]; rfl,HB0.out _⟩
 by_cases h64:64<L2
 ·have HF:=zh (show validB p=false by rw [HX.out]; simp; intro _ h; omega)
  have h32':(L1:Int)<=32:=by omega
  have h64':(64:Int)<(L2:Int):=by omega
  clear h32
  go_enter Tryz.func17,Tryz.ntmps17
  go_wp2_with fail
  go_ret
  exact ⟨by rw [HF.out]; rfl,HB0.out _⟩
 have h32':(L1:Int)<=32:=by omega
 have h64':(L2:Int)<=64:=by omega
 have hx:=HX.out
 have e1:L1<=32:=by omega
 have e2:L2<=64:=by omega
 rw [decide_eq_true e1,decide_eq_true e2] at hx
 simp only [Bool.true_and] at hx
 clear HX h32 h64 e1 e2
 have HX:=zh hx
 clear hx
 go_enter Tryz.func17,Tryz.ntmps17
 go_wp2_with fail
 refine (HDC.out _ (HB0.out _)).mono ?_
 rintro e w1 ⟨rfl,bw1⟩
 have q1:Below w.heap.size w w1:=(HB0.out _).trans (bw1.mono (by simp))
 have hbx:w1.heap[w.heap.size]?=some (.cells #[.slice A1 L1 c1,.slice A2 L2 c2,.int .u8 k,.int .i64 n,.string s,.slice A3 l3 c3] 35 (0,0)):=(bw1.block _ (by simp)).trans (heap_alloc_new w _)
 have x1:w1.cell? ⟨w.heap.size,1,none⟩=some (.slice A2 L2 c2):=zc hbx rfl
 have hx:=HX.out
 clear bw1 HDC
 cases hd:p.vs.all declB
 ·rw [hd] at hx
  have HF:=zh (show validB p=false by rw [hx]; rfl)
  clear hx
  go_wp2_with fail
  go_ret
  exact ⟨by rw [HF.out]; rfl,q1⟩
 rw [hd,Bool.true_and] at hx
 have HX2:=zh hx
 have HBX:=zh hbx
 clear hx HX hd hbx
 go_wp2_with fail
 go_loopw [24] (fun i wr=>∃ j:Nat,j<=L2/\i=.int .i64 j/\Below w1.heap.size w1 wr/\Hid ((p.prs.take j).all procB=true)) (fun i _=>L2-(intOf i).toNat)
 case atStart=>exact ⟨0,Nat.zero_le _,rfl,Below.refl _ _,zh (by simp)⟩
 case round =>
  obtain ⟨j,hj,rfl,hb,HA⟩:=hrel
  have hq:Below w.heap.size w wr:=q1.trans (hb.mono q1.size)
  by_cases hlt:j<L2
  ·have hlt':j<p.prs.length:=by rw [HL2.out]; exact hlt
   obtain ⟨a,r,B1,d1,B2,d2,rfl,_,Hr,⟨z0,z1,z2,z3,z4,z5⟩,hrr⟩:=(HR.out.procs.later hq).nd hlt'
   have HRR:=zh hrr
   have HT:=zh (show (p.prs.take (j+1)).all procB=procB r by rw [pall_take hlt' HA.out,Hr.out])
   have HN:=zh (show procB r=false->validB p=false from fun h=>by rw [HX2.out,pall_none hlt' (by rw [Hr.out]; exact h)]; rfl)
   have HPB:=zh (show procB r=(nameB r.s&&decide (r.ps.length<=8)&&r.ps.all declB&&isBodyB r.b) from rfl)
   have hd1:=LV_int hrr.lp
   clear hrr
   have HDC:=zh (show ∀ w',Below wr.heap.size wr w'->Calls Tryz.prog 50 #[.slice B1 r.ps.length d1] w' fun e w''=>e=.returned (.bool (r.ps.all declB))/\Below w'.heap.size w' w'' from fun w' h=>declared_any r.ps B1 d1 S w' (HRR.out.row.later h) HRR.out.lp HRR.out.lc)
   have HBD:=zh (show ∀ w',Below wr.heap.size wr w'->NV w' Any r.b (nv r.b.k r.b.n r.b.s B2 r.b.ks.length d2) from fun w' h=>(HRR.out.body.later h).any)
   obtain ⟨rs,hrs⟩:∃ s,r.s=s:=⟨_,rfl⟩
   obtain ⟨rl,hrl⟩:∃ l,r.ps.length=l:=⟨_,rfl⟩
   obtain ⟨bk,hbk⟩:∃ k,r.b.k=k:=⟨_,rfl⟩
   obtain ⟨bn,hbn⟩:∃ k,r.b.n=k:=⟨_,rfl⟩
   obtain ⟨bs,hbs⟩:∃ k,r.b.s=k:=⟨_,rfl⟩
   obtain ⟨bl,hbl⟩:∃ k,r.b.ks.length=k:=⟨_,rfl⟩
   have hpb:=HPB.out
   have hdc:=HDC.out
   have hbd:=HBD.out
   rw [hrs] at z0 hpb
   rw [hrl] at z1 hpb hdc hd1
   rw [hbk] at z2 hbd
   rw [hbn] at z3 hbd
   rw [hbs] at z4 hbd
   rw [hbl] at z5 hbd
   clear HPB HDC HBD HRR hrs hrl hbk hbn hbs hbl
   have HPB:=zh hpb
   have HDC:=zh hdc
   have HBD:=zh hbd
   clear hpb hdc hbd
   go_wp2_with fail
   refine (Name_any rs _).mono ?_
   rintro e w2 ⟨rfl,bw2⟩
   have b2:Below wr.heap.size wr w2:=((Below.refl _ _).alloc (Nat.le_refl _) _).trans (bw2.mono (by simp))
   have hbx:w2.heap[wr.heap.size]?=some (.cells #[.string rs,.slice B1 rl d1,.int .u8 bk,.int .i64 bn,.string bs,.slice B2 bl d2] 103 (0,0)):=(bw2.block _ (by simp)).trans (heap_alloc_new wr _)
   have u1:w2.cell? ⟨wr.heap.size,1,none⟩=some (.slice B1 rl d1):=zc hbx rfl
   have hpb:=HPB.out
   clear bw2
   cases hnm:nameB rs
   ·rw [hnm] at hpb
    have HF:=zh (HN.out (by rw [hpb]; rfl))
    clear hpb
    go_wp2_with fail
    go_ret
    exact ⟨by rw [HF.out]; rfl,hq.trans (b2.mono hq.size)⟩
   rw [hnm,Bool.true_and] at hpb
   by_cases h8:8<rl
   ·have HF:=zh (HN.out (by rw [hpb]; simp; intro h; omega))
    have h8':(8:Int)<(rl:Int):=by omega
    clear hpb
    go_wp2_with fail
    go_ret
    exact ⟨by rw [HF.out]; rfl,hq.trans (b2.mono hq.size)⟩
   rw [decide_eq_true (show rl<=8 by omega),Bool.true_and] at hpb
   have h8':(rl:Int)<=8:=by omega
   have HPC:=zh hpb
   have HBX2:=zh hbx
   clear hpb HPB h8 hbx
   go_wp2_with fail
   refine (HDC.out _ b2).mono ?_
   rintro e w3 ⟨rfl,bw3⟩
   have b3:=b2.trans (bw3.mono b2.size)
   have hbx:w3.heap[wr.heap.size]?=some (.cells #[.string rs,.slice B1 rl d1,.int .u8 bk,.int .i64 bn,.string bs,.slice B2 bl d2] 103 (0,0)):=(bw3.block _ (blk_lt HBX2.out)).trans HBX2.out
   have u2:w3.cell? ⟨wr.heap.size,2,none⟩=some (.int .u8 bk):=zc hbx rfl
   have u3:w3.cell? ⟨wr.heap.size,3,none⟩=some (.int .i64 bn):=zc hbx rfl
   have u4:w3.cell? ⟨wr.heap.size,4,none⟩=some (.string bs):=zc hbx rfl
   have u5:w3.cell? ⟨wr.heap.size,5,none⟩=some (.slice B2 bl d2):=zc hbx rfl
   have hpb:=HPC.out
   clear bw3 u1 hbx
   cases hdd:r.ps.all declB
   ·rw [hdd] at hpb
    have HF:=zh (HN.out (by rw [hpb]; rfl))
    clear hpb
    go_wp2_with fail
    go_ret
    exact ⟨by rw [HF.out]; rfl,hq.trans (b3.mono hq.size)⟩
   rw [hdd,Bool.true_and] at hpb
   have HPD:=zh hpb
   clear hpb HPC hdd
   go_wp2_with fail
   refine (isBody_any r.b _ _ (HBD.out _ b3)).mono ?_
   rintro e w4 ⟨rfl,bw4⟩
   have b4:=b3.trans (bw4.mono b3.size)
   have hpb:=HPD.out
   clear bw4 u2 u3 u4 u5
   cases hbb:isBodyB r.b
   ·rw [hbb] at hpb
    have HF:=zh (HN.out hpb)
    clear hpb
    go_wp2_with fail
    go_ret
    exact ⟨by rw [HF.out]; rfl,hq.trans (b4.mono hq.size)⟩
   ·rw [hbb] at hpb
    have HG:=zh (show (p.prs.take (j+1)).all procB=true by rw [HT.out]; exact hpb)
    have HQ4:=zh (hb.trans (b4.mono hb.size))
    clear hpb
    go_wp2_with fail
    go_roundw
    case rel=>exact ⟨j+1,by omega,by go_num,HQ4.out,HG⟩
    case measure=>simp [intOf]; omega
  ·obtain rfl:j=L2:=by omega
   have HF:=zh (show validB p=isBodyB p.m by rw [HX2.out]; have:=HA.out; rw [List.take_of_length_le (by rw [HL2.out]; omega)] at this; rw [this]; rfl)
   have hbx:wr.heap[w.heap.size]?=some (.cells #[.slice A1 L1 c1,.slice A2 j c2,.int .u8 k,.int .i64 n,.string s,.slice A3 l3 c3] 35 (0,0)):=(hb.block _ (blk_lt HBX.out)).trans HBX.out
   have y2:wr.cell? ⟨w.heap.size,2,none⟩=some (.int .u8 k):=zc hbx rfl
   have y3:wr.cell? ⟨w.heap.size,3,none⟩=some (.int .i64 n):=zc hbx rfl
   have y4:wr.cell? ⟨w.heap.size,4,none⟩=some (.string s):=zc hbx rfl
   have y5:wr.cell? ⟨w.heap.size,5,none⟩=some (.slice A3 l3 c3):=zc hbx rfl
   go_wp2_with fail
   refine (isBody_any p.m _ _ (HM.out.later hq).any).mono ?_
   rintro e w2 ⟨rfl,bw2⟩
   go_wp2_with fail
   go_ret
   exact ⟨by rw [HF.out]; rfl,hq.trans (bw2.mono hq.size)⟩
def freshE (vs:List VD) (s:ByteArray):Int:=if (findV vs s).isSome then 22 else 0
def useE (vs:List VD) (s:ByteArray) (k:Int):Int:=match findV vs s with
 | none=>6
 | some v=>if v.k=k then 0 else 7
theorem fresh_any (vs:List VD) (A:Option Addr) (c:Nat) (s:ByteArray) (S:Nat->Prop) (w:World) (hrow:RowV w S A vs) (hl:vs.length<=LV) :
  Calls Tryz.prog 93 #[.slice A vs.length c,.string s] w fun e w'=>e=.returned (.int .i64 (freshE vs s))/\Below w.heap.size w w':=by
 have HROW:=zh hrow
 have HL:=zh hl
 obtain ⟨E,hE⟩:∃ E,freshE vs s=E:=⟨_,rfl⟩
 rw [hE]
 have HE:=zh hE
 clear hrow hl hE
 go_enter Tryz.func93,Tryz.ntmps93
 go_wp2_with fail
 refine (Find_any vs A c s S _ HROW.out HL.out).mono ?_
 rintro e w1 ⟨rfl,bw1⟩
 cases hf:findV vs s with
 | none =>
  have HN:=zh (show E=0 by rw [<-HE.out]; simp [freshE,hf])
  have HB:=zh (show Below w.heap.size w (w1.alloc (.cells #[.string ⟨#[]⟩,.int .u8 0,.int .i64 0] 83)) from bw1.alloc bw1.size _)
  clear hf bw1
  go_wp2_with fail
  go_ret
  exact ⟨by rw [HN.out]; rfl,HB.out⟩
 | some v =>
  have HN:=zh (show E=22 by rw [<-HE.out]; simp [freshE,hf])
  have HB:=zh (show Below w.heap.size w (w1.alloc (.cells #[.string v.s,.int .u8 v.k,.int .i64 v.n] 83)) from bw1.alloc bw1.size _)
  clear hf bw1
  go_wp2_with fail
  go_ret
  exact ⟨by rw [HN.out]; rfl,HB.out⟩
theorem use_any (vs:List VD) (A:Option Addr) (c:Nat) (s:ByteArray) (k:Int) (S:Nat->Prop) (w:World) (hrow:RowV w S A vs) (hl:vs.length<=LV) :
  Calls Tryz.prog 164 #[.slice A vs.length c,.string s,.int .u8 k] w fun e w'=>e=.returned (.int .i64 (useE vs s k))/\Below w.heap.size w w':=by
 have HROW:=zh hrow
 have HL:=zh hl
 obtain ⟨E,hE⟩:∃ E,useE vs s k=E:=⟨_,rfl⟩
 rw [hE]
 have HE:=zh hE
 clear hrow hl hE
 go_enter Tryz.func164,Tryz.ntmps164
 go_wp2_with fail
 refine (Find_any vs A c s S _ HROW.out HL.out).mono ?_
 rintro e w1 ⟨rfl,bw1⟩
 cases hf:findV vs s with
 | none =>
  have HN:=zh (show E=6 by rw [<-HE.out]; simp [useE,hf])
  have HB:=zh (show Below w.heap.size w (w1.alloc (.cells #[.string ⟨#[]⟩,.int .u8 0,.int .i64 0] 83)) from bw1.alloc bw1.size _)
  clear hf bw1
  go_wp2_with fail
  go_ret
  exact ⟨by rw [HN.out]; rfl,HB.out⟩
 | some v =>
  obtain ⟨vm,vk,vl⟩:=v
  have HB2:=zh (show Below w.heap.size w (w1.alloc (.cells #[.string vm,.int .u8 vk,.int .i64 vl] 83)) from bw1.alloc bw1.size _)
  have HN:=zh (show E=if vk=k then 0 else 7 by rw [<-HE.out]; simp [useE,hf])
  clear hf bw1
  by_cases hk:vk=k
  ·have e1:(vk==k)=true:=by simpa using hk
   have e2:(vk != k)=false:=by simpa using hk
   have HN2:=zh (show E=0 by rw [HN.out,if_pos hk])
   clear hk
   go_wp2_with fail
   go_ret
   exact ⟨by rw [HN2.out]; rfl,HB2.out⟩
  ·have e1:(vk==k)=false:=by simpa using hk
   have e2:(vk != k)=true:=by simpa using hk
   have HN2:=zh (show E=7 by rw [HN.out,if_neg hk])
   clear hk
   go_wp2_with fail
   go_ret
   exact ⟨by rw [HN2.out]; rfl,HB2.out⟩
def idxP (ps:List PR) (s:ByteArray):Option Nat:=ps.findIdx? fun r=>r.s.toList==s.toList
def procE (ps:List PR) (s:ByteArray):Int:=match idxP ps s with
 | some i=>i
 | none => -1
theorem Proc1_any (rs:ByteArray) (u1 u2 u3 u4 u5:Value) (s:ByteArray) (nb:Nat) (w:World) (hc:w.cell? ⟨nb,0,none⟩=some (.string s)) :
  Calls Tryz.prog 136 #[.agg #[.string rs,u1,u2,u3,u4,u5],.pointer (some ⟨nb,0,none⟩)] w fun e w'=>e=.returned (.bool (rs.toList==s.toList))/\Below w.heap.size w w':=by
 have hc':=cell_al hc
 go_enter Tryz.func136,Tryz.ntmps136
 go_wp2_with fail
 go_ret
 exact ⟨rfl,(Below.refl _ _).alloc (Nat.le_refl _) _⟩
theorem IndexFuncP_any (ps:List PR) (A:Option Addr) (c:Nat) (s:ByteArray) (nb:Nat) (S:Nat->Prop) (w:World) (hrow:RowP w S A ps) (hl:ps.length<=LV) (hc:w.cell? ⟨nb,0,none⟩=some (.string s)) :
  Calls Tryz.prog 135 #[.slice A ps.length c,.func (.func 136) #[] #[.pointer (some ⟨nb,0,none⟩)]] w fun e w'=>e=.returned (.int .i64 (procE ps s))/\Below w.heap.size w w':=by
 have hl':=LV_int hl
 have HROW:=zh hrow
 have HC:=zh hc
 obtain ⟨R,hR⟩:∃ R,procE ps s=R:=⟨_,rfl⟩
 rw [hR]
 have HR:=zh hR
 clear hrow hl hc hR
 go_enter Tryz.func135,Tryz.ntmps135
 go_wp2_with fail
 go_loopw [8] (fun i wr=>∃ j:Nat,j<=ps.length/\i=.int .i64 j/\Below w.heap.size w wr/\Hid (∀ q (h:q<ps.length),q<j->(ps[q].s.toList==s.toList)=false)) (fun i _=>ps.length-(intOf i).toNat)
 case atStart=>exact ⟨0,Nat.zero_le _,rfl,Below.refl _ _,zh fun q _ h=>by omega⟩
 case round =>
  obtain ⟨j,hj,rfl,hbl,HJ⟩:=hrel
  by_cases hlt:j<ps.length
  ·obtain ⟨a,r,B1,f1,B2,f2,rfl,_,Hr,⟨q0,q1,q2,q3,q4,q5⟩,-⟩:=(HROW.out.later hbl).nd hlt
   obtain ⟨b,hb⟩:∃ b,(r.s.toList==s.toList)=b:=⟨_,rfl⟩
   have HB:=zh hb
   clear hb
   go_wp2_with fail
   refine (Proc1_any r.s _ _ _ _ _ s nb _ (zb hbl HC.out)).mono ?_
   rintro e w1 ⟨rfl,bw1⟩
   rw [HB.out]
   have HBL:=zh (bl_tt hbl bw1)
   clear bw1 q0 q1 q2 q3 q4 q5
   cases b
   ·have HJ2:=zh (show ∀ q (h:q<ps.length),q<j+1->(ps[q].s.toList==s.toList)=false from fun q h hq=>by
     by_cases e:q<j
     ·exact HJ.out q h e
     ·obtain rfl:q=j:=by omega
      rw [Hr.out]; exact HB.out)
    go_wp2_with fail
    go_roundw
    case rel=>exact ⟨j+1,by omega,by go_num,HBL.out,HJ2⟩
    case measure=>simp [intOf]; omega
   ·have HN:=zh (show R=j by
     rw [<-HR.out]
     have:idxP ps s=some j:=List.findIdx?_eq_some_iff_getElem.2 ⟨hlt,by rw [Hr.out]; exact HB.out,fun q hq=>by rw [HJ.out q (by omega) hq]; simp⟩
     simp [procE,this])
    go_wp2_with fail
    go_ret
    exact ⟨by rw [HN.out]; rfl,HBL.out⟩
  ·have HN:=zh (show R = -1 by
    rw [<-HR.out]
    have:idxP ps s=none:=List.findIdx?_eq_none_iff.2 fun r hr=>by
     obtain ⟨q,hq,rfl⟩:=List.getElem_of_mem hr
     exact HJ.out q hq (by omega)
    simp [procE,this])
   have HBL:=zh hbl
   clear hbl
   go_wp2_with fail
   go_ret
   exact ⟨by rw [HN.out]; rfl,HBL.out⟩
theorem Proc_any (p:PG) (S:Nat->Prop) (v:Value) (s:ByteArray) (w:World) (hv:PV w S p v):Calls Tryz.prog 94 #[v,.string s] w fun e w'=>e=.returned (.int .i64 (procE p.prs s))/\Below w.heap.size w w':=by
 obtain ⟨A1,c1,A2,c2,A3,c3,rfl,hr⟩:=hv
 have HR:=zh hr
 obtain ⟨L1,hL1⟩:∃ L,p.vs.length=L:=⟨_,rfl⟩
 rw [hL1]
 clear hr hL1
 go_enter Tryz.func94,Tryz.ntmps94
 go_wp2_with fail
 refine (IndexFuncP_any p.prs A2 c2 s (w.heap.size+1) S _ (HR.out.procs.later (bl_al (bl_al (Below.refl _ _) _) _)) HR.out.lp (by simp)).mono ?_
 rintro e w1 ⟨rfl,bw1⟩
 have HB:=zh (bl_tt (bl_al (bl_al (Below.refl w.heap.size w) _) _) bw1)
 clear bw1
 go_wp2_with fail
 go_ret
 exact ⟨rfl,HB.out⟩
end Go.Proofs.YtckhofdinldhpaaGreat
namespace Go.Proofs.YtckhofdinldhpaaGreat
open Go Go.RowKit
theorem prcI_idx:∀ (prs:List PR) (s:ByteArray) (i:Nat),prcI prs s=some i->procE prs s=(i:Int)/\i<prs.length
 | [],_,_,h=>by simp [prcI] at h
 | q::qs,s,i,h=>by
  unfold prcI at h
  unfold procE idxP
  rw [List.findIdx?_cons]
  split at h
  ·rename_i h0
   injection h with h
   subst h
   rw [if_pos h0]
   exact ⟨rfl,by simp⟩
  ·rename_i h0
   rw [if_neg h0]
   obtain ⟨j,hj,rfl⟩:=Option.map_eq_some_iff.1 h
   have h5:=prcI_idx qs s j hj
   unfold procE idxP at h5
   cases hf:List.findIdx? (fun r=>r.s.toList==s.toList) qs with
   | none =>
    rw [hf] at h5
    have h6:(-1:Int)=(j:Int):=h5.1
    omega
   | some m =>
    rw [hf] at h5
    have h6:(m:Int)=(j:Int):=h5.1
    exact ⟨by show ((m+1:Nat):Int)=((j+1:Nat):Int); omega,by have:=h5.2; simp; omega⟩
def strA (l:List ByteArray):Array Value:=(l.map Value.string).toArray
theorem strInf:(Tryz.prog.info? 9).map (fun i=>(i.zero,i.size,i.bytes))=some (some (.string ⟨#[]⟩),1,16):=by kernel_rfl
theorem made_str (n:Nat):madeCells (Value.string ⟨#[]⟩).cells (n*1)=strA (List.replicate n ⟨#[]⟩):=by
 unfold strA
 apply Array.ext'
 apply List.ext_getElem
 ·rw [Array.length_toList,size_madeCells]; simp
 ·intro i h1 h2
  have e:i % 1=0:=by omega
  simp [madeCells,Value.cells,e]
theorem bMakeS (n:Nat) (hn:n<=17592186044416) (w:World):(Instr.makeSlice 232 (.int .i64 (n:Int)) (.int .i64 (n:Int))).run Tryz.prog w=.ok (.slice (some ⟨w.heap.size,0,none⟩) n n) (w.alloc (.cells (strA (List.replicate n ⟨#[]⟩)) 9)):=by
 have h:=strInf
 obtain ⟨i,hi,hz⟩:=Option.map_eq_some_iff.1 h
 injection hz with h1 h2
 injection h2 with h2 h3
 have:=run_make_rowN (P:=Tryz.prog) 232 9 i (.string ⟨#[]⟩) Tryz.underlying232 hi h1 .i64 .i64 n n (Nat.le_refl _) (by rw [h3]; omega) (by omega) w
 rw [h2,made_str] at this
 exact this
def argL (ks:List T) (j:Nat):List ByteArray:=(ks.take j).map (·.s)++List.replicate (ks.length-j) ⟨#[]⟩
theorem argL_0 (ks:List T):argL ks 0=List.replicate ks.length ⟨#[]⟩:=by simp [argL]
theorem argL_all (ks:List T):argL ks ks.length=ks.map (·.s):=by simp [argL]
theorem argL_len (ks:List T) {j:Nat} (hj:j<=ks.length):(argL ks j).length=ks.length:=by simp [argL]; omega
theorem argL_set (ks:List T) {j:Nat} (hj:j<ks.length):(strA (argL ks j)).setIfInBounds j (.string ks[j].s)=strA (argL ks (j+1)):=by
 unfold strA
 rw [List.setIfInBounds_toArray,<-List.map_set]
 congr 2
 unfold argL
 refine List.ext_getElem (by simp; omega) fun i h1 h2=>?_
 rw [List.getElem_set]
 simp only [List.length_append,List.length_map,List.length_take,List.length_replicate,List.length_set] at h1 h2
 by_cases e:j=i
 ·subst e
  rw [if_pos rfl,List.getElem_append_left (by simp; omega)]
  simp
 ·rw [if_neg e]
  by_cases hi:i<j
  ·rw [List.getElem_append_left (by simp; omega),List.getElem_append_left (by simp; omega)]
   simp
  ·rw [List.getElem_append_right (by simp; omega),List.getElem_append_right (by simp; omega)]
   simp
theorem strA_row {W:World} {b:Nat} {E:TypeId} {l:List ByteArray} (h:W.heap[b]?=some (.cells (strA l) E (0,0))):RowS W (some ⟨b,0,none⟩) l:=fun i hi=>by
 have ha:(⟨b,0,none⟩:Addr).add i=⟨b,i,none⟩:=by rw [Addr.add_lit,Nat.zero_add]
 refine ⟨⟨b,0,none⟩,rfl,?_⟩
 rw [ha]
 simp only [World.cell?,h]
 simp [strA,hi]
theorem RI.count {C:RC} (hC:C.Ok) {W:World} {r:RS} (h:RI C W r) {i:Nat} (hi:i<r.ent.length) (hn:r.ent.getD i 0+1<=r.n) :
  ∃ g c,C.ev=.slice (some ⟨g,0,none⟩) r.ent.length c/\W.cell? ⟨g,i,none⟩=some (.int .i64 (r.ent.getD i 0:Nat))/\W.frozen? ⟨g,i,none⟩=false /\
   RI C (W.setCell ⟨g,i,none⟩ (.int .i64 ((r.ent.getD i 0+1:Nat):Int))) { r with ent:=r.ent.set i (r.ent.getD i 0+1) }/\Kpt C.n0 C.kb W (W.setCell ⟨g,i,none⟩ (.int .i64 ((r.ent.getD i 0+1:Nat):Int))):=by
 obtain ⟨e1,h2⟩:=h.ent
 rcases h2 with h2|⟨g,cap,cur,hev,hb,hg,hcap,hlen,hsz,hcur⟩
 ·have hn0:r.ent.length=0:=h2.2
  omega
 ·have hcz:cur[i]?=some (.int .i64 (r.ent.getD i 0:Nat)):=by
   have h3:(flatI (r.ent.map Int.ofNat))[i]?=some (.int .i64 (r.ent.getD i 0:Nat)):=by simp [flatI,hi]
   rw [<-hcur,List.getElem?_take] at h3
   split at h3
   ·simpa using h3
   ·cases h3
  have hci:i<cur.size:=by
   rcases Nat.lt_or_ge i cur.size with h|h
   ·exact h
   ·rw [Array.getElem?_eq_none h] at hcz; cases hcz
  have hrb:g≠C.rb:=fun e=>hC.ev.1 (by rw [hev,<-e]; rfl)
  have hkb:¬ C.kb g:=hC.ev.2 g (by rw [hev]; rfl)
  have hch:Chg (fun b=>b=g) W (W.setCell ⟨g,i,none⟩ (.int .i64 ((r.ent.getD i 0+1:Nat):Int))):=(Chg.refl (fun b=>b=g) W).setCell (p:=⟨g,i,none⟩) (.inl rfl) _
  have hnn:=h.ks.hn
  refine ⟨g,cap,hev,zc hg hcz,zf hg,⟨h.ks.chg hch fun b _ e=>⟨by omega,.inr (.inr (.inr (by rw [hev,e]; rfl)))⟩,?_,?_,by simp [h.el],?_,h.n,h.fb⟩,Kpt.chg hch fun b e=>⟨by omega,by rw [e]; exact hkb⟩⟩
  ·rw [Below.heap_setCell _ _ _ _ (fun e=>hrb (by simpa using e.symm))]
   exact h.box
  ·have hs:=heap_setCell_same W g i _ _ (.int .i64 ((r.ent.getD i 0+1:Nat):Int)) hg
   refine ⟨by simp [flatI],.inr ⟨g,cap,_,by rw [hev]; simp,hb,hs,by simpa using hcap,by simpa using hlen,by simpa using hsz,?_⟩⟩
   have e2:((cur.setIfInBounds i (.int .i64 ((r.ent.getD i 0+1:Nat):Int))).toList.take ((r.ent.set i (r.ent.getD i 0+1)).length*1))=(cur.toList.take (r.ent.length*1)).set i (.int .i64 ((r.ent.getD i 0+1:Nat):Int)):=by
    rw [Array.toList_setIfInBounds,List.length_set,List.take_set]
   rw [e2,hcur]
   simp [flatI,List.map_set]
  ·intro c hc
   rcases List.mem_or_eq_of_mem_set hc with hc|rfl
   ·exact h.en c hc
   ·exact hn
end Go.Proofs.YtckhofdinldhpaaGreat
