
/-
  Texts of the proof, put together without their remarks: Ic, Iu, Iw, Ix, Iy, Il, Iv, Id, It, Ik, Im, Iz, Ia, Gf, Nz, Ib, Fw, Ig, Eqv.
-/
import Derived.Test.YthjinpodhacleaaGreatS6
import Derived.Tactics
import Derived.Tactics2
import Derived.Defers
set_option linter.unusedSimpArgs false
set_option linter.unusedVariables false
set_option maxHeartbeats 8000000
set_option maxRecDepth 100000
namespace Go.Proofs.YthjinpodhacleaaGreat
open Tryz
section
open Go Go.RowKit
abbrev yA := @heap_alloc_new
abbrev yC := @List.getElem?_eq_getElem
abbrev yE := @List.getElem_mem
abbrev yF := @IntWalk.i64_in
abbrev yH := @List.take_succ_eq_append_getElem
abbrev yI := @List.getD_eq_getElem?_getD
abbrev yK := @Nat.zero_le
abbrev yL := @heap_setCell_same
abbrev yP := @List.getElem?_append_right
abbrev yQ := @List.getElem?_eq_some_iff
abbrev yS := @World.size_alloc
abbrev yU := @List.length_append
abbrev yV := @List.length_cons
abbrev yW := @List.mem_append
abbrev yY := @List.mem_cons_self
abbrev yA1 := @List.mem_cons_of_mem
abbrev yB1 := @Nat.le_trans
abbrev yC1 := @List.getElem_append_left
abbrev yD1 := @List.mem_of_getElem?
abbrev yE1 := @List.mem_singleton
abbrev yF1 := @Decidable.not_not
abbrev yG1 := @Nat.add_eq_zero_iff
abbrev yI1 := @Option.bind_eq_some_iff
abbrev yJ1 := @List.getElem?_append_left
abbrev yK1 := @decide_eq_true_eq
abbrev yL1 := @decide_eq_true
abbrev yM1 := @decide_eq_false
abbrev yN1 := @List.getElem_of_mem
abbrev yP1 := @List.drop_eq_getElem_cons
abbrev yU1 := @Nat.lt_of_lt_of_le
abbrev yX1 := @List.map_congr_left
abbrev yB2 := @List.getElem_append_right
def brO(prs:List PR)(F:Int)(g:Nat)(back:Bool)(t:T)(r:RS):Out :=
 zk6 F (fstT back t) r fun yes r=>(zkt (zkn prs F g back) (blkL back (if yes=true then kid t 1 else kid t 2)) r).bind (zko F (lstT back t) yes)
theorem zuE{G:List PR->T->Prop}{g:Nat}(hS:IStC G g){C:RC}(hC:C.Ok){W:World}{r:RS}(h:RI C W r)(t:T)(v:Value)(back:Bool)(hv:NV C.w Any t v)(hk:t.ks.length=4)(hG1:∀u∈(kid t 1).ks,G C.p.prs u)(hG2:∀u∈(kid t 2).ks,G C.p.prs u)
  (aC:brO C.p.prs C.F g back t r ≠ .gas) :
  Calls prog 132 #[.pointer (some ⟨C.rb,0,none⟩),v,.bool back] W (RunP C W (brO C.p.prs C.F g back t r)):=by
 obtain⟨A,c,rfl,-,hlk,hlc,hrow⟩:=hv.open_;have ae:=zh hrow;have HS:=zh hS;have HV:=zh hv;have hb0:=zkb (zs W) (.cells #[zj t.k,zi t.n,.string t.s,.slice A t.ks.length c] 28);obtain⟨x0,x1,x2,x3⟩:=box4 (yA W (.cells #[zj t.k,zi t.n,.string t.s,.slice A t.ks.length c] 28));have HB0:=zh hb0;have H:=zh h;have HC:=zh hC;have HX:=zh (yA W (.cells #[zj t.k,zi t.n,.string t.s,.slice A t.ks.length c] 28));have nQ:=zh (fun w' (hb:zw W w')=>zqQ t _ back C.w w' (zka h.below hb) hv zO);have qw:=zh hk;clear hrow hS hb0 h hv hk hC hlk;go_enter func132,ntmps132;go_wp2_with fail;refine(nQ.out _ HB0.out).mono ?_;rintro e w2 ⟨v1,v2,rfl,n1,n2,b2⟩;obtain⟨t1,ht1⟩:=zX (fstT back t);obtain⟨t2,ht2⟩:=zX (lstT back t);have HT1:=zh ht1;have HT2:=zh ht2;rw[ht1]at n1;rw[ht2]at n2;obtain⟨A1,c1,rfl,-⟩:=n1.open_
 obtain⟨A2,c2,rfl,-⟩:=n2.open_;have eZ:=zh n1;have aF:=zh n2;have b3:=zkb (zkb (zka HB0.out b2) (.cells #[zj t1.k,zi t1.n,.string t1.s,.slice A1 t1.ks.length c1] 28)) (.cells #[zj t2.k,zi t2.n,.string t2.s,.slice A2 t2.ks.length c2] 28);have k0:=zkd (zkd (zkc HX.out b2) (.cells #[zj t1.k,zi t1.n,.string t1.s,.slice A1 t1.ks.length c1] 28)) (.cells #[zj t2.k,zi t2.n,.string t2.s,.slice A2 t2.ks.length c2] 28);have k1:=zkd (yA w2 (.cells #[zj t1.k,zi t1.n,.string t1.s,.slice A1 t1.ks.length c1] 28)) (.cells #[zj t2.k,zi t2.n,.string t2.s,.slice A2 t2.ks.length c2] 28);have k2:=yA (w2.alloc (.cells #[zj t1.k,zi t1.n,.string t1.s,.slice A1 t1.ks.length c1] 28)) (.cells #[zj t2.k,zi t2.n,.string t2.s,.slice A2 t2.ks.length c2] 28)
 simp only[yS]at k2;obtain⟨w3,hw3⟩:=zX ((w2.alloc (.cells #[zj t1.k,zi t1.n,.string t1.s,.slice A1 t1.ks.length c1] 28)).alloc (.cells #[zj t2.k,zi t2.n,.string t2.s,.slice A2 t2.ks.length c2] 28));rw[hw3]at b3 k0 k1 k2;have hz2:=zka HB0.out b2;have hzz:=hz2.size;obtain⟨cK,h3⟩:=H.out.plus HC.out b3;have bR:=zh (Kpt.of_below (n0:=C.n0) (kb:=C.kb) b3);have l0:=zke k0;have l1:=zke k1;have l2:=zke k2;obtain⟨hi,hhi⟩:=zX (w3.heap.size);rw[hhi]at cK h3 l0 l1 l2;have bB:=zh cK;have H3:=zh h3;have K0:=zh k0;have K1:=zh k1;have K2:=zh k2;have iN:=zh (zpg cK h3 t1 _ n1)
 obtain⟨p1,⟨y0,y1,y2,y3⟩⟩:True/\(w3.cell? ⟨w2.heap.size,0,none⟩=some (zj t1.k)/\w3.cell? ⟨w2.heap.size,1,none⟩=some (zi t1.n)/\w3.cell? ⟨w2.heap.size,2,none⟩=some (.string t1.s)/\w3.cell? ⟨w2.heap.size,3,none⟩=some (.slice A1 t1.ks.length c1)):=⟨trivial,zc k1 rfl,zc k1 rfl,zc k1 rfl,zc k1 rfl⟩
 clear n1 n2 b2 b3 k0 k1 k2 hz2 cK h3 x0 x1 x2 x3 HX HB0 nQ p1 ht1 ht2;go_upto_region 2 with fail;clear hw3;go_wp2_with fail;refine iN.out.mono ?_;rintro e w4 ⟨hk4,hb4,eH⟩;have gQ:=zh (bR.out.trans (Kpt.less (C:=C) hk4));have ax:=zh (show Below C.w.heap.size C.w w4 from hb4);clear y0 y1 y2 y3 iN;rcases eH with⟨x,rfl,hx⟩|⟨b,r1,rfl,hr1,hx⟩
 ·refine⟨rfl,gQ.out,ax.out,?_⟩;rw[show brO C.p.prs C.F g back t r=.err x by unfold brO;rw[HT1.out];exact hx _]
 ·have k0:=hk4.blk (.inr (.inr ⟨zO,l0⟩)) K0.out;have k2:=hk4.blk (.inr (.inr ⟨zO,l2⟩)) K2.out;have HR4:=zh hr1;have lD:=zh (show brO C.p.prs C.F g back t r=(runO C.p.prs C.F g back (if b=true then kid t 1 else kid t 2) r1).bind (zko C.F t2 b) by unfold brO;rw[HT1.out,HT2.out];exact hx _);have K4:=zh k0;have K5:=zh k2;have z3:w4.cell? ⟨W.heap.size,3,none⟩=some (.slice A t.ks.length c):=zc k0 rfl;have bg:=zh aC;clear hk4 hb4 hr1 hx k0 k2 aC
  cases b
  ·skip
   have hI:2<t.ks.length:=by have:=qw.out;omega
   have hI1:(2:Int)<(t.ks.length:Int):=zO
   obtain⟨a,u,Au,cu,rfl,-,hu,⟨p0,p1,p2,p3⟩,hnu⟩:=ae.out.nd hI;have gB:kid t 2=u:=by unfold kid;rw[yI,yC hI];exact hu.out
   have uT:=zh (show ∀x∈u.ks,G C.p.prs x by rw[<-gB];exact hG2);have gU:=zh (show brO C.p.prs C.F g back t r=(runO C.p.prs C.F g back u r1).bind (zko C.F t2 false) by rw[lD.out];simp only[Bool.false_eq_true,if_false,if_true,gB]);have hgu:runO C.p.prs C.F g back u r1 ≠ .gas:=fun e=>bg.out (by rw[gU.out,e];rfl);have av:=zh (zly HS.out bB.out HR4.out u _ back hnu uT.out hgu);have ha:a.add (2*4)=⟨a.block,a.off+8,none⟩:=by unfold Addr.add;split<;>simp_all
   rw[ha]at p0 p1 p2 p3;have q0:w4.cell? ⟨a.block,a.off+8,none⟩=some (zj u.k):=zb ax.out p0;have q1:w4.cell? ⟨a.block,a.off+8+1,none⟩=some (zi u.n):=zb ax.out p1;have q2:w4.cell? ⟨a.block,a.off+8+2,none⟩=some (.string u.s):=zb ax.out p2;have q3:w4.cell? ⟨a.block,a.off+8+3,none⟩=some (.slice Au u.ks.length cu):=zb ax.out p3;clear gB hnu hu p0 p1 p2 p3 hgu;go_wp2_with fail;refine av.out.mono ?_;rintro e w5 ⟨hk5,hb5,lJ⟩;have fJ:=zh (gQ.out.trans (Kpt.less (C:=C) hk5));have aS:=zh (show Below C.w.heap.size C.w w5 from hb5);have bX:match runO C.p.prs C.F g back u r1 with
    | .gas=>True
    | .err x=>e=zlW x
    | .ok r=>(∃u,e=.returned u)/\RI (C.plus W.heap.size hi) w5 r:=lJ
   have k5:=hk5.blk (.inr (.inr ⟨zO,l2⟩)) K5.out;have K6:=zh k5;clear q0 q1 q2 q3 z3 hk5 hb5 lJ k5
   cases hx:runO C.p.prs C.F g back u r1 with
   | gas=>exact absurd (by rw[gU.out,hx];rfl) bg.out
   | err x =>
    rw[hx]at bX;subst bX;refine⟨rfl,fJ.out,aS.out,?_⟩;rw[gU.out,hx];rfl
   | ok r2 =>
    rw[hx]at bX;obtain⟨⟨u2,rfl⟩,hr2⟩:=bX;have HAS:=zh (znn bB.out hr2 t2 _ aF.out false);have jN:=zh (show brO C.p.prs C.F g back t r=zko C.F t2 false r2 by rw[gU.out,hx];rfl);have q0:w5.cell? ⟨w2.heap.size+1,0,none⟩=some (zj t2.k):=zc K6.out rfl;have q1:w5.cell? ⟨w2.heap.size+1,1,none⟩=some (zi t2.n):=zc K6.out rfl;have q2:w5.cell? ⟨w2.heap.size+1,2,none⟩=some (.string t2.s):=zc K6.out rfl;have q3:w5.cell? ⟨w2.heap.size+1,3,none⟩=some (.slice A2 t2.ks.length c2):=zc K6.out rfl;clear hx hr2;go_wp2_with fail;refine HAS.out.mono ?_;rintro e w6 ⟨bI,hb6,iA⟩;have ek:=zh (fJ.out.trans (Kpt.less (C:=C) bI));have bq:=zh (show Below C.w.heap.size C.w w6 from hb6);have bW:match zko C.F t2 false r2 with
     | .gas=>True
     | .err x=>e=zlW x
     | .ok r=>(∃u,e=.returned u)/\RI (C.plus W.heap.size hi) w6 r:=iA
    clear q0 q1 q2 q3 bI hb6 iA
    cases hy:zko C.F t2 false r2 with
    | gas=>exact absurd (by rw[jN.out,hy]) bg.out
    | err x =>
     rw[hy]at bW;subst bW;refine⟨rfl,ek.out,bq.out,?_⟩;rw[jN.out,hy]
    | ok r3 =>
     rw[hy]at bW;obtain⟨⟨u3,rfl⟩,hr3⟩:=bW;have dW:=zh hr3.less;have vg:=zh (show brO C.p.prs C.F g back t r=.ok r3 by rw[jN.out,hy]);clear hr3 hy;go_wp2_with fail;go_end0;refine⟨ek.out,bq.out,?_⟩;rw[vg.out];exact⟨⟨_,rfl⟩,dW.out⟩
  ·skip
   have hI:1<t.ks.length:=by have:=qw.out;omega
   have hI1:(1:Int)<(t.ks.length:Int):=zO
   obtain⟨a,u,Au,cu,rfl,-,hu,⟨p0,p1,p2,p3⟩,hnu⟩:=ae.out.nd hI;have gB:kid t 1=u:=by unfold kid;rw[yI,yC hI];exact hu.out
   have uT:=zh (show ∀x∈u.ks,G C.p.prs x by rw[<-gB];exact hG1);have gU:=zh (show brO C.p.prs C.F g back t r=(runO C.p.prs C.F g back u r1).bind (zko C.F t2 true) by rw[lD.out];simp only[Bool.false_eq_true,if_false,if_true,gB]);have hgu:runO C.p.prs C.F g back u r1 ≠ .gas:=fun e=>bg.out (by rw[gU.out,e];rfl);have av:=zh (zly HS.out bB.out HR4.out u _ back hnu uT.out hgu);have ha:a.add (1*4)=⟨a.block,a.off+4,none⟩:=by unfold Addr.add;split<;>simp_all
   rw[ha]at p0 p1 p2 p3;have q0:w4.cell? ⟨a.block,a.off+4,none⟩=some (zj u.k):=zb ax.out p0;have q1:w4.cell? ⟨a.block,a.off+4+1,none⟩=some (zi u.n):=zb ax.out p1;have q2:w4.cell? ⟨a.block,a.off+4+2,none⟩=some (.string u.s):=zb ax.out p2;have q3:w4.cell? ⟨a.block,a.off+4+3,none⟩=some (.slice Au u.ks.length cu):=zb ax.out p3;clear gB hnu hu p0 p1 p2 p3 hgu;go_wp2_with fail;refine av.out.mono ?_;rintro e w5 ⟨hk5,hb5,lJ⟩;have fJ:=zh (gQ.out.trans (Kpt.less (C:=C) hk5));have aS:=zh (show Below C.w.heap.size C.w w5 from hb5);have bX:match runO C.p.prs C.F g back u r1 with
    | .gas=>True
    | .err x=>e=zlW x
    | .ok r=>(∃u,e=.returned u)/\RI (C.plus W.heap.size hi) w5 r:=lJ
   have k5:=hk5.blk (.inr (.inr ⟨zO,l2⟩)) K5.out;have K6:=zh k5;clear q0 q1 q2 q3 z3 hk5 hb5 lJ k5
   cases hx:runO C.p.prs C.F g back u r1 with
   | gas=>exact absurd (by rw[gU.out,hx];rfl) bg.out
   | err x =>
    rw[hx]at bX;subst bX;refine⟨rfl,fJ.out,aS.out,?_⟩;rw[gU.out,hx];rfl
   | ok r2 =>
    rw[hx]at bX;obtain⟨⟨u2,rfl⟩,hr2⟩:=bX;have HAS:=zh (znn bB.out hr2 t2 _ aF.out true);have jN:=zh (show brO C.p.prs C.F g back t r=zko C.F t2 true r2 by rw[gU.out,hx];rfl);have q0:w5.cell? ⟨w2.heap.size+1,0,none⟩=some (zj t2.k):=zc K6.out rfl;have q1:w5.cell? ⟨w2.heap.size+1,1,none⟩=some (zi t2.n):=zc K6.out rfl;have q2:w5.cell? ⟨w2.heap.size+1,2,none⟩=some (.string t2.s):=zc K6.out rfl;have q3:w5.cell? ⟨w2.heap.size+1,3,none⟩=some (.slice A2 t2.ks.length c2):=zc K6.out rfl;clear hx hr2;go_wp2_with fail;refine HAS.out.mono ?_;rintro e w6 ⟨bI,hb6,iA⟩;have ek:=zh (fJ.out.trans (Kpt.less (C:=C) bI));have bq:=zh (show Below C.w.heap.size C.w w6 from hb6);have bW:match zko C.F t2 true r2 with
     | .gas=>True
     | .err x=>e=zlW x
     | .ok r=>(∃u,e=.returned u)/\RI (C.plus W.heap.size hi) w6 r:=iA
    clear q0 q1 q2 q3 bI hb6 iA
    cases hy:zko C.F t2 true r2 with
    | gas=>exact absurd (by rw[jN.out,hy]) bg.out
    | err x =>
     rw[hy]at bW;subst bW;refine⟨rfl,ek.out,bq.out,?_⟩;rw[jN.out,hy]
    | ok r3 =>
     rw[hy]at bW;obtain⟨⟨u3,rfl⟩,hr3⟩:=bW;have dW:=zh hr3.less;have vg:=zh (show brO C.p.prs C.F g back t r=.ok r3 by rw[jN.out,hy]);clear hr3 hy;go_wp2_with fail;go_end0;refine⟨ek.out,bq.out,?_⟩;rw[vg.out];exact⟨⟨_,rfl⟩,dW.out⟩
def Up(n:Nat)(o:Out):Prop:=∀r,o=.ok r->n<=r.n
section
variable {m n:Nat} {o:Out} {F:Int} {t:T} {r:RS}
theorem Up.of(h:Good n o):Up n o:=h.2
theorem Up.mono(h:Up n o)(hm:m<=n):Up m o:=fun r e=>yB1 hm (h r e)
theorem Up.bind{f:RS->Out}(h:Up n o)(hf:∀r,n<=r.n->Up m (f r)):Up m (o.bind f):=by
 cases o with
 | gas=>intro r e;cases e
 | err x=>intro r e;cases e
 | ok r=>exact hf r (h r rfl)
theorem zse{f:Int->RS->Out}(hf:∀x,Up m (f x r)):Up m (valO t r f):=by
 unfold valO
 split
 ·intro r e;cases e
 ·exact hf _
theorem zph{f:Bool->RS->Out}(hf:∀b r',r.n+1<=r'.n->Up m (f b r')):Up m (zk6 F t r f):=by
 unfold zk6;exact(Up.of (zkx F r)).bind fun r' h=>zse fun x=>hf _ _ h
theorem znm{f:T->RS->Out}(hf:∀t r,Up r.n (f t r)):∀(l:List T) (r:RS),Up r.n (zkt f l r)
 | [],r=>fun r' e=>by injection e with e;subst e;exact zl
 | t::ts,r=>by
  rw[zkt];exact(hf t r).bind fun r1 h1=>(znm hf ts r1).mono h1
theorem ztv{f:T->RS->Out}(hf:∀t r,Up r.n (f t r)){entry test:T}{l1 l2:List T}:∀(m:Nat) (r:RS),Up r.n (zle F f entry test l1 l2 m r)
 | 0,_=>fun r' e=>by cases e
 | m+1,r=>by
  rw[zle];refine(znm hf l1 r).bind fun r1 h1=>zph fun b r2 h2=>?_
  split
  ·intro r' e;injection e with e;subst e;omega
  ·refine(znm hf l2 r2).bind fun r3 h3=>(Up.of (zlC F entry false r3)).bind fun r4 h4=>?_;exact(ztv hf m r4).mono zO
end
theorem zoH{prs:List PR}{F:Int}:∀(g:Nat) (back:Bool) (t:T) (r:RS),Up r.n (zkn prs F g back t r)
 | 0,_,_,_=>fun r' e=>by cases e
 | g+1,back,t,r=>by
  have hb:∀(back:Bool) l r1,Up r1.n (zkt (zkn prs F g back) l r1):=fun back l r1=>znm (fun u r2=>zoH g back u r2) l r1;rw[zkn]
  split
  ·exact zph fun b r1 h1=>(hb _ _ r1).bind fun r2 h2=>(Up.of (zlC _ _ _ _)).mono zO
  ·split
   ·refine(Up.of (zlC _ _ _ _)).bind fun r1 h1=>?_;exact(ztv (fun u r2=>zoH g back u r2) g r1).mono zO
   ·split
    ·refine(Up.of (zkx F r)).bind fun r1 h1=>zse fun x=>?_;refine(Up.of (zkM r1 _)).bind fun r2 h2=>(hb _ _ r2).bind fun r3 h3=>(Up.of (zkx F r3)).bind fun r4 h4=>zse fun x=>?_;exact(Up.of (zkM r4 _)).mono zO
    ·split
     ·refine(Up.of (zkx F r)).bind fun r1 h1=>?_;refine(Up.of (zkM r1 _)).bind fun r2 h2=>(hb _ _ r2).bind fun r3 h3=>(Up.of (zkx F r3)).bind fun r4 h4=>?_;exact(Up.of (zkM r4 _)).mono zO
     ·split
      ·split
       ·intro r' e;cases e
       ·refine(Up.of (zkx F r)).bind fun r1 h1=>?_;refine(Up.of (zkM r1 _)).bind fun r2 h2=>(hb _ _ _).bind fun r3 h3=>(Up.of (zkx F r3)).bind fun r4 h4=>?_;exact(Up.of (zkM r4 _)).mono (by simp only at h3;omega)
      ·refine(Up.of (zkx F r)).bind fun r1 h1=>?_;exact(Up.of (zkM r1 _)).mono zO
def lpO(prs:List PR)(F:Int)(g:Nat)(back:Bool)(t:T)(r:RS):Out :=
 (zko F (fstT back t) true r).bind (zle F (zkn prs F g back) (fstT back t) (lstT back t) (blkL back (kid t 1)) (blkL back (kid t 2)) g)
def stp(rb:Nat)(W:World):Nat:=match W.cell? ⟨rb,7,none⟩with
 | some (.int _ n)=>n.toNat
 | _=>0
theorem zzo{C:RC}{W:World}{r:RS}(h:RI C W r):stp C.rb W=r.n:=by
 unfold stp;rw[h.cells.2.1];simp
theorem zyd{G:List PR->T->Prop}{g:Nat}(hS:IStC G g){C:RC}(hC:C.Ok){W:World}{r:RS}(h:RI C W r)(t:T)(v:Value)(back:Bool)(hv:NV C.w Any t v)(hk:t.ks.length=4)(hG1:∀u∈(kid t 1).ks,G C.p.prs u)(hG2:∀u∈(kid t 2).ks,G C.p.prs u)
  (aC:lpO C.p.prs C.F g back t r ≠ .gas) :
  Calls prog 133 #[.pointer (some ⟨C.rb,0,none⟩),v,.bool back] W (RunP C W (lpO C.p.prs C.F g back t r)):=by
 obtain⟨A,c,rfl,-,hlk,hlc,hrow⟩:=hv.open_;have ae:=zh hrow;have HS:=zh hS;have HV:=zh hv;have hb0:=zkb (zs W) (.cells #[zj t.k,zi t.n,.string t.s,.slice A t.ks.length c] 28);obtain⟨x0,x1,x2,x3⟩:=box4 (yA W (.cells #[zj t.k,zi t.n,.string t.s,.slice A t.ks.length c] 28));have HB0:=zh hb0;have H:=zh h;have HC:=zh hC;have HX:=zh (yA W (.cells #[zj t.k,zi t.n,.string t.s,.slice A t.ks.length c] 28));have nQ:=zh (fun w' (hb:zw W w')=>zqQ t _ back C.w w' (zka h.below hb) hv zO);have qw:=zh hk;clear hrow hS hb0 h hv hk hC hlk;go_enter func133,ntmps133;go_wp2_with fail;refine(nQ.out _ HB0.out).mono ?_;rintro e w2 ⟨v1,v2,rfl,n1,n2,b2⟩;obtain⟨t1,ht1⟩:=zX (fstT back t);obtain⟨t2,ht2⟩:=zX (lstT back t);have HT1:=zh ht1;have HT2:=zh ht2;rw[ht1]at n1;rw[ht2]at n2;obtain⟨A1,c1,rfl,-⟩:=n1.open_
 obtain⟨A2,c2,rfl,-⟩:=n2.open_;have eZ:=zh n1;have aF:=zh n2;have b3:=zkb (zkb (zka HB0.out b2) (.cells #[zj t1.k,zi t1.n,.string t1.s,.slice A1 t1.ks.length c1] 28)) (.cells #[zj t2.k,zi t2.n,.string t2.s,.slice A2 t2.ks.length c2] 28);have k0:=zkd (zkd (zkc HX.out b2) (.cells #[zj t1.k,zi t1.n,.string t1.s,.slice A1 t1.ks.length c1] 28)) (.cells #[zj t2.k,zi t2.n,.string t2.s,.slice A2 t2.ks.length c2] 28);have k1:=zkd (yA w2 (.cells #[zj t1.k,zi t1.n,.string t1.s,.slice A1 t1.ks.length c1] 28)) (.cells #[zj t2.k,zi t2.n,.string t2.s,.slice A2 t2.ks.length c2] 28);have k2:=yA (w2.alloc (.cells #[zj t1.k,zi t1.n,.string t1.s,.slice A1 t1.ks.length c1] 28)) (.cells #[zj t2.k,zi t2.n,.string t2.s,.slice A2 t2.ks.length c2] 28)
 simp only[yS]at k2;obtain⟨w3,hw3⟩:=zX ((w2.alloc (.cells #[zj t1.k,zi t1.n,.string t1.s,.slice A1 t1.ks.length c1] 28)).alloc (.cells #[zj t2.k,zi t2.n,.string t2.s,.slice A2 t2.ks.length c2] 28));rw[hw3]at b3 k0 k1 k2;have hz2:=zka HB0.out b2;have hzz:=hz2.size;obtain⟨cK,h3⟩:=H.out.plus HC.out b3;have bR:=zh (Kpt.of_below (n0:=C.n0) (kb:=C.kb) b3);have l0:=zke k0;have l1:=zke k1;have l2:=zke k2;obtain⟨hi,hhi⟩:=zX (w3.heap.size);rw[hhi]at cK h3 l0 l1 l2;have bB:=zh cK;have H3:=zh h3;have K0:=zh k0;have K1:=zh k1;have K2:=zh k2;have iN:=zh (znn cK h3 t1 _ n1 true)
 obtain⟨p1,⟨y0,y1,y2,y3⟩⟩:True/\(w3.cell? ⟨w2.heap.size,0,none⟩=some (zj t1.k)/\w3.cell? ⟨w2.heap.size,1,none⟩=some (zi t1.n)/\w3.cell? ⟨w2.heap.size,2,none⟩=some (.string t1.s)/\w3.cell? ⟨w2.heap.size,3,none⟩=some (.slice A1 t1.ks.length c1)):=⟨trivial,zc k1 rfl,zc k1 rfl,zc k1 rfl,zc k1 rfl⟩
 clear n1 n2 b2 b3 k0 k1 k2 hz2 cK h3 x0 x1 x2 x3 HX HB0 nQ p1 ht1 ht2;go_upto_region 2 with fail;clear hw3;obtain⟨o,ho⟩:=zX (lpO C.p.prs C.F g back t r);have HO:=zh (show(zko C.F t1 true r).bind (zle C.F (zkn C.p.prs C.F g back) t1 t2 (blkL back (kid t 1)) (blkL back (kid t 2)) g)=o by rw[<-ho];unfold lpO;rw[HT1.out,HT2.out]);rw[ho]at aC ⊢;have bg:=zh aC;have bN:=zh ho;clear aC ho;go_wp2_with fail;refine iN.out.mono ?_;rintro e w4 ⟨hk4,hb4,eH⟩;have gQ:=zh (bR.out.trans (Kpt.less (C:=C) hk4));have ax:=zh (show Below C.w.heap.size C.w w4 from hb4);have bu:match zko C.F t1 true r with
  | .gas=>True
  | .err x=>e=zlW x
  | .ok r=>(∃u,e=.returned u)/\RI (C.plus W.heap.size hi) w4 r:=eH
 have dG:=zh hk4;clear y0 y1 y2 y3 iN hk4 hb4 eH
 cases hy:zko C.F t1 true r with
 | gas=>exact absurd (by rw[<-HO.out,hy];rfl) bg.out
 | err x =>
  rw[hy]at bu;subst bu;refine⟨rfl,gQ.out,ax.out,?_⟩;rw[<-HO.out,hy];rfl
 | ok r1 =>
  rw[hy]at bu;obtain⟨⟨u3,rfl⟩,hr1⟩:=bu;have HR4:=zh hr1;have iW:=zh (show zle C.F (zkn C.p.prs C.F g back) t1 t2 (blkL back (kid t 1)) (blkL back (kid t 2)) g r1=o by rw[<-HO.out,hy];rfl);clear hr1 hy;have hI1:(1:Int)<(t.ks.length:Int):=by have:=qw.out;omega
  have hI2:(2:Int)<(t.ks.length:Int):=by have:=qw.out;omega
  have hi1:1<t.ks.length:=zO
  have hi2:2<t.ks.length:=zO
  obtain⟨a,u,Au,cu,rfl,-,hu,⟨p0,p1,p2,p3⟩,hnu⟩:=ae.out.nd hi1;obtain⟨a',u',Au',cu',e',-,hu',⟨p4,p5,p6,p7⟩,hnu'⟩:=ae.out.nd hi2;injection e' with e';subst e';have gB:kid t 1=u:=by unfold kid;rw[yI,yC hi1];exact hu.out
  have sG:kid t 2=u':=by unfold kid;rw[yI,yC hi2];exact hu'.out
  rw[gB]at hG1;rw[sG]at hG2;rw[gB,sG]at iW;have uV:=zh hG1;have HG2:=zh hG2;have uF:=zh hnu;have HNU':=zh hnu';have ha:a.add (1*4)=⟨a.block,a.off+4,none⟩:=by unfold Addr.add;split<;>simp_all
  have ha':a.add (2*4)=⟨a.block,a.off+8,none⟩:=by unfold Addr.add;split<;>simp_all
  rw[ha]at p0 p1 p2 p3;rw[ha']at p4 p5 p6 p7;have HPP:=zh (show ∀w',Below C.w.heap.size C.w w'->(w'.cell? ⟨a.block,a.off+4,none⟩=some (zj u.k)/\w'.cell? ⟨a.block,a.off+4+1,none⟩=some (zi u.n)/\w'.cell? ⟨a.block,a.off+4+2,none⟩=some (.string u.s)/\w'.cell? ⟨a.block,a.off+4+3,none⟩=some (.slice Au u.ks.length cu))/\(w'.cell? ⟨a.block,a.off+8,none⟩=some (zj u'.k)/\w'.cell? ⟨a.block,a.off+8+1,none⟩=some (zi u'.n)/\w'.cell? ⟨a.block,a.off+8+2,none⟩=some (.string u'.s)/\w'.cell? ⟨a.block,a.off+8+3,none⟩=some (.slice Au' u'.ks.length cu'))from fun w' hb=>⟨⟨zb hb p0,zb hb p1,zb hb p2,zb hb p3⟩,⟨zb hb p4,zb hb p5,zb hb p6,zb hb p7⟩⟩);clear gB sG hnu hnu' hu hu' p0 p1 p2 p3 p4 p5 p6 p7 ha ha' hG1 hG2;have hz0:W.heap.size<hi:=l0;go_wp2_with fail
  go_loopw [] (fun wr=>∃(m:Nat) (r1:RS),Hid (RI (C.plus W.heap.size hi) wr r1)/\Hid (Kpt C.n0 (C.plus W.heap.size hi).kb w3 wr)/\Hid (zle C.F (zkn C.p.prs C.F g back) t1 t2 (blkL back u) (blkL back u') m r1=o)) (fun wr=>C.F.toNat-stp C.rb wr)
  case atStart=>exact⟨g,r1,HR4,dG,iW⟩
  case round =>
   obtain⟨m,r3,HR,HK,HL⟩:=hrel;have j0:=HK.out.blk (.inr (.inr ⟨zO,l0⟩)) K0.out;have j1:=HK.out.blk (.inr (.inr ⟨zO,l1⟩)) K1.out;have j2:=HK.out.blk (.inr (.inr ⟨zO,l2⟩)) K2.out;have z3:wr.cell? ⟨W.heap.size,3,none⟩=some (.slice (some a) t.ks.length c):=zc j0 rfl
   cases m with
   | zero=>exact absurd HL.out.symm bg.out
   | succ m =>
    have HL2:=zh (show(runO C.p.prs C.F g back u r3).bind (fun r=>zk6 C.F t2 r fun b r=>if b=true then .ok r else(runO C.p.prs C.F g back u' r).bind fun r=>(zko C.F t1 false r).bind (zle C.F (zkn C.p.prs C.F g back) t1 t2 (blkL back u) (blkL back u') m))=o from HL.out);have hgu:runO C.p.prs C.F g back u r3 ≠ .gas:=fun e=>bg.out (by rw[<-HL2.out,e];rfl);have av:=zh (zly HS.out bB.out HR.out u _ back uF.out uV.out hgu);obtain⟨⟨q0,q1,q2,q3⟩,-⟩:=HPP.out wr HR.out.below;clear hgu j0 j1 j2;go_wp2_with fail;refine av.out.mono ?_;rintro e w5 ⟨hk5,hb5,lJ⟩;have fJ:=zh (HK.out.trans hk5);have aS:=zh (show Below C.w.heap.size C.w w5 from hb5);have bX:match runO C.p.prs C.F g back u r3 with
     | .gas=>True
     | .err x=>e=zlW x
     | .ok r=>(∃u,e=.returned u)/\RI (C.plus W.heap.size hi) w5 r:=lJ
    clear q0 q1 q2 q3 z3 hk5 hb5 lJ av
    cases hx:runO C.p.prs C.F g back u r3 with
    | gas=>exact absurd (by rw[<-HL2.out,hx];rfl) bg.out
    | err x =>
     rw[hx]at bX;subst bX;refine⟨rfl,bR.out.trans (Kpt.less (C:=C) fJ.out),aS.out,?_⟩
     try rw[bN.out]
     rw[<-HL2.out,hx];rfl
    | ok r4 =>
     rw[hx]at bX;obtain⟨⟨u2,rfl⟩,hr4⟩:=bX;have vS:=zh (znm (fun t r=>zoH g back t r) (blkL back u) r3 r4 hx);have xI:=zh (show(zk6 C.F t2 r4 fun b r=>if b=true then .ok r else(runO C.p.prs C.F g back u' r).bind fun r=>(zko C.F t1 false r).bind (zle C.F (zkn C.p.prs C.F g back) t1 t2 (blkL back u) (blkL back u') m))=o by rw[<-HL2.out,hx];rfl);have HHO2:=zh (zpg bB.out hr4 t2 _ aF.out);have j2:=fJ.out.blk (.inr (.inr ⟨zO,l2⟩)) K2.out;have q0:w5.cell? ⟨w2.heap.size+1,0,none⟩=some (zj t2.k):=zc j2 rfl;have q1:w5.cell? ⟨w2.heap.size+1,1,none⟩=some (zi t2.n):=zc j2 rfl;have q2:w5.cell? ⟨w2.heap.size+1,2,none⟩=some (.string t2.s):=zc j2 rfl;have q3:w5.cell? ⟨w2.heap.size+1,3,none⟩=some (.slice A2 t2.ks.length c2):=zc j2 rfl;clear hx hr4 j2;go_wp2_with fail;refine HHO2.out.mono ?_;rintro e w6 ⟨bI,hb6,iA⟩;have ek:=zh (fJ.out.trans bI)
     have bq:=zh (show Below C.w.heap.size C.w w6 from hb6);clear q0 q1 q2 q3 bI hb6 HHO2;rcases iA with⟨x,rfl,hx⟩|⟨b,r5,rfl,kD,hx⟩
     ·refine⟨rfl,bR.out.trans (Kpt.less (C:=C) ek.out),bq.out,?_⟩
      try rw[bN.out]
      rw[<-xI.out,show ∀f,zk6 C.F t2 r4 f=.err x from hx]
     ·have dW:=zh kD;have HL4:=zh (show(if b=true then .ok r5 else(runO C.p.prs C.F g back u' r5).bind fun r=>(zko C.F t1 false r).bind (zle C.F (zkn C.p.prs C.F g back) t1 t2 (blkL back u) (blkL back u') m))=o by rw[<-xI.out,show ∀f,zk6 C.F t2 r4 f=f b r5 from hx]);have HUP2:=zh (zph (t:=t2) (F:=C.F) (r:=r4) (m:=r4.n+1) (f:=fun _ r=>.ok r) (fun b r' h r'' e=>by injection e with e;subst e;exact h) r5 (hx _));clear hx kD
      cases b
      ·have vZ:=zh (show(runO C.p.prs C.F g back u' r5).bind (fun r=>(zko C.F t1 false r).bind (zle C.F (zkn C.p.prs C.F g back) t1 t2 (blkL back u) (blkL back u') m))=o from HL4.out);have hgu:runO C.p.prs C.F g back u' r5 ≠ .gas:=fun e=>bg.out (by rw[<-vZ.out,e];rfl);have av:=zh (zly HS.out bB.out dW.out u' _ back HNU'.out HG2.out hgu);have j0:=ek.out.blk (.inr (.inr ⟨zO,l0⟩)) K0.out;have z3:w6.cell? ⟨W.heap.size,3,none⟩=some (.slice (some a) t.ks.length c):=zc j0 rfl;obtain⟨-,q0,q1,q2,q3⟩:=HPP.out w6 bq.out;clear hgu j0;go_wp2_with fail;refine av.out.mono ?_;rintro e w7 ⟨mF,gG,ho7⟩;have xJ:=zh (ek.out.trans mF);have kv:=zh (show Below C.w.heap.size C.w w7 from gG);have o9:match runO C.p.prs C.F g back u' r5 with
        | .gas=>True
        | .err x=>e=zlW x
        | .ok r=>(∃u,e=.returned u)/\RI (C.plus W.heap.size hi) w7 r:=ho7
       clear q0 q1 q2 q3 z3 mF gG ho7 av
       cases hx:runO C.p.prs C.F g back u' r5 with
       | gas=>exact absurd (by rw[<-vZ.out,hx];rfl) bg.out
       | err x =>
        rw[hx]at o9;subst o9;refine⟨rfl,bR.out.trans (Kpt.less (C:=C) xJ.out),kv.out,?_⟩
        try rw[bN.out]
        rw[<-vZ.out,hx];rfl
       | ok r6 =>
        rw[hx]at o9;obtain⟨⟨u2,rfl⟩,cB⟩:=o9;have HUP3:=zh (znm (fun t r=>zoH g back t r) (blkL back u') r5 r6 hx);have BP:=zh (show(zko C.F t1 false r6).bind (zle C.F (zkn C.p.prs C.F g back) t1 t2 (blkL back u) (blkL back u') m)=o by rw[<-vZ.out,hx];rfl);have HAS:=zh (znn bB.out cB t1 _ eZ.out false);have j1:=xJ.out.blk (.inr (.inr ⟨zO,l1⟩)) K1.out;have q0:w7.cell? ⟨w2.heap.size,0,none⟩=some (zj t1.k):=zc j1 rfl;have q1:w7.cell? ⟨w2.heap.size,1,none⟩=some (zi t1.n):=zc j1 rfl;have q2:w7.cell? ⟨w2.heap.size,2,none⟩=some (.string t1.s):=zc j1 rfl;have q3:w7.cell? ⟨w2.heap.size,3,none⟩=some (.slice A1 t1.ks.length c1):=zc j1 rfl;clear hx cB j1;go_wp2_with fail;refine HAS.out.mono ?_;rintro e w8 ⟨lK,dX,qI⟩;have wh:=zh (xJ.out.trans lK);have iQ:=zh (show Below C.w.heap.size C.w w8 from dX)
        have bV:match zko C.F t1 false r6 with
         | .gas=>True
         | .err x=>e=zlW x
         | .ok r=>(∃u,e=.returned u)/\RI (C.plus W.heap.size hi) w8 r:=qI
        clear q0 q1 q2 q3 lK dX qI HAS
        cases hy:zko C.F t1 false r6 with
        | gas=>exact absurd (by rw[<-BP.out,hy];rfl) bg.out
        | err x =>
         rw[hy]at bV;subst bV;refine⟨rfl,bR.out.trans (Kpt.less (C:=C) wh.out),iQ.out,?_⟩
         try rw[bN.out]
         rw[<-BP.out,hy];rfl
        | ok r7 =>
         rw[hy]at bV;obtain⟨⟨u3,rfl⟩,eG⟩:=bV;have jZ:=zh eG;have HL7:=zh (show zle C.F (zkn C.p.prs C.F g back) t1 t2 (blkL back u) (blkL back u') m r7=o by rw[<-BP.out,hy];rfl);have hmm:C.F.toNat-stp C.rb w8<C.F.toNat-stp C.rb wr:=by
          have e1:stp C.rb w8=r7.n:=zzo (C:=C.plus W.heap.size hi) jZ.out;have e2:stp C.rb wr=r3.n:=zzo (C:=C.plus W.heap.size hi) HR.out;obtain⟨e3,e4⟩:=zok hy;have e5:=vS.out;have e6:=HUP2.out;have e7:=HUP3.out;have e8:r7.n=r6.n+1:=by rw[e3]
          omega
         have qZ:=zh hmm;clear eG hy hmm;go_wp2_with fail
         go_roundw
         case rel=>exact⟨m,r7,jZ,wh,HL7⟩
         case measure=>exact qZ.out
      ·have vZ:=zh (show o=.ok r5 from HL4.out.symm);have oC:=zh dW.out.less;go_wp2_with fail;go_end0;refine⟨bR.out.trans (Kpt.less (C:=C) ek.out),bq.out,?_⟩
       try rw[bN.out]
       rw[vZ.out];exact⟨⟨_,rfl⟩,oC.out⟩
section
variable {C:RC} {W W':World} {r:RS} {S':ST}
theorem RI.store(h:RI C W r)(hk:KS C.w C.n0 C.sb (fun b=>C.kb b\/b=C.rb\/C.ev.ownBlock=some b) W' S')(hp:Kpt C.n0 (fun b=>C.kb b\/b=C.rb\/C.ev.ownBlock=some b) W W')(hf:FB r.n S') :
  RI C W' { r with S:=S' }/\Kpt C.n0 C.kb W W' :=
 ⟨⟨hk,hp.blk (.inr (.inr (.inl rfl))) h.box,zo7 h.ent fun b hb=>hp.kept b (h.ent.lt b hb).2 (.inr (.inr (.inr hb))),h.el,h.en,h.n,hf⟩,⟨hp.size,fun b hb hk=>hp.kept b hb (hk.imp id .inl)⟩⟩
end
theorem FB.fr{j:Nat}{S S':ST}(h:FB j S)(hf:FrK S S'):FB (j+1) S':=by
 obtain⟨h1,h2,_⟩:=hf;unfold FB;rw[h1,h2];exact h.mono (Nat.le_succ _)
theorem FB.cur{j:Nat}{S:ST}(h:FB j S):S.cur.vs.length<=1000+j:=by
 rcases Nat.eq_zero_or_pos S.calls.length with h0|h0
 ·rw[zmg h0];have:=h.1;omega
 ·rw[zmA h0];exact h.2 _ (yE _)
theorem FB.setCur{j:Nat}{S:ST}(h:FB j S)(f:FR)(hf:f.vs.length<=S.cur.vs.length+1):FB (j+1) (S.setCur f):=by
 unfold ST.setCur;by_cases h0:S.calls.length=0
 ·rw[if_pos h0];rw[zmg h0]at hf;exact⟨by have:=h.1;show f.vs.length<=_;omega,(h.mono (Nat.le_succ _)).2⟩
 ·rw[if_neg h0];refine⟨(h.mono (Nat.le_succ _)).1,fun g hg=>?_⟩;rw[zmA zO]at hf;rcases List.mem_or_eq_of_mem_set hg with hg|rfl
  ·exact(h.mono (Nat.le_succ _)).2 g hg
  ·have:=h.2 _ (yE (l:=S.calls) (n:=S.calls.length-1) zO);omega
theorem FB.open_{j:Nat}{S:ST}(h:FB j S)(v:VD)(x:Int):FB (j+1) (zkA S v x).2:=by
 unfold zkA
 repeat' split
 all_goals first|exact h.mono (Nat.le_succ _)|exact FB.setCur (S:=S.newCell _) h _ (by rw[znw];simp[FR.push])
theorem FB.close_{j:Nat}{S:ST}(h:FB j S)(s:ByteArray)(x:Int):FB (j+1) (zkv S s x).2:=by
 unfold zkv
 repeat' split
 all_goals first|exact h.mono (Nat.le_succ _)|skip
 all_goals exact h.setCur _ (by simp[FR.pop];omega)
theorem FB.enter{j:Nat}{S:ST}(h:FB j S)(ps:List VD)(ss:List ByteArray)(hp:ps.length<=1000):FB (j+1) (zk7 S ps ss).2:=by
 unfold zk7
 split
 ·exact h.mono (Nat.le_succ _)
 ·rcases he:entL S.cur ⟨[],[],0⟩ (ps.zip ss)with e|f
  ·exact h.mono (Nat.le_succ _)
  ·unfold entR;dsimp only
   split
   ·exact h.mono (Nat.le_succ _)
   ·refine⟨(h.mono (Nat.le_succ _)).1,fun g hg=>?_⟩;rcases yW.1 hg with hg|hg
    ·exact(h.mono (Nat.le_succ _)).2 g hg
    ·simp at hg;subst hg;have:=ztM _ _ _ he;simp at this;omega
theorem FB.leave{j:Nat}{S:ST}(h:FB j S):FB (j+1) (zld S).2:=by
 unfold zld
 split
 ·exact h.mono (Nat.le_succ _)
 ·exact⟨(h.mono (Nat.le_succ _)).1,fun g hg=>(h.mono (Nat.le_succ _)).2 g (List.mem_of_mem_take hg)⟩
theorem FB.do_{j:Nat}{S:ST}(h:FB j S)(t:T):FB (j+1) (doE S t).2:=h.fr (zwz _ _)
theorem FB.undo{j:Nat}{S:ST}(h:FB j S)(t:T):FB (j+1) (zlD S t).2:=h.fr (zxE _ _)
theorem zlo{P:Program}{ops:Array Oper}{o:Oper}{a:Act}{w:World}{K:Act->World->Prop}{Q:Exit->Act->World->Prop}{F:Prop}(hw:Region.wanted o (yielded ops a.tmps)=true)(x:Operand)(xs:List Operand)(ats:Array TypeId)
  (ho:o.op=.call { callee:=.value x,args:=xs.toArray,argTypes:=ats })(f:FuncId)(fn:Func)(hf:IsFn P f fn)(hv:a.eval x=.func (.func f) #[] #[])(l:List Value)(hargs:xs.map a.eval=l)(R:Value->World->Prop)
  (hc:Calls P f l.toArray w fun e w'=>(∃v,e=.returned v/\R v w')\/∃ch,e=.panicked ch/\Q (.panic ch) a w')(h:∀v w',R v w'->K (a.put o.dst v) w') :
  if Region.wanted o (yielded ops a.tmps)=true then Oper.wp P o a w K Q else F:=by
 rw[if_pos hw];subst hargs;have e:(execOp a.eval o).run P w=.ok (.enter f (xs.map a.eval).toArray) w:=by
  unfold execOp;simp only[ho,resolve,hv,Deferred.ofValue,Sem.run_bind,Sem.run_pure,Result.andThen_ok,invoke,zkJ hf,Array.empty_append,List.map_toArray,Array.append_empty]
 unfold Oper.wp;rw[e,Oper.upon_enter];refine hc.mono ?_;rintro e w' (⟨v,rfl,hR⟩|⟨ch,rfl,hq⟩)
 ·exact h v w' hR
 ·exact hq
theorem zv8:IsFn prog 154 f154:=⟨func154,zK,zK⟩
theorem zmK:IsFn prog 136 f136:=⟨func136,zK,zK⟩
theorem zwd:IsFn prog 137 f137:=⟨func137,zK,zK⟩
theorem ztE:IsFn prog 138 f138:=⟨func138,zK,zK⟩
def loR(prs:List PR)(F:Int)(g:Nat)(back:Bool)(t t2:T)(r:RS):Out :=
 (zkt (zkn prs F g back) (blkL back (kid t 1)) r).bind fun r=>(zkw F r).bind fun r=>valO t2 r fun x r=>zkh r (zkv r.S t.s x)
def loO(prs:List PR)(F:Int)(g:Nat)(back:Bool)(t:T)(r:RS):Out :=
 (zkw F r).bind fun r=>valO (fstT back t) r fun x r=>(zkh r (zkA r.S ⟨t.s,1,0⟩ x)).bind (loR prs F g back t (lstT back t))
theorem zvN{G:List PR->T->Prop}{g:Nat}(hS:IStC G g){C:RC}(hC:C.Ok){W:World}{r:RS}(h:RI C W r)(t:T)(v:Value)(back:Bool)(hv:NV C.w Any t v)(hk:t.ks.length=3)(hG1:∀u∈(kid t 1).ks,G C.p.prs u)
  (aC:loO C.p.prs C.F g back t r ≠ .gas) :
  Calls prog 134 #[.pointer (some ⟨C.rb,0,none⟩),v,.bool back] W (RunP C W (loO C.p.prs C.F g back t r)):=by
 obtain⟨A,c,rfl,-,hlk,hlc,hrow⟩:=hv.open_;have ae:=zh hrow;have HS:=zh hS;have HV:=zh hv;have hb0:=zkb (zs W) (.cells #[zj t.k,zi t.n,.string t.s,.slice A t.ks.length c] 28);obtain⟨x0,x1,x2,x3⟩:=box4 (yA W (.cells #[zj t.k,zi t.n,.string t.s,.slice A t.ks.length c] 28));have HB0:=zh hb0;have H:=zh h;have HC:=zh hC;have HX:=zh (yA W (.cells #[zj t.k,zi t.n,.string t.s,.slice A t.ks.length c] 28));have nQ:=zh (fun w' (hb:zw W w')=>zqQ t _ back C.w w' (zka h.below hb) hv zO);have qw:=zh hk;clear hrow hS hb0 h hv hk hC hlk;go_enter func134,ntmps134;go_wp2_with fail;refine(nQ.out _ HB0.out).mono ?_;rintro e w2 ⟨v1,v2,rfl,n1,n2,b2⟩;obtain⟨t1,ht1⟩:=zX (fstT back t);obtain⟨t2,ht2⟩:=zX (lstT back t);have HT1:=zh ht1;have HT2:=zh ht2;rw[ht1]at n1;rw[ht2]at n2;obtain⟨A1,c1,rfl,-⟩:=n1.open_
 obtain⟨A2,c2,rfl,-⟩:=n2.open_;have eZ:=zh n1;have aF:=zh n2;have b3:=zkb (zkb (zka HB0.out b2) (.cells #[zj t1.k,zi t1.n,.string t1.s,.slice A1 t1.ks.length c1] 28)) (.cells #[zj t2.k,zi t2.n,.string t2.s,.slice A2 t2.ks.length c2] 28);have k0:=zkd (zkd (zkc HX.out b2) (.cells #[zj t1.k,zi t1.n,.string t1.s,.slice A1 t1.ks.length c1] 28)) (.cells #[zj t2.k,zi t2.n,.string t2.s,.slice A2 t2.ks.length c2] 28);have k1:=zkd (yA w2 (.cells #[zj t1.k,zi t1.n,.string t1.s,.slice A1 t1.ks.length c1] 28)) (.cells #[zj t2.k,zi t2.n,.string t2.s,.slice A2 t2.ks.length c2] 28);have k2:=yA (w2.alloc (.cells #[zj t1.k,zi t1.n,.string t1.s,.slice A1 t1.ks.length c1] 28)) (.cells #[zj t2.k,zi t2.n,.string t2.s,.slice A2 t2.ks.length c2] 28)
 simp only[yS]at k2;obtain⟨w3,hw3⟩:=zX ((w2.alloc (.cells #[zj t1.k,zi t1.n,.string t1.s,.slice A1 t1.ks.length c1] 28)).alloc (.cells #[zj t2.k,zi t2.n,.string t2.s,.slice A2 t2.ks.length c2] 28));rw[hw3]at b3 k0 k1 k2;have hz2:=zka HB0.out b2;have hzz:=hz2.size;obtain⟨cK,h3⟩:=H.out.plus HC.out b3;have bR:=zh (Kpt.of_below (n0:=C.n0) (kb:=C.kb) b3);have l0:=zke k0;have l1:=zke k1;have l2:=zke k2;obtain⟨hi,hhi⟩:=zX (w3.heap.size);rw[hhi]at cK h3 l0 l1 l2;have bB:=zh cK;have H3:=zh h3;have K0:=zh k0;have K1:=zh k1;have K2:=zh k2;have iN:=zh (zmj cK h3)
 obtain⟨p1,⟨y0,y1,y2,y3⟩⟩:True/\(w3.cell? ⟨w2.heap.size,0,none⟩=some (zj t1.k)/\w3.cell? ⟨w2.heap.size,1,none⟩=some (zi t1.n)/\w3.cell? ⟨w2.heap.size,2,none⟩=some (.string t1.s)/\w3.cell? ⟨w2.heap.size,3,none⟩=some (.slice A1 t1.ks.length c1)):=⟨trivial,zc k1 rfl,zc k1 rfl,zc k1 rfl,zc k1 rfl⟩
 clear n1 n2 b2 b3 k0 k1 k2 hz2 cK h3 x0 x1 x2 x3 HX HB0 nQ p1 ht1 ht2;go_upto_region 2 with fail;clear hw3;obtain⟨o,ho⟩:=zX (loO C.p.prs C.F g back t r);have HO:=zh (show(zkw C.F r).bind (fun r=>valO t1 r fun x r=>(zkh r (zkA r.S ⟨t.s,1,0⟩ x)).bind (loR C.p.prs C.F g back t t2))=o by rw[<-ho];unfold loO loR;rw[HT1.out,HT2.out]);rw[ho]at aC ⊢;have bg:=zh aC;have bN:=zh ho;clear aC ho;go_wp2_with fail;refine iN.out.mono ?_;rintro e w4 ⟨hk4,hb4,eH⟩;have gQ:=zh (bR.out.trans (Kpt.less (C:=C) hk4));have ax:=zh (show Below C.w.heap.size C.w w4 from hb4);have bu:match zkw C.F r with
  | .gas=>True
  | .err x=>e=zlW x
  | .ok r=>(∃u,e=.returned u)/\RI (C.plus W.heap.size hi) w4 r:=eH
 have dG:=zh hk4;clear y0 y1 y2 y3 iN hk4 hb4 eH
 cases hy:zkw C.F r with
 | gas=>exact absurd (by rw[<-HO.out,hy];rfl) bg.out
 | err x =>
  rw[hy]at bu;subst bu;refine⟨rfl,gQ.out,ax.out,?_⟩;rw[<-HO.out,hy];rfl
 | ok r1 =>
  rw[hy]at bu;obtain⟨⟨u3,rfl⟩,hr1⟩:=bu;have HR4:=zh hr1;have iW:=zh (show(valO t1 r1 fun x r=>(zkh r (zkA r.S ⟨t.s,1,0⟩ x)).bind (loR C.p.prs C.F g back t t2))=o by rw[<-HO.out,hy];rfl);have iP:=zh (show FB r.n r1.S/\r1.n=r.n+1 by obtain⟨rfl,-⟩:=zkB hy;exact⟨H.out.fb,rfl⟩);have j0:=dG.out.blk (.inr (.inr ⟨zO,l0⟩)) K0.out;have j1:=dG.out.blk (.inr (.inr ⟨zO,l1⟩)) K1.out;have dZ:=zh (fun w' (hb:zw w4 w')=>zq5 (hr1.later hb) t1 _ eZ.out);have aA:=zh (show ∀w',zw w4 w'->(fun w':World=>zv w' C.rb 6 (.pointer (some ⟨C.sb,0,none⟩))/\zv w' W.heap.size 2 (.string t.s)/\zN4 w' w2.heap.size (zj t1.k) (zi t1.n) (.string t1.s) (.slice A1 t1.ks.length c1)) w' from fun w' hb=>⟨zb hb hr1.cells.1,zb hb (zc j0 rfl),zb hb (zc j1 rfl),zb hb (zc j1 rfl),zb hb (zc j1 rfl),zb hb (zc j1 rfl)⟩);have gZ:=zh (aA.out _ zr.drew)
  clear hr1 hy j0 j1;go_upto_region 3 with fail;have hSS:zW (fun w':World=>zv w' C.rb 6 (.pointer (some ⟨C.sb,0,none⟩))/\zv w' W.heap.size 2 (.string t.s)/\zN4 w' w2.heap.size (zj t1.k) (zi t1.n) (.string t1.s) (.slice A1 t1.ks.length c1)) zU w4.drew:=⟨gZ.out,trivial⟩
  refine zG hSS 12 ?_;refine zT 0 hSS ?_;refine zT 1 hSS ?_;refine zT 2 hSS ?_;refine zT 3 hSS ?_;refine zT 4 hSS ?_;refine zT 5 hSS ?_;refine zT 6 hSS ?_;refine zT 7 hSS ?_;refine zT 8 hSS ?_;refine zT 9 hSS ?_;have had:Calls prog 154 [.pointer (some ⟨C.rb,0,none⟩),nv t1.k t1.n t1.s A1 t1.ks.length c1].toArray w4.drew (ValP (C.plus W.heap.size hi) w4.drew t1 r1):=dZ.out _ zr.drew;refine zo 10 fun K hK=>?_;refine zlo zR (.func 154) [.tmp 24,.tmp 25] _ zR 154 _ zv8 zR _ zR (fun v w'=>zw w4 w'/\∃x,v=zi x/\I64 x/\∀f,valO t1 r1 f=f x r1) (had.mono ?_) ?_
  ·rintro e y1 ⟨bF,hv1⟩;have b1:=zka (zs w4).drew bF;rcases hv1 with⟨x,rfl,hx⟩|⟨x,rfl,oP,hx⟩
   ·refine .inr ⟨_,rfl,?_⟩;refine⟨rfl,gQ.out.trans (Kpt.of_below b1),zka ax.out b1,?_⟩
    try rw[bN.out]
    rw[<-iW.out,hx]
   ·exact .inl ⟨_,rfl,b1,x,rfl,oP,hx⟩
  rintro v5 w5 ⟨b5,x,rfl,hx,wI⟩;have aS:=zh b5;have tZ:=zh hx;have iJ:=zh (show(zkh r1 (zkA r1.S ⟨t.s,1,0⟩ x)).bind (loR C.p.prs C.F g back t t2)=o by rw[<-iW.out,wI]);refine hK.out _ _ ⟨aA.out _ b5,trivial⟩ ?_;clear hK K had b5 hx wI hSS dZ;(try simp only[zQ]);obtain⟨R,hR⟩:=zX (zkA r1.S ⟨t.s,1,0⟩ x);have HRR:=zh hR;have bY:=iP.out.1.cur;have iB:=H.out.n;have had:Calls prog 137 [.pointer (some ⟨C.sb,0,none⟩),.agg #[.string t.s,zj 1,zi 0],zi x].toArray w5 fun e w'=>∃v,e=.returned v/\(v=zi R.1/\RI (C.plus W.heap.size hi) w' { r1 with S:=R.2 }/\Kpt C.n0 (C.plus W.heap.size hi).kb w5 w') :=
   ((HR4.out.later aS.out).ks.open_ ⟨t.s,1,0⟩ (by obtain⟨_,_,_,hf,-⟩:=HV.out.open_;exact⟨hf.2.2,⟨by simp only;omega,by simp only;omega⟩,⟨by simp only;omega,by simp only;omega⟩⟩) x tZ.out zO).mono fun e w' ⟨h1,h2,h3⟩=>⟨_,h1,by rw[hR],(RI.store (C:=C.plus W.heap.size hi) (HR4.out.later aS.out) (hR▸h2) h3 (by rw[iP.out.2,<-hR];exact iP.out.1.open_ _ _))⟩
  refine zo 11 fun K hK=>?_;refine zlw zR (.func 137) [.tmp 20,.tmp 23,.tmp 26] _ zR 137 _ zwd zR _ zR _ had ?_;rintro v6 w6 ⟨rfl,cB,bI⟩;have fw:=zh (dG.out.trans ((Kpt.of_below aS.out).trans bI));have j0:=fw.out.blk (.inr (.inr ⟨zO,l0⟩)) K0.out;have j1:=fw.out.blk (.inr (.inr ⟨zO,l1⟩)) K1.out;have dW:=zh cB;have ak:(fun w':World=>zv w' C.rb 6 (.pointer (some ⟨C.sb,0,none⟩))/\zv w' W.heap.size 2 (.string t.s)/\zN4 w' w2.heap.size (zj t1.k) (zi t1.n) (.string t1.s) (.slice A1 t1.ks.length c1)) w6:=⟨cB.cells.1,zc j0 rfl,zc j1 rfl,zc j1 rfl,zc j1 rfl,zc j1 rfl⟩
  refine hK.out _ _ ⟨ak,trivial⟩ ?_;have nD:=zh ak;have bq:=zh cB.below;clear hK K had cB bI j0 j1 ak gZ aA;(try simp only[zQ]);have ek:=zh (bR.out.trans (Kpt.less (C:=C) fw.out));rw[hR]at iJ;have had:=zlr ⟨C.rb,0,none⟩ R.1 w6;refine zp 12 fun K hK=>?_;refine zlo zR (.func 136) [.tmp 16,.tmp 27] _ zR 136 _ zmK zR _ zR (fun v w'=>w'=w6/\R.1=0) (had.mono ?_) ?_
  ·rintro e y1 ⟨rfl,hv1⟩;rcases hv1 with⟨h0,u0,rfl⟩|⟨h0,rfl⟩
   ·exact .inl ⟨_,rfl,rfl,h0⟩
   ·refine .inr ⟨_,rfl,?_⟩;refine⟨rfl,ek.out,bq.out,?_⟩
    try rw[bN.out]
    rw[<-iJ.out,show zkh r1 R=.err R.1 by unfold zkh;rw[if_pos h0]];rfl
  rintro v7 w7 ⟨rfl,h0⟩;have qo:=zh (show loR C.p.prs C.F g back t t2 { r1 with S:=R.2 }=o by rw[<-iJ.out,show zkh r1 R=.ok { r1 with S:=R.2 } by unfold zkh;rw[if_neg (by simpa using h0)]];rfl);refine hK.out _ _ nD.out ?_;clear hK K had h0;(try simp only[zQ]);refine zd ?_;obtain⟨r2,hr2⟩:=zX (({ r1 with S:=R.2 }:RS));rw[hr2]at dW qo;have hI:1<t.ks.length:=by have:=qw.out;omega
  have hI1:(1:Int)<(t.ks.length:Int):=zO
  obtain⟨a,u,Au,cu,rfl,-,hu,⟨p0,p1,p2,p3⟩,hnu⟩:=ae.out.nd hI;have gB:kid t 1=u:=by unfold kid;rw[yI,yC hI];exact hu.out
  have uT:=zh (show ∀x∈u.ks,G C.p.prs x by rw[<-gB];exact hG1);have kZ:=zh (show(runO C.p.prs C.F g back u r2).bind (fun r=>(zkw C.F r).bind fun r=>valO t2 r fun x r=>zkh r (zkv r.S t.s x))=o by rw[<-qo.out,<-gB];rfl);have hgu:runO C.p.prs C.F g back u r2 ≠ .gas:=fun e=>bg.out (by rw[<-kZ.out,e];rfl);have av:=zh (zly HS.out bB.out dW.out u _ back hnu uT.out hgu);have ha:a.add (1*4)=⟨a.block,a.off+4,none⟩:=by unfold Addr.add;split<;>simp_all
  rw[ha]at p0 p1 p2 p3;have q0:=zb bq.out p0;have q1:=zb bq.out p1;have q2:=zb bq.out p2;have q3:=zb bq.out p3;have j0:=fw.out.blk (.inr (.inr ⟨zO,l0⟩)) K0.out;have q4:=zc (i:=3) j0 rfl;clear gB hnu hu p0 p1 p2 p3 hgu ha j0 bY iB;go_wp2_with fail;refine av.out.mono ?_;rintro e w8 ⟨lK,dX,qI⟩;have nN:=zh (fw.out.trans lK);have wh:=zh (bR.out.trans (Kpt.less (C:=C) nN.out));have iQ:=zh (show Below C.w.heap.size C.w w8 from dX);have bV:match runO C.p.prs C.F g back u r2 with
   | .gas=>True
   | .err x=>e=zlW x
   | .ok r=>(∃u,e=.returned u)/\RI (C.plus W.heap.size hi) w8 r:=qI
  clear q0 q1 q2 q3 q4 lK dX qI av
  cases hx:runO C.p.prs C.F g back u r2 with
  | gas=>exact absurd (by rw[<-kZ.out,hx];rfl) bg.out
  | err x =>
   rw[hx]at bV;subst bV;refine⟨rfl,wh.out,iQ.out,?_⟩
   try rw[bN.out]
   rw[<-kZ.out,hx];rfl
  | ok r3 =>
   rw[hx]at bV;obtain⟨⟨u9,rfl⟩,hr3⟩:=bV;have HST:=zh (zmj bB.out hr3);have j3:=zh (show((zkw C.F r3).bind fun r=>valO t2 r fun x r=>zkh r (zkv r.S t.s x))=o by rw[<-kZ.out,hx];rfl);have oC:=zh hr3;clear hx hr3;go_wp2_with fail;refine HST.out.mono ?_;rintro e w9 ⟨aD,aQ,dD⟩;have iM:=zh (nN.out.trans aD);have jG:=zh (bR.out.trans (Kpt.less (C:=C) iM.out));have bE:=zh (show Below C.w.heap.size C.w w9 from aQ);have gq:match zkw C.F r3 with
    | .gas=>True
    | .err x=>e=zlW x
    | .ok r=>(∃u,e=.returned u)/\RI (C.plus W.heap.size hi) w9 r:=dD
   clear aD aQ dD HST
   cases hy:zkw C.F r3 with
   | gas=>exact absurd (by rw[<-j3.out,hy];rfl) bg.out
   | err x =>
    rw[hy]at gq;subst gq;refine⟨rfl,jG.out,bE.out,?_⟩
    try rw[bN.out]
    rw[<-j3.out,hy];rfl
   | ok r4 =>
    rw[hy]at gq;obtain⟨⟨u9,rfl⟩,hr4⟩:=gq;have oz:=zh hr4;have fI:=zh (show(valO t2 r4 fun x r=>zkh r (zkv r.S t.s x))=o by rw[<-j3.out,hy];rfl);have iO:=zh (show FB r3.n r4.S/\r4.n=r3.n+1 by obtain⟨rfl,-⟩:=zkB hy;exact⟨oC.out.fb,rfl⟩);have j0:=iM.out.blk (.inr (.inr ⟨zO,l0⟩)) K0.out;have j2:=iM.out.blk (.inr (.inr ⟨zO,l2⟩)) K2.out;have dZ:=zh (fun w' (hb:zw w9 w')=>zq5 (hr4.later hb) t2 _ aF.out);have aA:=zh (show ∀w',zw w9 w'->(fun w':World=>zv w' C.rb 6 (.pointer (some ⟨C.sb,0,none⟩))/\zv w' W.heap.size 2 (.string t.s)/\zN4 w' (w2.heap.size+1) (zj t2.k) (zi t2.n) (.string t2.s) (.slice A2 t2.ks.length c2)) w' from fun w' hb=>⟨zb hb hr4.cells.1,zb hb (zc j0 rfl),zb hb (zc j2 rfl),zb hb (zc j2 rfl),zb hb (zc j2 rfl),zb hb (zc j2 rfl)⟩);clear hr4 hy j0 j2;go_upto_region 6 with fail
    have hSS:zW (fun w':World=>zv w' C.rb 6 (.pointer (some ⟨C.sb,0,none⟩))/\zv w' W.heap.size 2 (.string t.s)/\zN4 w' (w2.heap.size+1) (zj t2.k) (zi t2.n) (.string t2.s) (.slice A2 t2.ks.length c2)) zU w9.drew:=⟨aA.out _ zr.drew,trivial⟩
    refine zG hSS 11 ?_;refine zT 0 hSS ?_;refine zT 1 hSS ?_;refine zT 2 hSS ?_;refine zT 3 hSS ?_;refine zT 4 hSS ?_;refine zT 5 hSS ?_;refine zT 6 hSS ?_;refine zT 7 hSS ?_;refine zT 8 hSS ?_;have had:Calls prog 154 [.pointer (some ⟨C.rb,0,none⟩),nv t2.k t2.n t2.s A2 t2.ks.length c2].toArray w9.drew (ValP (C.plus W.heap.size hi) w9.drew t2 r4):=dZ.out _ zr.drew;refine zo 9 fun K hK=>?_;refine zlo zR (.func 154) [.tmp 45,.tmp 46] _ zR 154 _ zv8 zR _ zR (fun v w'=>zw w9 w'/\∃x,v=zi x/\I64 x/\∀f,valO t2 r4 f=f x r4) (had.mono ?_) ?_
    ·rintro e y1 ⟨bF,hv1⟩;have b1:=zka (zs w9).drew bF;rcases hv1 with⟨x,rfl,hx⟩|⟨x,rfl,oP,hx⟩
     ·refine .inr ⟨_,rfl,?_⟩;refine⟨rfl,jG.out.trans (Kpt.of_below b1),zka bE.out b1,?_⟩
      try rw[bN.out]
      rw[<-fI.out,hx]
     ·exact .inl ⟨_,rfl,b1,x,rfl,oP,hx⟩
    rintro v10 aZ ⟨b10,z,rfl,hx,wI⟩;have nW:=zh b10;obtain⟨Rc,lT⟩:=zX (zkv r4.S t.s z);have iK:=zh (show zkh r4 Rc=o by rw[<-fI.out,wI,lT]);refine hK.out _ _ ⟨aA.out _ b10,trivial⟩ ?_;clear hK K had b10 hx wI hSS dZ;(try simp only[zQ]);have had:Calls prog 138 [.pointer (some ⟨C.sb,0,none⟩),.string t.s,zi z].toArray aZ fun e w'=>∃v,e=.returned v/\(v=zi Rc.1/\RI (C.plus W.heap.size hi) w' { r4 with S:=Rc.2 }/\Kpt C.n0 (C.plus W.heap.size hi).kb aZ w') :=
     ((oz.out.later nW.out).ks.close t.s z).mono fun e w' ⟨h1,h2,h3⟩=>⟨_,h1,by rw[lT],(RI.store (C:=C.plus W.heap.size hi) (oz.out.later nW.out) (lT▸h2) h3 (by rw[iO.out.2,<-lT];exact iO.out.1.close_ _ _))⟩
    refine zo 10 fun K hK=>?_;refine zlw zR (.func 138) [.tmp 42,.tmp 44,.tmp 47] _ zR 138 _ ztE zR _ zR _ had ?_;rintro v11 aV ⟨rfl,fU,iC⟩;have fK:=zh (iM.out.trans ((Kpt.of_below nW.out).trans iC));have j0:=fK.out.blk (.inr (.inr ⟨zO,l0⟩)) K0.out;have j2:=fK.out.blk (.inr (.inr ⟨zO,l2⟩)) K2.out;have kY:=zh fU;have ak:(fun w':World=>zv w' C.rb 6 (.pointer (some ⟨C.sb,0,none⟩))/\zv w' W.heap.size 2 (.string t.s)/\zN4 w' (w2.heap.size+1) (zj t2.k) (zi t2.n) (.string t2.s) (.slice A2 t2.ks.length c2)) aV:=⟨fU.cells.1,zc j0 rfl,zc j2 rfl,zc j2 rfl,zc j2 rfl,zc j2 rfl⟩
    refine hK.out _ _ ⟨ak,trivial⟩ ?_;have nD:=zh ak;have jO:=zh fU.below;clear hK K had fU iC j0 j2 ak aA;(try simp only[zQ]);have jI:=zh (bR.out.trans (Kpt.less (C:=C) fK.out));have had:=zlr ⟨C.rb,0,none⟩ Rc.1 aV;refine zp 11 fun K hK=>?_;refine zlo zR (.func 136) [.tmp 38,.tmp 48] _ zR 136 _ zmK zR _ zR (fun v w'=>w'=aV/\Rc.1=0) (had.mono ?_) ?_
    ·rintro e y1 ⟨rfl,hv1⟩;rcases hv1 with⟨h0,u0,rfl⟩|⟨h0,rfl⟩
     ·exact .inl ⟨_,rfl,rfl,h0⟩
     ·refine .inr ⟨_,rfl,?_⟩;refine⟨rfl,jI.out,jO.out,?_⟩
      try rw[bN.out]
      rw[<-iK.out,show zkh r4 Rc=.err Rc.1 by unfold zkh;rw[if_pos h0]]
    rintro v12 fE ⟨rfl,h0⟩;have gM:=zh (show o=.ok { r4 with S:=Rc.2 } by rw[<-iK.out];unfold zkh;rw[if_neg (by simpa using h0)]);refine hK.out _ _ nD.out ?_;clear hK K had h0;(try simp only[zQ]);refine zd ?_;have nI:=zh kY.out.less;go_wp2_with fail;go_end0;refine⟨jI.out,jO.out,?_⟩
    try rw[bN.out]
    rw[gM.out];exact⟨⟨_,rfl⟩,nI.out⟩
theorem zz1{G:List PR->T->Prop}{g:Nat}(hS:IStC G g){C:RC}(hC:C.Ok){W:World}{r:RS}(h:RI C W r)(t:T)(v:Value)(back:Bool)(hv:NV C.w Any t v)(hk0:t.k=52)(hk:t.ks.length=4)(hG1:∀u∈(kid t 1).ks,G C.p.prs u)(hG2:∀u∈(kid t 2).ks,G C.p.prs u)
  (o:Out)(ho:brO C.p.prs C.F g back t r=o)(hog:o ≠ .gas) :
  Calls prog 108 #[.pointer (some ⟨C.rb,0,none⟩),v,.bool back] W (RunP C W o):=by
 have aC:=hog;obtain⟨k,n,s,ks⟩:=t;obtain rfl:k=52:=hk0;obtain⟨A,c,rfl,-,hlk,hlc,-⟩:=hv.open_;have hb0:=zkb (zs W) (.cells #[zj 52,zi n,.string s,.slice A ks.length c] 28);obtain⟨x0,x1,x2,x3⟩:=box4 (yA W (.cells #[zj 52,zi n,.string s,.slice A ks.length c] 28));have aG:=zh (Kpt.of_below (n0:=C.n0) (kb:=C.kb) hb0);have aI:=zh (show Calls prog 132 #[.pointer (some ⟨C.rb,0,none⟩),.agg #[zj 52,zi n,.string s,.slice A ks.length c],.bool back] (W.alloc (.cells #[zj 52,zi n,.string s,.slice A ks.length c] 28)) (RunP C _ o)from(ho▸(zuE hS hC (h.later hb0) _ _ back hv hk hG1 hG2 (ho▸hog))));clear hv hb0 h aC hG1 ho hk;go_enter func108,ntmps108;go_wp2_with fail;refine aI.out.mono ?_;rintro e w1 ⟨hk1,hb1,ho1⟩
 cases o with
 | gas=>exact absurd rfl hog
 | err x =>
  subst ho1;exact⟨rfl,aG.out.trans hk1,hb1,rfl⟩
 | ok r1 =>
  obtain⟨⟨u,rfl⟩,hr1⟩:=ho1;have HR:=zh hr1;have az:=zh (aG.out.trans hk1);have HB1:=zh hb1;clear x0 x1 x2 x3 hr1 hk1 hb1;go_wp2_with fail;go_end0;exact⟨az.out,HB1.out,⟨_,rfl⟩,HR.out⟩
theorem zva{G:List PR->T->Prop}{g:Nat}(hS:IStC G g){C:RC}(hC:C.Ok){W:World}{r:RS}(h:RI C W r)(t:T)(v:Value)(back:Bool)(hv:NV C.w Any t v)(hk0:t.k=53)(hk:t.ks.length=4)(hG1:∀u∈(kid t 1).ks,G C.p.prs u)(hG2:∀u∈(kid t 2).ks,G C.p.prs u)
  (o:Out)(ho:lpO C.p.prs C.F g back t r=o)(hog:o ≠ .gas) :
  Calls prog 108 #[.pointer (some ⟨C.rb,0,none⟩),v,.bool back] W (RunP C W o):=by
 have aC:=hog;obtain⟨k,n,s,ks⟩:=t;obtain rfl:k=53:=hk0;obtain⟨A,c,rfl,-,hlk,hlc,-⟩:=hv.open_;have hb0:=zkb (zs W) (.cells #[zj 53,zi n,.string s,.slice A ks.length c] 28);obtain⟨x0,x1,x2,x3⟩:=box4 (yA W (.cells #[zj 53,zi n,.string s,.slice A ks.length c] 28));have aG:=zh (Kpt.of_below (n0:=C.n0) (kb:=C.kb) hb0);have aI:=zh (show Calls prog 133 #[.pointer (some ⟨C.rb,0,none⟩),.agg #[zj 53,zi n,.string s,.slice A ks.length c],.bool back] (W.alloc (.cells #[zj 53,zi n,.string s,.slice A ks.length c] 28)) (RunP C _ o)from(ho▸(zyd hS hC (h.later hb0) _ _ back hv hk hG1 hG2 (ho▸hog))));clear hv hb0 h aC hG1 ho hk;go_enter func108,ntmps108;go_wp2_with fail;refine aI.out.mono ?_;rintro e w1 ⟨hk1,hb1,ho1⟩
 cases o with
 | gas=>exact absurd rfl hog
 | err x =>
  subst ho1;exact⟨rfl,aG.out.trans hk1,hb1,rfl⟩
 | ok r1 =>
  obtain⟨⟨u,rfl⟩,hr1⟩:=ho1;have HR:=zh hr1;have az:=zh (aG.out.trans hk1);have HB1:=zh hb1;clear x0 x1 x2 x3 hr1 hk1 hb1;go_wp2_with fail;go_end0;exact⟨az.out,HB1.out,⟨_,rfl⟩,HR.out⟩
theorem zt7{G:List PR->T->Prop}{g:Nat}(hS:IStC G g){C:RC}(hC:C.Ok){W:World}{r:RS}(h:RI C W r)(t:T)(v:Value)(back:Bool)(hv:NV C.w Any t v)(hk0:t.k=54)(hk:t.ks.length=3)(hG1:∀u∈(kid t 1).ks,G C.p.prs u)
  (o:Out)(ho:loO C.p.prs C.F g back t r=o)(hog:o ≠ .gas) :
  Calls prog 108 #[.pointer (some ⟨C.rb,0,none⟩),v,.bool back] W (RunP C W o):=by
 have aC:=hog;obtain⟨k,n,s,ks⟩:=t;obtain rfl:k=54:=hk0;obtain⟨A,c,rfl,-,hlk,hlc,-⟩:=hv.open_;have hb0:=zkb (zs W) (.cells #[zj 54,zi n,.string s,.slice A ks.length c] 28);obtain⟨x0,x1,x2,x3⟩:=box4 (yA W (.cells #[zj 54,zi n,.string s,.slice A ks.length c] 28));have aG:=zh (Kpt.of_below (n0:=C.n0) (kb:=C.kb) hb0);have aI:=zh (show Calls prog 134 #[.pointer (some ⟨C.rb,0,none⟩),.agg #[zj 54,zi n,.string s,.slice A ks.length c],.bool back] (W.alloc (.cells #[zj 54,zi n,.string s,.slice A ks.length c] 28)) (RunP C _ o)from(ho▸(zvN hS hC (h.later hb0) _ _ back hv hk hG1 (ho▸hog))));clear hv hb0 h aC hG1 ho hk;go_enter func108,ntmps108;go_wp2_with fail;refine aI.out.mono ?_;rintro e w1 ⟨hk1,hb1,ho1⟩
 cases o with
 | gas=>exact absurd rfl hog
 | err x =>
  subst ho1;exact⟨rfl,aG.out.trans hk1,hb1,rfl⟩
 | ok r1 =>
  obtain⟨⟨u,rfl⟩,hr1⟩:=ho1;have HR:=zh hr1;have az:=zh (aG.out.trans hk1);have HB1:=zh hb1;clear x0 x1 x2 x3 hr1 hk1 hb1;go_wp2_with fail;go_end0;exact⟨az.out,HB1.out,⟨_,rfl⟩,HR.out⟩
theorem zMs:IsFn prog 141 f141:=⟨func141,zK,zK⟩
theorem zKu:IsFn prog 140 f140:=⟨func140,zK,zK⟩
def basO(F:Int)(back:Bool)(t:T)(r:RS):Out:=(zkw F r).bind fun r=>zkh r (if back=true then zlD r.S t else doE r.S t)
theorem zxJ{C:RC}(hC:C.Ok){W:World}{r:RS}(h:RI C W r)(t:T)(v:Value)(back:Bool)(hv:NV C.w Any t v)(hk:t.k≠52/\t.k≠53/\t.k≠54/\t.k≠55/\t.k≠50/\t.k≠51) :
  Calls prog 108 #[.pointer (some ⟨C.rb,0,none⟩),v,.bool back] W (RunP C W (basO C.F back t r)):=by
 have HV:=zh hv;have H:=zh h;obtain⟨A,c,rfl,-,hlk,hlc,-⟩:=hv.open_;have e0:(t.k==52)=false:=by simpa using hk.1
 have e1:(t.k==53)=false:=by simpa using hk.2.1
 have e2:(t.k==54)=false:=by simpa using hk.2.2.1
 have e3:(t.k==55)=false:=by simpa using hk.2.2.2.1
 have e4:(t.k==50)=false:=by simpa using hk.2.2.2.2.1
 have e5:(t.k==51)=false:=by simpa using hk.2.2.2.2.2
 have hb0:=zkb (zs W) (.cells #[zj t.k,zi t.n,.string t.s,.slice A t.ks.length c] 28);obtain⟨bz,h1⟩:=h.plus hC hb0;have k0:=yA W (.cells #[zj t.k,zi t.n,.string t.s,.slice A t.ks.length c] 28);obtain⟨x0,x1,x2,x3⟩:=box4 k0;have bR:=zh (Kpt.of_below (n0:=C.n0) (kb:=C.kb) hb0);obtain⟨w3,hw3⟩:=zX (W.alloc (.cells #[zj t.k,zi t.n,.string t.s,.slice A t.ks.length c] 28));rw[hw3]at bz h1 k0 x0 x1 x2 x3 bR;have l0:=zke k0;have K0:=zh k0;obtain⟨hi,hhi⟩:=zX (w3.heap.size);rw[hhi]at bz h1 l0;have iN:=zh (zmj bz h1);obtain⟨o,ho⟩:=zX (basO C.F back t r);have bN:=zh ho;have HO:=zh (show(zkw C.F r).bind (fun r=>zkh r (if back=true then zlD r.S t else doE r.S t))=o from ho);rw[ho];clear hv hb0 bz h1 k0 h hk ho;go_enter func108,ntmps108;go_wp2_with fail;refine iN.out.mono ?_;rintro e w4 ⟨hk4,hb4,eH⟩
 have gQ:=zh (bR.out.trans (Kpt.less (C:=C) hk4));have ax:=zh (show Below C.w.heap.size C.w w4 from hb4);have bu:match zkw C.F r with
  | .gas=>True
  | .err x=>e=zlW x
  | .ok r=>(∃u,e=.returned u)/\RI (C.plus W.heap.size hi) w4 r:=eH
 have dG:=zh hk4;clear x0 x1 x2 x3 iN hk4 hb4 eH hw3
 cases hy:zkw C.F r with
 | gas=>exact absurd hy (zkx _ _).1
 | err x =>
  rw[hy]at bu;subst bu;refine⟨rfl,gQ.out,ax.out,?_⟩
  try rw[bN.out]
  rw[<-HO.out,hy];rfl
 | ok r1 =>
  rw[hy]at bu;obtain⟨⟨u3,rfl⟩,hr1⟩:=bu;have HR4:=zh hr1;have iW:=zh (show zkh r1 (if back=true then zlD r1.S t else doE r1.S t)=o by rw[<-HO.out,hy];rfl);have iP:=zh (show FB r.n r1.S/\r1.n=r.n+1 by obtain⟨rfl,-⟩:=zkB hy;exact⟨H.out.fb,rfl⟩);have j0:=dG.out.blk (.inr (.inr ⟨zl,l0⟩)) K0.out;have hSS:zW (fun w':World=>zv w' C.rb 6 (.pointer (some ⟨C.sb,0,none⟩))/\zN4 w' W.heap.size (zj t.k) (zi t.n) (.string t.s) (.slice A t.ks.length c)) zU w4.drew:=⟨⟨hr1.cells.1,zc j0 rfl,zc j0 rfl,zc j0 rfl,zc j0 rfl⟩,trivial⟩
  clear hr1 hy j0
  cases back
  ·skip
   go_upto_region 5 with fail;refine zG hSS 7 ?_;refine zT 0 hSS ?_;refine zT 1 hSS ?_;refine zT 2 hSS ?_;refine zT 3 hSS ?_;refine zT 4 hSS ?_;refine zT 5 hSS ?_;obtain⟨R,hR⟩:=zX (doE r1.S t);have iJ:=zh (show zkh r1 R=o by rw[<-hR];exact iW.out);have hbd:zw w4 w4.drew:=zr.drew;have had:Calls prog 141 [.pointer (some ⟨C.sb,0,none⟩),.agg #[zj t.k,zi t.n,.string t.s,.slice A t.ks.length c]].toArray w4.drew fun e w'=>∃v,e=.returned v/\(v=zi R.1/\RI (C.plus W.heap.size hi) w' { r1 with S:=R.2 }/\Kpt C.n0 (C.plus W.heap.size hi).kb w4 w') :=
    ((HR4.out.later hbd).ks.do_ t _ (HV.out.later (zka ax.out hbd))).mono fun e w' ⟨h1,h2,h3⟩=>by
     have hs:=RI.store (C:=C.plus W.heap.size hi) (HR4.out.later hbd) h2 h3 (by rw[iP.out.2];exact iP.out.1.do_ _);rw[hR]at h1 hs;exact⟨_,h1,rfl,hs.1,(Kpt.of_below hbd).trans hs.2⟩
   refine zo 6 fun K hK=>?_;refine zlw zR (.func 141) [.tmp 23,.tmp 24] _ zR 141 _ zMs zR _ zR _ had ?_;rintro v6 w6 ⟨rfl,cB,bI⟩;have ek:=zh (gQ.out.trans (Kpt.less (C:=C) bI));have j0:=(dG.out.trans bI).blk (.inr (.inr ⟨zl,l0⟩)) K0.out;have ak:(fun w':World=>zv w' C.rb 6 (.pointer (some ⟨C.sb,0,none⟩))/\zN4 w' W.heap.size (zj t.k) (zi t.n) (.string t.s) (.slice A t.ks.length c)) w6:=⟨cB.cells.1,zc j0 rfl,zc j0 rfl,zc j0 rfl,zc j0 rfl⟩
   have dW:=zh cB.less;have bq:=zh cB.below;refine hK.out _ _ ⟨ak,trivial⟩ ?_;have nD:=zh ak;clear hK K had cB bI j0 ak hSS;(try simp only[zQ]);have had:=zlr ⟨C.rb,0,none⟩ R.1 w6;refine zp 7 fun K hK=>?_;refine zlo zR (.func 136) [.tmp 19,.tmp 25] _ zR 136 _ zmK zR _ zR (fun v w'=>w'=w6/\R.1=0) (had.mono ?_) ?_
   ·rintro e y1 ⟨rfl,hv1⟩;rcases hv1 with⟨h0,u0,rfl⟩|⟨h0,rfl⟩
    ·exact .inl ⟨_,rfl,rfl,h0⟩
    ·refine .inr ⟨_,rfl,?_⟩;refine⟨rfl,ek.out,bq.out,?_⟩
     try rw[bN.out]
     rw[<-iJ.out,show zkh r1 R=.err R.1 by unfold zkh;rw[if_pos h0]]
   rintro v12 fE ⟨rfl,h0⟩;have gM:=zh (show o=.ok { r1 with S:=R.2 } by rw[<-iJ.out];unfold zkh;rw[if_neg (by simpa using h0)]);refine hK.out _ _ nD.out ?_;clear hK K had h0;(try simp only[zQ]);refine zd ?_;go_wp2_with fail;go_end0;refine⟨ek.out,bq.out,?_⟩
   try rw[bN.out]
   rw[gM.out];exact⟨⟨_,rfl⟩,dW.out⟩
  ·skip
   go_upto_region 4 with fail;refine zkl (fun w':World=>zv w' C.rb 6 (.pointer (some ⟨C.sb,0,none⟩))/\zN4 w' W.heap.size (zj t.k) (zi t.n) (.string t.s) (.slice A t.ks.length c)) zU 7 zK ?_;refine zT 0 hSS ?_;refine zT 1 hSS ?_;refine zT 2 hSS ?_;refine zT 3 hSS ?_;refine zT 4 hSS ?_;refine zT 5 hSS ?_;obtain⟨R,hR⟩:=zX (zlD r1.S t);have iJ:=zh (show zkh r1 R=o by rw[<-hR];exact iW.out);have hbd:zw w4 w4.drew:=zr.drew;have had:Calls prog 140 [.pointer (some ⟨C.sb,0,none⟩),.agg #[zj t.k,zi t.n,.string t.s,.slice A t.ks.length c]].toArray w4.drew fun e w'=>∃v,e=.returned v/\(v=zi R.1/\RI (C.plus W.heap.size hi) w' { r1 with S:=R.2 }/\Kpt C.n0 (C.plus W.heap.size hi).kb w4 w') :=
    ((HR4.out.later hbd).ks.undo t _ (HV.out.later (zka ax.out hbd))).mono fun e w' ⟨h1,h2,h3⟩=>by
     have hs:=RI.store (C:=C.plus W.heap.size hi) (HR4.out.later hbd) h2 h3 (by rw[iP.out.2];exact iP.out.1.undo _);rw[hR]at h1 hs;exact⟨_,h1,rfl,hs.1,(Kpt.of_below hbd).trans hs.2⟩
   refine zo 6 fun K hK=>?_;refine zlw zR (.func 140) [.tmp 15,.tmp 16] _ zR 140 _ zKu zR _ zR _ had ?_;rintro v6 w6 ⟨rfl,cB,bI⟩;have ek:=zh (gQ.out.trans (Kpt.less (C:=C) bI));have j0:=(dG.out.trans bI).blk (.inr (.inr ⟨zl,l0⟩)) K0.out;have ak:(fun w':World=>zv w' C.rb 6 (.pointer (some ⟨C.sb,0,none⟩))/\zN4 w' W.heap.size (zj t.k) (zi t.n) (.string t.s) (.slice A t.ks.length c)) w6:=⟨cB.cells.1,zc j0 rfl,zc j0 rfl,zc j0 rfl,zc j0 rfl⟩
   have dW:=zh cB.less;have bq:=zh cB.below;refine hK.out _ _ ⟨ak,trivial⟩ ?_;have nD:=zh ak;clear hK K had cB bI j0 ak hSS;(try simp only[zQ]);have had:=zlr ⟨C.rb,0,none⟩ R.1 w6;refine zp 7 fun K hK=>?_;refine zlo zR (.func 136) [.tmp 11,.tmp 17] _ zR 136 _ zmK zR _ zR (fun v w'=>w'=w6/\R.1=0) (had.mono ?_) ?_
   ·rintro e y1 ⟨rfl,hv1⟩;rcases hv1 with⟨h0,u0,rfl⟩|⟨h0,rfl⟩
    ·exact .inl ⟨_,rfl,rfl,h0⟩
    ·refine .inr ⟨_,rfl,?_⟩;refine⟨rfl,ek.out,bq.out,?_⟩
     try rw[bN.out]
     rw[<-iJ.out,show zkh r1 R=.err R.1 by unfold zkh;rw[if_pos h0]]
   rintro v12 fE ⟨rfl,h0⟩;have gM:=zh (show o=.ok { r1 with S:=R.2 } by rw[<-iJ.out];unfold zkh;rw[if_neg (by simpa using h0)]);refine hK.out _ _ nD.out ?_;clear hK K had h0;(try simp only[zQ]);refine zd ?_;go_wp2_with fail;go_end0;refine⟨ek.out,bq.out,?_⟩
   try rw[bN.out]
   rw[gM.out];exact⟨⟨_,rfl⟩,dW.out⟩
def lsR(prs:List PR)(F:Int)(g:Nat)(back:Bool)(t:T)(r:RS):Out :=
 (zkt (zkn prs F g back) (blkL back (kid t 0)) r).bind fun r=>(zkw F r).bind fun r=>zkh r (zkv r.S t.s 0)
def lsO(prs:List PR)(F:Int)(g:Nat)(back:Bool)(t:T)(r:RS):Out :=
 (zkw F r).bind fun r=>(zkh r (zkA r.S ⟨t.s,3,0⟩ 0)).bind (lsR prs F g back t)
theorem zz0{G:List PR->T->Prop}{g:Nat}(hS:IStC G g){C:RC}(hC:C.Ok){W:World}{r:RS}(h:RI C W r)(t:T)(v:Value)(back:Bool)(hv:NV C.w Any t v)(hk0:t.k=55)(hk:t.ks.length=1)(hG1:∀u∈(kid t 0).ks,G C.p.prs u)
  (aC:lsO C.p.prs C.F g back t r ≠ .gas) :
  Calls prog 108 #[.pointer (some ⟨C.rb,0,none⟩),v,.bool back] W (RunP C W (lsO C.p.prs C.F g back t r)):=by
 have HV:=zh hv;have H:=zh h;have HS:=zh hS;have qw:=zh hk;obtain⟨A,c,rfl,-,hlk,hlc,hrow⟩:=hv.open_;have ae:=zh hrow;have hb0:=zkb (zs W) (.cells #[zj t.k,zi t.n,.string t.s,.slice A t.ks.length c] 28);obtain⟨bz,h1⟩:=h.plus hC hb0;have k0:=yA W (.cells #[zj t.k,zi t.n,.string t.s,.slice A t.ks.length c] 28);obtain⟨x0,x1,x2,x3⟩:=box4 k0;have bR:=zh (Kpt.of_below (n0:=C.n0) (kb:=C.kb) hb0);obtain⟨w3,hw3⟩:=zX (W.alloc (.cells #[zj t.k,zi t.n,.string t.s,.slice A t.ks.length c] 28));rw[hw3]at bz h1 k0 x0 x1 x2 x3 bR;have l0:=zke k0;have K0:=zh k0;obtain⟨hi,hhi⟩:=zX (w3.heap.size);rw[hhi]at bz h1 l0;have jM:=zh bz;have iN:=zh (zmj bz h1);obtain⟨o,ho⟩:=zX (lsO C.p.prs C.F g back t r);have bN:=zh ho;have HO:=zh (show(zkw C.F r).bind (fun r=>(zkh r (zkA r.S ⟨t.s,3,0⟩ 0)).bind (lsR C.p.prs C.F g back t))=o from ho)
 rw[ho]at aC ⊢;have bg:=zh aC;rw[hk0]at hw3;have hw3':=hw3;clear hv hb0 bz h1 k0 h hk ho aC hrow hS hlk;have HKK:=zh hk0;rw[hk0]at x0;rw[hk0];clear hk0;go_enter func108,ntmps108;go_wp2_with fail;refine iN.out.mono ?_;rintro e w4 ⟨hk4,hb4,eH⟩;have gQ:=zh (bR.out.trans (Kpt.less (C:=C) hk4));have ax:=zh (show Below C.w.heap.size C.w w4 from hb4);have bu:match zkw C.F r with
  | .gas=>True
  | .err x=>e=zlW x
  | .ok r=>(∃u,e=.returned u)/\RI (C.plus W.heap.size hi) w4 r:=eH
 have dG:=zh hk4;clear x0 x1 x2 x3 iN hk4 hb4 eH hw3 hw3'
 cases hy:zkw C.F r with
 | gas=>exact absurd hy (zkx _ _).1
 | err x =>
  rw[hy]at bu;subst bu;refine⟨rfl,gQ.out,ax.out,?_⟩
  try rw[bN.out]
  rw[<-HO.out,hy];rfl
 | ok r1 =>
  rw[hy]at bu;obtain⟨⟨u3,rfl⟩,hr1⟩:=bu;have HR4:=zh hr1;have iW:=zh (show(zkh r1 (zkA r1.S ⟨t.s,3,0⟩ 0)).bind (lsR C.p.prs C.F g back t)=o by rw[<-HO.out,hy];rfl);have iP:=zh (show FB r.n r1.S/\r1.n=r.n+1 by obtain⟨rfl,-⟩:=zkB hy;exact⟨H.out.fb,rfl⟩);have j0:=dG.out.blk (.inr (.inr ⟨zl,l0⟩)) K0.out;have hSS:zW (fun w':World=>zv w' C.rb 6 (.pointer (some ⟨C.sb,0,none⟩))/\zv w' W.heap.size 2 (.string t.s)) zU w4.drew:=⟨⟨hr1.cells.1,zc j0 rfl⟩,trivial⟩
  clear hr1 hy j0;go_upto_region 14 with fail;refine zG hSS 9 ?_;refine zT 0 hSS ?_;refine zT 1 hSS ?_;refine zT 2 hSS ?_;refine zT 3 hSS ?_;refine zT 4 hSS ?_;refine zT 5 hSS ?_;refine zT 6 hSS ?_;refine zT 7 hSS ?_;obtain⟨R,hR⟩:=zX (zkA r1.S ⟨t.s,3,0⟩ 0);have HRR:=zh hR;have bY:=iP.out.1.cur;have iB:=H.out.n;have hbd:zw w4 w4.drew:=zr.drew;have had:Calls prog 137 [.pointer (some ⟨C.sb,0,none⟩),.agg #[.string t.s,zj 3,zi 0],zi 0].toArray w4.drew fun e w'=>∃v,e=.returned v/\(v=zi R.1/\RI (C.plus W.heap.size hi) w' { r1 with S:=R.2 }/\Kpt C.n0 (C.plus W.heap.size hi).kb w4 w') :=
   ((HR4.out.later hbd).ks.open_ ⟨t.s,3,0⟩ (by obtain⟨_,_,_,hf,-⟩:=HV.out.open_;exact⟨hf.2.2,⟨by simp only;omega,by simp only;omega⟩,⟨by simp only;omega,by simp only;omega⟩⟩) 0 zero_I64 zO).mono fun e w' ⟨h1,h2,h3⟩=>by
    have hs:=RI.store (C:=C.plus W.heap.size hi) (HR4.out.later hbd) (hR▸h2) h3 (by rw[iP.out.2,<-hR];exact iP.out.1.open_ _ _);exact⟨_,h1,by rw[hR],hs.1,(Kpt.of_below hbd).trans hs.2⟩
  refine zo 8 fun K hK=>?_;refine zlw zR (.func 137) [.tmp 53,.tmp 56,.const (zi 0)] _ zR 137 _ zwd zR _ zR _ had ?_;rintro v6 w6 ⟨rfl,cB,bI⟩;have fw:=zh (dG.out.trans bI);have j0:=fw.out.blk (.inr (.inr ⟨zl,l0⟩)) K0.out;have dW:=zh cB;have ak:(fun w':World=>zv w' C.rb 6 (.pointer (some ⟨C.sb,0,none⟩))/\zv w' W.heap.size 2 (.string t.s)) w6:=⟨cB.cells.1,zc j0 rfl⟩
  refine hK.out _ _ ⟨ak,trivial⟩ ?_;have nD:=zh ak;have bq:=zh cB.below;clear hK K had cB bI j0 ak hSS;(try simp only[zQ]);have ek:=zh (bR.out.trans (Kpt.less (C:=C) fw.out));rw[hR]at iW;have had:=zlr ⟨C.rb,0,none⟩ R.1 w6;refine zp 9 fun K hK=>?_;refine zlo zR (.func 136) [.tmp 49,.tmp 57] _ zR 136 _ zmK zR _ zR (fun v w'=>w'=w6/\R.1=0) (had.mono ?_) ?_
  ·rintro e y1 ⟨rfl,hv1⟩;rcases hv1 with⟨h0,u0,rfl⟩|⟨h0,rfl⟩
   ·exact .inl ⟨_,rfl,rfl,h0⟩
   ·refine .inr ⟨_,rfl,?_⟩;refine⟨rfl,ek.out,bq.out,?_⟩
    try rw[bN.out]
    rw[<-iW.out,show zkh r1 R=.err R.1 by unfold zkh;rw[if_pos h0]];rfl
  rintro v7 w7 ⟨rfl,h0⟩;have qo:=zh (show lsR C.p.prs C.F g back t { r1 with S:=R.2 }=o by rw[<-iW.out,show zkh r1 R=.ok { r1 with S:=R.2 } by unfold zkh;rw[if_neg (by simpa using h0)]];rfl);refine hK.out _ _ nD.out ?_;clear hK K had h0;(try simp only[zQ]);refine zd ?_;obtain⟨r2,hr2⟩:=zX (({ r1 with S:=R.2 }:RS));rw[hr2]at dW qo;have hI:0<t.ks.length:=by have:=qw.out;omega
  have hI1:(0:Int)<(t.ks.length:Int):=zO
  obtain⟨a,u,Au,cu,rfl,-,hu,⟨p0,p1,p2,p3⟩,hnu⟩:=ae.out.nd hI;have gB:kid t 0=u:=by unfold kid;rw[yI,yC hI];exact hu.out
  have uT:=zh (show ∀x∈u.ks,G C.p.prs x by rw[<-gB];exact hG1);have kZ:=zh (show(runO C.p.prs C.F g back u r2).bind (fun r=>(zkw C.F r).bind fun r=>zkh r (zkv r.S t.s 0))=o by rw[<-qo.out,<-gB];rfl);have hgu:runO C.p.prs C.F g back u r2 ≠ .gas:=fun e=>bg.out (by rw[<-kZ.out,e];rfl);have av:=zh (zly HS.out jM.out dW.out u _ back hnu uT.out hgu);have ha:a.add (0*4)=a:=by unfold Addr.add;simp
  rw[ha]at p0 p1 p2 p3;have q0:=zb bq.out p0;have q1:=zb bq.out p1;have q2:=zb bq.out p2;have q3:=zb bq.out p3;have j0:=fw.out.blk (.inr (.inr ⟨zl,l0⟩)) K0.out;have q4:=zc (i:=3) j0 rfl;clear gB hnu hu p0 p1 p2 p3 hgu ha j0 bY iB hG1;go_wp2_with fail;refine av.out.mono ?_;rintro e w8 ⟨lK,dX,qI⟩;have nN:=zh (fw.out.trans lK);have wh:=zh (bR.out.trans (Kpt.less (C:=C) nN.out));have iQ:=zh (show Below C.w.heap.size C.w w8 from dX);have bV:match runO C.p.prs C.F g back u r2 with
   | .gas=>True
   | .err x=>e=zlW x
   | .ok r=>(∃u,e=.returned u)/\RI (C.plus W.heap.size hi) w8 r:=qI
  clear q0 q1 q2 q3 q4 lK dX qI av
  cases hx:runO C.p.prs C.F g back u r2 with
  | gas=>exact absurd (by rw[<-kZ.out,hx];rfl) bg.out
  | err x =>
   rw[hx]at bV;subst bV;refine⟨rfl,wh.out,iQ.out,?_⟩
   try rw[bN.out]
   rw[<-kZ.out,hx];rfl
  | ok r3 =>
   rw[hx]at bV;obtain⟨⟨u9,rfl⟩,hr3⟩:=bV;have HST:=zh (zmj jM.out hr3);have j3:=zh (show((zkw C.F r3).bind fun r=>zkh r (zkv r.S t.s 0))=o by rw[<-kZ.out,hx];rfl);have oC:=zh hr3;clear hx hr3;go_wp2_with fail;refine HST.out.mono ?_;rintro e w9 ⟨aD,aQ,dD⟩;have iM:=zh (nN.out.trans aD);have jG:=zh (bR.out.trans (Kpt.less (C:=C) iM.out));have bE:=zh (show Below C.w.heap.size C.w w9 from aQ);have gq:match zkw C.F r3 with
    | .gas=>True
    | .err x=>e=zlW x
    | .ok r=>(∃u,e=.returned u)/\RI (C.plus W.heap.size hi) w9 r:=dD
   clear aD aQ dD HST
   cases hy:zkw C.F r3 with
   | gas=>exact absurd (by rw[<-j3.out,hy];rfl) bg.out
   | err x =>
    rw[hy]at gq;subst gq;refine⟨rfl,jG.out,bE.out,?_⟩
    try rw[bN.out]
    rw[<-j3.out,hy];rfl
   | ok r4 =>
    rw[hy]at gq;obtain⟨⟨u9,rfl⟩,hr4⟩:=gq;have oz:=zh hr4;have iO:=zh (show FB r3.n r4.S/\r4.n=r3.n+1 by obtain⟨rfl,-⟩:=zkB hy;exact⟨oC.out.fb,rfl⟩);obtain⟨Rc,lT⟩:=zX (zkv r4.S t.s 0);have iK:=zh (show zkh r4 Rc=o by rw[<-j3.out,hy,<-lT];rfl);have j0:=iM.out.blk (.inr (.inr ⟨zl,l0⟩)) K0.out;have hSS:zW (fun w':World=>zv w' C.rb 6 (.pointer (some ⟨C.sb,0,none⟩))/\zv w' W.heap.size 2 (.string t.s)) zU w9.drew:=⟨⟨hr4.cells.1,zc j0 rfl⟩,trivial⟩
    clear hr4 hy j0;go_upto_region 17 with fail;refine zG hSS 8 ?_;refine zT 0 hSS ?_;refine zT 1 hSS ?_;refine zT 2 hSS ?_;refine zT 3 hSS ?_;refine zT 4 hSS ?_;refine zT 5 hSS ?_;refine zT 6 hSS ?_;have sV:zw w9 w9.drew:=zr.drew;have had:Calls prog 138 [.pointer (some ⟨C.sb,0,none⟩),.string t.s,zi 0].toArray w9.drew fun e w'=>∃v,e=.returned v/\(v=zi Rc.1/\RI (C.plus W.heap.size hi) w' { r4 with S:=Rc.2 }/\Kpt C.n0 (C.plus W.heap.size hi).kb w9 w') :=
     ((oz.out.later sV).ks.close t.s 0).mono fun e w' ⟨h1,h2,h3⟩=>by
      have hs:=RI.store (C:=C.plus W.heap.size hi) (oz.out.later sV) (lT▸h2) h3 (by rw[iO.out.2,<-lT];exact iO.out.1.close_ _ _);exact⟨_,h1,by rw[lT],hs.1,(Kpt.of_below sV).trans hs.2⟩
    refine zo 7 fun K hK=>?_;refine zlw zR (.func 138) [.tmp 72,.tmp 74,.const (zi 0)] _ zR 138 _ ztE zR _ zR _ had ?_;rintro v11 aV ⟨rfl,fU,iC⟩;have fK:=zh (iM.out.trans iC);have j0:=fK.out.blk (.inr (.inr ⟨zl,l0⟩)) K0.out;have kY:=zh fU;have ak:(fun w':World=>zv w' C.rb 6 (.pointer (some ⟨C.sb,0,none⟩))/\zv w' W.heap.size 2 (.string t.s)) aV:=⟨fU.cells.1,zc j0 rfl⟩
    refine hK.out _ _ ⟨ak,trivial⟩ ?_;have nD:=zh ak;have jO:=zh fU.below;clear hK K had fU iC j0 ak hSS;(try simp only[zQ]);have jI:=zh (bR.out.trans (Kpt.less (C:=C) fK.out));have had:=zlr ⟨C.rb,0,none⟩ Rc.1 aV;refine zp 8 fun K hK=>?_;refine zlo zR (.func 136) [.tmp 68,.tmp 75] _ zR 136 _ zmK zR _ zR (fun v w'=>w'=aV/\Rc.1=0) (had.mono ?_) ?_
    ·rintro e y1 ⟨rfl,hv1⟩;rcases hv1 with⟨h0,u0,rfl⟩|⟨h0,rfl⟩
     ·exact .inl ⟨_,rfl,rfl,h0⟩
     ·refine .inr ⟨_,rfl,?_⟩;refine⟨rfl,jI.out,jO.out,?_⟩
      try rw[bN.out]
      rw[<-iK.out,show zkh r4 Rc=.err Rc.1 by unfold zkh;rw[if_pos h0]]
    rintro v12 fE ⟨rfl,h0⟩;have gM:=zh (show o=.ok { r4 with S:=Rc.2 } by rw[<-iK.out];unfold zkh;rw[if_neg (by simpa using h0)]);refine hK.out _ _ nD.out ?_;clear hK K had h0;(try simp only[zQ]);refine zd ?_;have nI:=zh kY.out.less;go_wp2_with fail;go_end0;refine⟨jI.out,jO.out,?_⟩
    try rw[bN.out]
    rw[gM.out];exact⟨⟨_,rfl⟩,nI.out⟩
theorem zqx:∀(prs:List PR) (s:ByteArray) (i:Nat),prcI prs s=some i->zlX prs s=(i:Int)/\i<prs.length
 | [],_,_,h=>by simp[prcI]at h
 | q::qs,s,i,h=>by
  unfold prcI at h;unfold zlX idxP;rw[List.findIdx?_cons]
  split at h
  ·rename_i h0;injection h with h;subst h;rw[if_pos h0];exact⟨rfl,zS⟩
  ·rename_i h0;rw[if_neg h0];obtain⟨j,hj,rfl⟩:=Option.map_eq_some_iff.1 h;have h5:=zqx qs s j hj;unfold zlX idxP at h5
   cases hf:List.findIdx? (fun r=>r.s.toList==s.toList) qs with
   | none =>
    rw[hf]at h5;have h6:(-1:Int)=(j:Int):=h5.1;omega
   | some m =>
    rw[hf]at h5;have h6:(m:Int)=(j:Int):=h5.1;exact⟨by show((m+1:Nat):Int)=((j+1:Nat):Int);omega,by have:=h5.2;simp;omega⟩
def strA(l:List ByteArray):Array Value:=(l.map Value.string).toArray
theorem zLk:(prog.info? 9).map (fun i=>(i.zero,i.size,i.bytes))=some (some (.string ⟨#[]⟩),1,16):=zK
theorem zyc(n:Nat):madeCells (Value.string ⟨#[]⟩).cells (n*1)=strA (List.replicate n ⟨#[]⟩):=by
 unfold strA;apply Array.ext';apply List.ext_getElem
 ·rw[Array.length_toList,size_madeCells];simp
 ·intro i h1 h2;have e:i % 1=0:=zO
  simp[madeCells,Value.cells,e]
theorem zLT(n:Nat)(hn:n<=17592186044416)(w:World):(Instr.makeSlice 196 (zi (n:Int)) (zi (n:Int))).run prog w=.ok (.slice (some ⟨w.heap.size,0,none⟩) n n) (w.alloc (.cells (strA (List.replicate n ⟨#[]⟩)) 9)):=by
 have h:=zLk;obtain⟨i,hi,hz⟩:=Option.map_eq_some_iff.1 h;injection hz with h1 h2;injection h2 with h2 h3;have:=zlp (P:=prog) 196 9 i (.string ⟨#[]⟩) underlying196 hi h1 .i64 .i64 n n zl (by rw[h3];omega) zO w;rw[h2,zyc]at this;exact this
def argL(ks:List T)(j:Nat):List ByteArray:=(ks.take j).map (·.s)++List.replicate (ks.length-j) ⟨#[]⟩
theorem zzF(ks:List T):argL ks 0=List.replicate ks.length ⟨#[]⟩:=by simp[argL]
theorem zy0(ks:List T):argL ks ks.length=ks.map (·.s):=by simp[argL]
theorem zyZ(ks:List T){j:Nat}(hj:j<=ks.length):(argL ks j).length=ks.length:=by simp[argL];omega
theorem zyY(ks:List T){j:Nat}(hj:j<ks.length):(strA (argL ks j)).setIfInBounds j (.string ks[j].s)=strA (argL ks (j+1)):=by
 unfold strA;rw[List.setIfInBounds_toArray,<-List.map_set];congr 2;unfold argL;refine List.ext_getElem (by simp;omega) fun i h1 h2=>?_;rw[List.getElem_set];simp only[yU,List.length_map,List.length_take,List.length_replicate,List.length_set]at h1 h2;by_cases e:j=i
 ·subst e;rw[if_pos rfl,yC1 (by simp;omega)];simp
 ·rw[if_neg e];by_cases hi:i<j
  ·rw[yC1 (by simp;omega),yC1 (by simp;omega)];simp
  ·rw[yB2 (by simp;omega),yB2 (by simp;omega)];simp
theorem zxI{W:World}{b:Nat}{E:TypeId}{l:List ByteArray}(h:W.heap[b]?=some (.cells (strA l) E (0,0))):RowS W (some ⟨b,0,none⟩) l:=fun i hi=>by
 have ha:(⟨b,0,none⟩:Addr).add i=⟨b,i,none⟩:=by rw[Addr.add_lit,Nat.zero_add]
 refine⟨⟨b,0,none⟩,rfl,?_⟩;rw[ha];simp only[World.cell?,h];simp[strA,hi]
theorem RI.count{C:RC}(hC:C.Ok){W:World}{r:RS}(h:RI C W r){i:Nat}(hi:i<r.ent.length)(hn:r.ent.getD i 0+1<=r.n) :
  ∃g c,C.ev=.slice (some ⟨g,0,none⟩) r.ent.length c/\W.cell? ⟨g,i,none⟩=some (zi (r.ent.getD i 0:Nat))/\W.frozen? ⟨g,i,none⟩=false /\
   RI C (W.setCell ⟨g,i,none⟩ (zi ((r.ent.getD i 0+1:Nat):Int))) { r with ent:=r.ent.set i (r.ent.getD i 0+1) }/\Kpt C.n0 C.kb W (W.setCell ⟨g,i,none⟩ (zi ((r.ent.getD i 0+1:Nat):Int))):=by
 obtain⟨e1,h2⟩:=h.ent;rcases h2 with h2|⟨g,cap,cur,hev,hb,hg,hcap,hlen,hsz,bY⟩
 ·have hn0:r.ent.length=0:=h2.2;omega
 ·have hcz:cur[i]?=some (zi (r.ent.getD i 0:Nat)):=by
   have h3:(zkj (r.ent.map Int.ofNat))[i]?=some (zi (r.ent.getD i 0:Nat)):=by simp[zkj,hi]
   rw[<-bY,List.getElem?_take]at h3
   split at h3
   ·simpa using h3
   ·cases h3
  have hci:i<cur.size:=by
   rcases Nat.lt_or_ge i cur.size with h|h
   ·exact h
   ·rw[Array.getElem?_eq_none h]at hcz;cases hcz
  have hrb:g≠C.rb:=fun e=>hC.ev.1 (by rw[hev,<-e];rfl);have hkb:¬ C.kb g:=hC.ev.2 g (by rw[hev];rfl);have hch:Chg (fun b=>b=g) W (W.setCell ⟨g,i,none⟩ (zi ((r.ent.getD i 0+1:Nat):Int))):=(Chg.refl (fun b=>b=g) W).setCell (p:=⟨g,i,none⟩) (.inl rfl) _;have hnn:=h.ks.hn;refine⟨g,cap,hev,zc hg hcz,zf hg,⟨h.ks.chg hch fun b _ e=>⟨zO,.inr (.inr (.inr (by rw[hev,e];rfl)))⟩,?_,?_,by simp[h.el],?_,h.n,h.fb⟩,Kpt.chg hch fun b e=>⟨zO,by rw[e];exact hkb⟩⟩
  ·rw[Below.heap_setCell _ _ _ _ (fun e=>hrb (by simpa using e.symm))];exact h.box
  ·have hs:=yL W g i _ _ (zi ((r.ent.getD i 0+1:Nat):Int)) hg;refine⟨by simp[zkj],.inr ⟨g,cap,_,by rw[hev];simp,hb,hs,by simpa using hcap,by simpa using hlen,by simpa using hsz,?_⟩⟩;have e2:((cur.setIfInBounds i (zi ((r.ent.getD i 0+1:Nat):Int))).toList.take ((r.ent.set i (r.ent.getD i 0+1)).length*1))=(cur.toList.take (r.ent.length*1)).set i (zi ((r.ent.getD i 0+1:Nat):Int)):=by
    rw[Array.toList_setIfInBounds,List.length_set,List.take_set]
   rw[e2,bY];simp[zkj,List.map_set]
  ·intro c hc;rcases List.mem_or_eq_of_mem_set hc with hc|rfl
   ·exact h.en c hc
   ·exact hn
theorem zyz:IsFn prog 158 f158:=⟨func158,zK,zK⟩
def caR(prs:List PR)(F:Int)(g:Nat)(back:Bool)(i:Nat)(b:T)(r:RS):Out :=
 (zkt (zkn prs F g back) (blkL back b) { r with ent:=r.ent.set i (r.ent.getD i 0+1) }).bind fun r=>(zkw F r).bind fun r=>zkh r (zld r.S)
def caO(prs:List PR)(F:Int)(g:Nat)(back:Bool)(i:Nat)(q:PR)(ss:List ByteArray)(r:RS):Out :=
 (zkw F r).bind fun r=>(zkh r (zk7 r.S q.ps ss)).bind (caR prs F g back i q.b)
theorem zoL{G:List PR->T->Prop}{g:Nat}(hS:IStC G g){C:RC}(hC:C.Ok){W:World}{r:RS}(h:RI C W r)(t:T)(v:Value)(back:Bool)(hv:NV C.w Any t v)(i:Nat)(hi:prcI C.p.prs t.s=some i)(q:PR)(hq:C.p.prs[i]?=some q)(hG1:∀u∈q.b.ks,G C.p.prs u)
  (aC:caO C.p.prs C.F g back i q (t.ks.map (·.s)) r ≠ .gas) :
  Calls prog 139 #[.pointer (some ⟨C.rb,0,none⟩),v,.bool back] W (RunP C W (caO C.p.prs C.F g back i q (t.ks.map (·.s)) r)):=by
 have HV:=zh hv;have H:=zh h;have HS:=zh hS;have HC:=zh hC;obtain⟨hpi,hil⟩:=zqx _ _ _ hi;obtain⟨A,c,rfl,-,hlk,hlc,hrow⟩:=hv.open_;have ae:=zh hrow;have hb0:=zkb (zs W) (.cells #[zj t.k,zi t.n,.string t.s,.slice A t.ks.length c] 28);have k0:=yA W (.cells #[zj t.k,zi t.n,.string t.s,.slice A t.ks.length c] 28);obtain⟨x0,x1,x2,x3⟩:=box4 k0;have ku:=zh h.below;obtain⟨w1,hw1⟩:=zX (W.alloc (.cells #[zj t.k,zi t.n,.string t.s,.slice A t.ks.length c] 28));have hz1:w1.heap.size=W.heap.size+1:=by rw[<-hw1];simp
 rw[hw1]at hb0 k0 x0 x1 x2 x3;have hmk:=zLT t.ks.length (by unfold LK at hlk;omega);have hb1:=zkb hb0 (.cells (strA (List.replicate t.ks.length ⟨#[]⟩)) 9);have k1:=yA w1 (.cells (strA (List.replicate t.ks.length ⟨#[]⟩)) 9);have j0:=zkd k0 (.cells (strA (List.replicate t.ks.length ⟨#[]⟩)) 9);rw[hz1]at k1;rw[<-zzF]at hmk;have hz2:(w1.alloc (.cells (strA (argL t.ks 0)) 9)).heap.size=W.heap.size+2:=by simp[hz1]
 rw[<-zzF]at hb1 k1 j0;have HB1:=zh hb1;have K1:=zh k1;have J0:=zh j0;obtain⟨o,ho⟩:=zX (caO C.p.prs C.F g back i q (t.ks.map (·.s)) r);have bN:=zh ho;have HO:=zh (show(zkw C.F r).bind (fun r=>(zkh r (zk7 r.S q.ps (t.ks.map (·.s)))).bind (caR C.p.prs C.F g back i q.b))=o from ho);rw[ho]at aC ⊢;have bg:=zh aC;have HPI:=zh hpi;have wo:=zh hil;have HQ:=zh hq;have hlk2:t.ks.length<=17592186044416:=by unfold LK at hlk;omega
 have HZ2:=zh hz2;clear hv hb0 k0 h ho aC hrow hS hC hlk hpi hil hq hi hb1 k1 j0 hz2;go_enter func139,ntmps139;go_wp2_with fail;clear x0 x1 x2 x3 hw1 hmk;have ik:=zh (fun j (hj:j<t.ks.length)=>zyY t.ks hj);have HAN:=zh (fun j (hj:j<=t.ks.length)=>zyZ t.ks hj)
 go_loopw [18] (fun x wr=>∃j:Nat,j<=t.ks.length/\x=zi j/\Hid (zw W wr)/\Hid (wr.heap[W.heap.size]?=some (.cells #[zj t.k,zi t.n,.string t.s,.slice A t.ks.length c] 28 (0,0)))/\Hid (wr.heap[W.heap.size+1]?=some (.cells (strA (argL t.ks j)) 9 (0,0)))) (fun x _=>t.ks.length-(intOf x).toNat)
 case atStart=>exact⟨0,yK _,rfl,HB1,J0,K1⟩
 case round =>
  obtain⟨j,hj,rfl,ag,HJ,HK⟩:=hrel;clear HB1 J0 K1;by_cases hlt:j<t.ks.length
  ·obtain⟨a,u,Au,cu,rfl,-,Hu,⟨p0,p1,p2,p3⟩,-⟩:=ae.out.nd hlt;have hbb:=zka ku.out ag.out;have q0:=zb hbb p0;have q1:=zb hbb p1;have q2:=zb hbb p2;have q3:=zb hbb p3;have hj1:(j:Int)<(t.ks.length:Int):=zO
   have hj0:(0:Int)<=(j:Int):=zO
   have kz:=zkd HK.out (.cells #[zj u.k,zi u.n,.string u.s,.slice Au u.ks.length cu] 28);have jz:=zkd HJ.out (.cells #[zj u.k,zi u.n,.string u.s,.slice Au u.ks.length cu] 28);have hbz:=zkb ag.out (.cells #[zj u.k,zi u.n,.string u.s,.slice Au u.ks.length cu] 28);have zc:∃y,(strA (argL t.ks j))[j]?=some y:=⟨_,Array.getElem?_eq_getElem (by simp[strA,HAN.out j hj];exact hlt)⟩
   obtain⟨y,hy⟩:=zc;have zy:=zc kz hy;have zf:(wr.alloc (.cells #[zj u.k,zi u.n,.string u.s,.slice Au u.ks.length cu] 28)).frozen? ⟨W.heap.size+1,j,none⟩=false:=zf kz;have yZ:=zh hbz;have HKZ:=zh kz;have HJZ:=zh jz;have hwlt:W.heap.size+1<wr.heap.size:=zke HK.out;clear hbb p0 p1 p2 p3 kz jz hbz hy;go_wp2_with fail
   go_roundw
   case rel =>
    have hch:=(Chg.refl (fun b=>b=W.heap.size+1) wr).setCell (p:=⟨W.heap.size+1,j,none⟩) (.inl rfl) (.string u.s);refine⟨j+1,zO,by go_num,zh (zkb (ag.out.trans (hch.below ag.out.size fun b e=>zO)) _),zh (zkd (hch.keep HJ.out zO) _),zh ?_⟩;have:=yL _ (W.heap.size+1) j _ _ (.string u.s) HK.out;refine zkd ?_ _;rw[this,<-ik.out j hlt,Hu.out]
   case measure=>simp[intOf];omega
  ·obtain rfl:j=t.ks.length:=zO
   rw[zy0]at HK;have hj1:¬ (t.ks.length:Int)<(t.ks.length:Int):=zO
   have hrn:=H.out.n;have hel:=H.out.el;obtain⟨pa,q1,B1,d1,B2,d2,hA2,-,Hq1,⟨p0,p1,p2,p3,p4,p5⟩,hpr⟩:=HC.out.pg.procs.nd wo.out;obtain rfl:q=q1:=by
    have e:=HQ.out;rw[yC wo.out,Hq1.out]at e;injection e with e;exact e.symm
   have HPRR:=zh hpr;have hbb:=zka ku.out ag.out;have dI:=zh hbb;have bM:=zh (fun w' (hb:zw wr w')=>zn0 C.p Any (pv C.A1 C.p.vs.length C.c1 C.A2 C.p.prs.length C.c2 C.p.m.k C.p.m.n C.p.m.s C.A3 C.p.m.ks.length C.c3) t.s w' ⟨_,_,_,_,_,_,rfl,HC.out.pg.later (zka dI.out hb)⟩);rw[HPI.out]at bM;have HXB:=zh (zkc H.out.box ag.out);rw[hA2]at bM;have lV:Hid (wr.cell? ⟨C.rb,0,none⟩=some (.slice C.A1 C.p.vs.length C.c1)/\wr.cell? ⟨C.rb,1,none⟩=some (.slice (some pa) C.p.prs.length C.c2)/\wr.cell? ⟨C.rb,2,none⟩=some (zj C.p.m.k)/\wr.cell? ⟨C.rb,3,none⟩=some (zi C.p.m.n)/\wr.cell? ⟨C.rb,4,none⟩=some (.string C.p.m.s)/\wr.cell? ⟨C.rb,5,none⟩=some (.slice C.A3 C.p.m.ks.length C.c3)) :=
    zh ⟨zc HXB.out rfl,by rw[<-hA2];exact zc HXB.out rfl,zc HXB.out rfl,zc HXB.out rfl,zc HXB.out rfl,zc HXB.out rfl⟩
   have uR:=zh (show(i:Int)<(C.p.prs.length:Int) by have:=wo.out;omega);obtain⟨rb,hrb⟩:=zX (C.rb);obtain⟨z1,hz1⟩:=zX (C.A1);obtain⟨z2,hz2⟩:=zX (C.p.vs.length);obtain⟨z3,hz3⟩:=zX (C.c1);obtain⟨z5,qF⟩:=zX (C.p.prs.length);obtain⟨z6,eF⟩:=zX (C.c2);obtain⟨z7,lG⟩:=zX (C.p.m.k);obtain⟨z8,mh⟩:=zX (C.p.m.n);obtain⟨z9,nY⟩:=zX (C.p.m.s);obtain⟨z10,mi⟩:=zX (C.A3);obtain⟨z11,rJ⟩:=zX (C.p.m.ks.length);obtain⟨z12,rH⟩:=zX (C.c3);rw[hz1,hz2,hz3,qF,eF,lG,mh,nY,mi,rJ,rH]at bM;rw[hrb,hz1,hz2,hz3,qF,eF,lG,mh,nY,mi,rJ,rH]at lV;have aA:=zh (show ∀w',zw wr w'->(fun w':World=>zv w' rb 0 (.slice z1 z2 z3)/\zv w' rb 1 (.slice (some pa) z5 z6)/\zv w' rb 2 (zj z7)/\zv w' rb 3 (zi z8)/\zv w' rb 4 (.string z9)/\zv w' rb 5 (.slice z10 z11 z12)/\zv w' W.heap.size 2 (.string t.s)) w' from fun w' hb=>by
    obtain⟨y0,y1,y2,y3,y4,y5⟩:=lV.out;exact⟨zb hb y0,zb hb y1,zb hb y2,zb hb y3,zb hb y4,zb hb y5,zb hb (zc HJ.out rfl)⟩)
   have gZ:=zh (aA.out _ zr.drew);have oF:=zh (show C.w.cell? (pa.add (i*6))=_/\_/\_/\_/\_/\_ from⟨p0,p1,p2,p3,p4,p5⟩);clear p0 p1 p2 p3 p4 p5 hpr hbb hz1 hz2 hz3 eF lG mh nY mi rJ rH hel hrn hj1;have tY:=zh qF;rw[qF]at uR;clear qF;have dA:=zh hrb;clear hrb hA2;rw[dA.out];have hj1:¬ (t.ks.length:Int)<(t.ks.length:Int):=zO
   go_upto_region 7 with fail
   go_region_held3 (fun w':World=>zv w' rb 0 (.slice z1 z2 z3)/\zv w' rb 1 (.slice (some pa) z5 z6)/\zv w' rb 2 (zj z7)/\zv w' rb 3 (zi z8)/\zv w' rb 4 (.string z9)/\zv w' rb 5 (.slice z10 z11 z12)/\zv w' W.heap.size 2 (.string t.s))
    (first|with_reducible exact bJ.out|with_reducible exact gZ.out)
    (first
     | (go_at_call 57;refine(bM.out _ zr.drew).mono ?_;rintro e y1 ⟨rfl,bF⟩;have b1:=zka (zs wr).drew bF;have bJ:=zh (aA.out _ b1))
     | fail)
   have hb1:=zka dI.out b1;have p0:=zb hb1 oF.out.1;have p1:=zb hb1 oF.out.2.1;have p2:=zb hb1 oF.out.2.2.1;have p3:=zb hb1 oF.out.2.2.2.1;have p4:=zb hb1 oF.out.2.2.2.2.1;have p5:=zb hb1 oF.out.2.2.2.2.2;obtain⟨-,e1,-⟩:=bJ.out;have hi1:=uR.out;have hi0:(0:Int)<=(i:Int):=zO
   have dK:=zkb (zka ag.out b1) (.cells #[.string q.s,.slice B1 q.ps.length d1,zj q.b.k,zi q.b.n,.string q.b.s,.slice B2 q.b.ks.length d2] 100);have k0:=zkd (zkc HJ.out b1) (.cells #[.string q.s,.slice B1 q.ps.length d1,zj q.b.k,zi q.b.n,.string q.b.s,.slice B2 q.b.ks.length d2] 100);have k1:=zkd (zkc HK.out b1) (.cells #[.string q.s,.slice B1 q.ps.length d1,zj q.b.k,zi q.b.n,.string q.b.s,.slice B2 q.b.ks.length d2] 100);have k2:=yA y1 (.cells #[.string q.s,.slice B1 q.ps.length d1,zj q.b.k,zi q.b.n,.string q.b.s,.slice B2 q.b.ks.length d2] 100);obtain⟨pb,hpb⟩:=zX (y1.heap.size);have hpl:W.heap.size<=pb:=by rw[<-hpb];exact(zka ag.out b1).size
   obtain⟨w5,mr⟩:=zX (y1.alloc (.cells #[.string q.s,.slice B1 q.ps.length d1,zj q.b.k,zi q.b.n,.string q.b.s,.slice B2 q.b.ks.length d2] 100));rw[mr]at dK k0 k1;rw[hpb,mr]at k2;have bR:=zh (Kpt.of_below (n0:=C.n0) (kb:=C.kb) dK);obtain⟨yD,h5⟩:=H.out.plus HC.out dK;have l0:=zke k0;have l1:=zke k1;have l2:=zke k2;obtain⟨hi,hhi⟩:=zX (w5.heap.size);rw[hhi]at yD h5 l0 l1 l2;have eD:=zh yD;have K0:=zh k0;have K1:=zh k1;have K2:=zh k2;have HST:=zh (zmj yD h5);rw[show(C.plus W.heap.size hi).rb=rb from dA.out]at HST;have uB:=zh hpl;obtain⟨ss,hss⟩:=zX (t.ks.map (·.s));have HSL:=zh (show ss.length=t.ks.length by rw[<-hss];simp);rw[hss]at HO K1;clear hb1 b1 bF bJ aA gZ dK k0 k1 k2 yD h5 oF hpl lV bM ik HAN HK HJ hss;go_upto_region 9 with fail;clear p0 p1 p2 p3 p4 p5 e1 mr hpb;go_wp2_with fail;refine HST.out.mono ?_;rintro e w6 ⟨bI,hb6,iA⟩
   have ek:=zh (bR.out.trans (Kpt.less (C:=C) bI));have bq:=zh (show Below C.w.heap.size C.w w6 from hb6);have bW:match zkw C.F r with
    | .gas=>True
    | .err x=>e=zlW x
    | .ok r=>(∃u,e=.returned u)/\RI (C.plus W.heap.size hi) w6 r:=iA
   have uO:=zh bI;clear HST bI hb6 iA
   cases hy:zkw C.F r with
   | gas=>exact absurd (by rw[<-HO.out,hy];rfl) bg.out
   | err x =>
    rw[hy]at bW;subst bW;refine⟨rfl,ek.out,bq.out,?_⟩
    try rw[bN.out]
    rw[<-HO.out,hy];rfl
   | ok r1 =>
    rw[hy]at bW;obtain⟨⟨u3,rfl⟩,hr1⟩:=bW;have dW:=zh hr1;have qo:=zh (show(zkh r1 (zk7 r1.S q.ps ss)).bind (caR C.p.prs C.F g back i q.b)=o by rw[<-HO.out,hy];rfl);have iP:=zh (show FB r.n r1.S/\r1.n=r.n+1/\r1.ent=r.ent by obtain⟨rfl,-⟩:=zkB hy;exact⟨H.out.fb,rfl,rfl⟩);have j2:=uO.out.blk (.inr (.inr ⟨uB.out,l2⟩)) K2.out;have hSS:zW (fun w':World=>zv w' rb 6 (.pointer (some ⟨C.sb,0,none⟩))/\zv w' pb 1 (.slice B1 q.ps.length d1)) zU w6.drew:=⟨⟨by rw[<-dA.out];exact hr1.cells.1,zc j2 rfl⟩,trivial⟩
    clear hr1 hy j2;go_upto_region 10 with fail;refine zG hSS 9 ?_;refine zT 0 hSS ?_;refine zT 1 hSS ?_;refine zT 2 hSS ?_;refine zT 3 hSS ?_;refine zT 4 hSS ?_;refine zT 5 hSS ?_;refine zT 6 hSS ?_;refine zT 7 hSS ?_;obtain⟨R,hR⟩:=zX (zk7 r1.S q.ps ss);have HRR:=zh hR;have hbd:zw w6 w6.drew:=zr.drew;have hpq:q.ps.length<=1000:=HC.out.ps q (yD1 HQ.out);have hen:=(dW.out.later hbd).ks.enter q.ps ss B1 (some ⟨W.heap.size+1,0,none⟩) d1 t.ks.length (HPRR.out.row.later (zka bq.out hbd)) ((zxI (uO.out.blk (.inr (.inr ⟨Nat.le_succ _,l1⟩)) K1.out)).later hbd) zO (by rw[HSL.out];exact hlk2);rw[HSL.out]at hen
    have had:Calls prog 158 [.pointer (some ⟨C.sb,0,none⟩),.slice B1 q.ps.length d1,.slice (some ⟨W.heap.size+1,0,none⟩) t.ks.length t.ks.length].toArray w6.drew fun e w'=>∃v,e=.returned v/\(v=zi R.1/\RI (C.plus W.heap.size hi) w' { r1 with S:=R.2 }/\Kpt C.n0 (C.plus W.heap.size hi).kb w6 w') :=
     hen.mono fun e w' ⟨h1,h2,h3⟩=>by
      have hs:=RI.store (C:=C.plus W.heap.size hi) (dW.out.later hbd) (hR▸h2) h3 (by rw[iP.out.2.1,<-hR];exact iP.out.1.enter _ _ hpq);exact⟨_,h1,by rw[hR],hs.1,(Kpt.of_below hbd).trans hs.2⟩
    refine zo 8 fun K hK=>?_;refine zlw zR (.func 158) [.tmp 50,.tmp 52,.tmp 53] _ zR 158 _ zyz zR _ zR _ had ?_;rintro v7 w7 ⟨rfl,eG,mF⟩;have uN:=zh (uO.out.trans mF);have j2:=uN.out.blk (.inr (.inr ⟨uB.out,l2⟩)) K2.out;have jZ:=zh eG;have tJ:(fun w':World=>zv w' rb 6 (.pointer (some ⟨C.sb,0,none⟩))/\zv w' pb 1 (.slice B1 q.ps.length d1)) w7:=⟨by rw[<-dA.out];exact eG.cells.1,zc j2 rfl⟩
    refine hK.out _ _ ⟨tJ,trivial⟩ ?_;have HS7:=zh tJ;have kv:=zh eG.below;clear hK K had eG mF j2 tJ hSS hen;(try simp only[zQ]);have xJ:=zh (bR.out.trans (Kpt.less (C:=C) uN.out));rw[hR]at qo;have had:=zlr ⟨rb,0,none⟩ R.1 w7;refine zp 9 fun K hK=>?_;refine zlo zR (.func 136) [.tmp 46,.tmp 54] _ zR 136 _ zmK zR _ zR (fun v w'=>w'=w7/\R.1=0) (had.mono ?_) ?_
    ·rintro e y1 ⟨rfl,hv1⟩;rcases hv1 with⟨h0,u0,rfl⟩|⟨h0,rfl⟩
     ·exact .inl ⟨_,rfl,rfl,h0⟩
     ·refine .inr ⟨_,rfl,?_⟩;refine⟨rfl,xJ.out,kv.out,?_⟩
      try rw[bN.out]
      rw[<-qo.out,show zkh r1 R=.err R.1 by unfold zkh;rw[if_pos h0]];rfl
    rintro v8 w8 ⟨rfl,h0⟩;have kZ:=zh (show caR C.p.prs C.F g back i q.b { r1 with S:=R.2 }=o by rw[<-qo.out,show zkh r1 R=.ok { r1 with S:=R.2 } by unfold zkh;rw[if_neg (by simpa using h0)]];rfl);refine hK.out _ _ HS7.out ?_;clear hK K had h0;(try simp only[zQ]);refine zd ?_;obtain⟨r2,hr2⟩:=zX (({ r1 with S:=R.2 }:RS));rw[hr2]at jZ kZ;have he2:r2.ent.length=C.p.prs.length:=jZ.out.el;have hi2:i<r2.ent.length:=by rw[he2];exact wo.out
    have hn2:r2.ent.getD i 0+1<=r2.n:=by
     rw[<-hr2];simp only;rw[iP.out.2.2,iP.out.2.1,yI,yC (by rw[H.out.el];exact wo.out)];have:=H.out.en _ (yE (l:=r.ent) (n:=i) (by rw[H.out.el];exact wo.out));simp only[Option.getD_some];omega
    obtain⟨eg,ec,hev,hcz,hcf,hrc,hkc⟩:=jZ.out.count eD.out hi2 hn2;have hev':C.ev=.slice (some ⟨eg,0,none⟩) r2.ent.length ec:=hev;obtain⟨-,-,-,e9,-⟩:=jZ.out.cells;have e9':w8.cell? ⟨rb,9,none⟩=some (.slice (some ⟨eg,0,none⟩) z5 ec):=by
     rw[<-dA.out,<-tY.out,<-he2,<-hev'];exact e9
    have hnn:=jZ.out.n;have zH:IntKind.i64.wrap ((r2.ent.getD i 0:Nat)+1:Int)=((r2.ent.getD i 0+1:Nat):Int):=by rw[yF _ zO];omega
    have j3:=zh (show(runO C.p.prs C.F g back q.b { r2 with ent:=r2.ent.set i (r2.ent.getD i 0+1) }).bind (fun r=>(zkw C.F r).bind fun r=>zkh r (zld r.S))=o from kZ.out);obtain⟨e0,he0⟩:=zX (r2.ent.getD i 0);rw[he0]at hcz hrc hkc zH j3;obtain⟨w9,dw⟩:=zX (w8.setCell ⟨eg,i,none⟩ (zi ((e0+1:Nat):Int)));rw[dw]at hrc hkc;obtain⟨r3,hr3⟩:=zX (({ r2 with ent:=r2.ent.set i (e0+1) }:RS));rw[hr3]at hrc j3;have oz:=zh hrc;have uM:=zh (uN.out.trans hkc);have jG:=zh (bR.out.trans (Kpt.less (C:=C) uM.out));have bE:=zh (show Below C.w.heap.size C.w w9 from hrc.below);have j2:=uM.out.blk (.inr (.inr ⟨uB.out,l2⟩)) K2.out;have hgu:runO C.p.prs C.F g back q.b r3 ≠ .gas:=fun e=>bg.out (by rw[<-j3.out,e];rfl);have av:=zh (zly HS.out eD.out oz.out q.b _ back HPRR.out.body hG1 hgu);rw[show(C.plus W.heap.size hi).rb=rb from dA.out]at av;have HJ2:=zh j2
    have hi1:=uR.out;have hi0:(0:Int)<=(i:Int):=zO
    rw[show((e0+1:Nat):Int)=(e0:Int)+1 by omega]at zH dw;clear hr2 he2 hi2 hn2 hev hev' e9 hnn he0 hr3 hrc hkc j2 hgu hG1 kZ HS7 hbd hpq hR;go_upto_region 12 with fail;clear dw hcz hcf e9' zH;have q2:w9.cell? ⟨pb,2,none⟩=some (zj q.b.k):=zc HJ2.out rfl;have q3:w9.cell? ⟨pb,3,none⟩=some (zi q.b.n):=zc HJ2.out rfl;have q4:w9.cell? ⟨pb,4,none⟩=some (.string q.b.s):=zc HJ2.out rfl;have q5:w9.cell? ⟨pb,5,none⟩=some (.slice B2 q.b.ks.length d2):=zc HJ2.out rfl;go_wp2_with fail;refine av.out.mono ?_;rintro e aZ ⟨hk10,eQ,kF⟩;have HK510:=zh (uM.out.trans hk10);have HK10:=zh (bR.out.trans (Kpt.less (C:=C) HK510.out));have nW:=zh (show Below C.w.heap.size C.w aZ from eQ);have jR:match runO C.p.prs C.F g back q.b r3 with
     | .gas=>True
     | .err x=>e=zlW x
     | .ok r=>(∃u,e=.returned u)/\RI (C.plus W.heap.size hi) aZ r:=kF
    clear q2 q3 q4 q5 hk10 eQ kF av
    cases hx:runO C.p.prs C.F g back q.b r3 with
    | gas=>exact absurd (by rw[<-j3.out,hx];rfl) bg.out
    | err x =>
     rw[hx]at jR;subst jR;refine⟨rfl,HK10.out,nW.out,?_⟩
     try rw[bN.out]
     rw[<-j3.out,hx];rfl
    | ok r4 =>
     rw[hx]at jR;obtain⟨⟨u9,rfl⟩,hr4⟩:=jR;have HST:=zh (zmj eD.out hr4);rw[show(C.plus W.heap.size hi).rb=rb from dA.out]at HST;have fI:=zh (show((zkw C.F r4).bind fun r=>zkh r (zld r.S))=o by rw[<-j3.out,hx];rfl);have uz:=zh hr4;clear hx hr4;go_wp2_with fail;refine HST.out.mono ?_;rintro e aV ⟨iC,p8,pq⟩;have HK511:=zh (HK510.out.trans iC);have jI:=zh (bR.out.trans (Kpt.less (C:=C) HK511.out));have jO:=zh (show Below C.w.heap.size C.w aV from p8);have jQ:match zkw C.F r4 with
      | .gas=>True
      | .err x=>e=zlW x
      | .ok r=>(∃u,e=.returned u)/\RI (C.plus W.heap.size hi) aV r:=pq
     clear iC p8 pq HST
     cases hy:zkw C.F r4 with
     | gas=>exact absurd (by rw[<-fI.out,hy];rfl) bg.out
     | err x =>
      rw[hy]at jQ;subst jQ;refine⟨rfl,jI.out,jO.out,?_⟩
      try rw[bN.out]
      rw[<-fI.out,hy];rfl
     | ok r5 =>
      rw[hy]at jQ;obtain⟨⟨u9,rfl⟩,kD⟩:=jQ;have kY:=zh kD;have iO:=zh (show FB r4.n r5.S/\r5.n=r4.n+1 by obtain⟨rfl,-⟩:=zkB hy;exact⟨uz.out.fb,rfl⟩);obtain⟨Rc,lT⟩:=zX (zld r5.S);have iK:=zh (show zkh r5 Rc=o by rw[<-fI.out,hy,<-lT];rfl);have y6:aV.cell? ⟨rb,6,none⟩=some (.pointer (some ⟨C.sb,0,none⟩)):=by rw[<-dA.out];exact kD.cells.1
      clear kD hy;go_wp2_with fail;refine(kY.out.ks.leave).mono ?_;rintro e fE ⟨rfl,h2,h3⟩;have hs:=RI.store (C:=C.plus W.heap.size hi) kY.out h2 h3 (by rw[iO.out.2];exact iO.out.1.leave);rw[lT]at hs ⊢;have nI:=zh hs.1;have HK512:=zh (HK511.out.trans hs.2);have gV:=zh hs.1.below;have jH:=zh (bR.out.trans (Kpt.less (C:=C) HK512.out));clear hs h2 h3 y6;go_wp2_with fail;refine(zlr ⟨rb,0,none⟩ Rc.1 fE).mono ?_;rintro e y1 ⟨rfl,hv1⟩;rcases hv1 with⟨h0,u0,rfl⟩|⟨h0,rfl⟩
      ·have gM:=zh (show o=.ok { r5 with S:=Rc.2 } by rw[<-iK.out];unfold zkh;rw[if_neg (by simpa using h0)]);have HR13:=zh nI.out.less;clear h0;go_wp2_with fail;go_end0;refine⟨jH.out,gV.out,?_⟩
       try rw[bN.out]
       rw[gM.out];exact⟨⟨_,rfl⟩,HR13.out⟩
      ·refine⟨rfl,jH.out,gV.out,?_⟩
       try rw[bN.out]
       rw[<-iK.out,show zkh r5 Rc=.err Rc.1 by unfold zkh;rw[if_pos h0]]
theorem zsk{G:List PR->T->Prop}{g:Nat}(hS:IStC G g){C:RC}(hC:C.Ok){W:World}{r:RS}(h:RI C W r)(t:T)(v:Value)(back:Bool)(hv:NV C.w Any t v)(hk0:t.k=50)(i:Nat)(hi:prcI C.p.prs t.s=some i)(q:PR)(hq:C.p.prs[i]?=some q)(hG1:∀u∈q.b.ks,G C.p.prs u)
  (o:Out)(ho:caO C.p.prs C.F g back i q (t.ks.map (·.s)) r=o)(hog:o ≠ .gas) :
  Calls prog 108 #[.pointer (some ⟨C.rb,0,none⟩),v,.bool back] W (RunP C W o):=by
 have aC:=hog
 cases back
 ·skip
  obtain⟨k,n,s,ks⟩:=t;obtain rfl:k=50:=hk0;obtain⟨A,c,rfl,-,hlk,hlc,-⟩:=hv.open_;have hb0:=zkb (zs W) (.cells #[zj 50,zi n,.string s,.slice A ks.length c] 28);obtain⟨x0,x1,x2,x3⟩:=box4 (yA W (.cells #[zj 50,zi n,.string s,.slice A ks.length c] 28));have aG:=zh (Kpt.of_below (n0:=C.n0) (kb:=C.kb) hb0);have aI:=zh (show Calls prog 139 #[.pointer (some ⟨C.rb,0,none⟩),.agg #[zj 50,zi n,.string s,.slice A ks.length c],.bool false] (W.alloc (.cells #[zj 50,zi n,.string s,.slice A ks.length c] 28)) (RunP C _ o)from ho▸(zoL hS hC (h.later hb0) _ _ false hv i hi q hq hG1 (ho▸hog)));clear hv hb0 h aC hG1 ho hi hq;go_enter func108,ntmps108;go_wp2_with fail;refine aI.out.mono ?_;rintro e w1 ⟨hk1,hb1,ho1⟩
  cases o with
  | gas=>exact absurd rfl hog
  | err x =>
   subst ho1;exact⟨rfl,aG.out.trans hk1,hb1,rfl⟩
  | ok r1 =>
   obtain⟨⟨u,rfl⟩,hr1⟩:=ho1;have HR:=zh hr1;have az:=zh (aG.out.trans hk1);have HB1:=zh hb1;clear x0 x1 x2 x3 hr1 hk1 hb1;go_wp2_with fail;go_end0;exact⟨az.out,HB1.out,⟨_,rfl⟩,HR.out⟩
 ·skip
  obtain⟨k,n,s,ks⟩:=t;obtain rfl:k=50:=hk0;obtain⟨A,c,rfl,-,hlk,hlc,-⟩:=hv.open_;have hb0:=zkb (zs W) (.cells #[zj 50,zi n,.string s,.slice A ks.length c] 28);obtain⟨x0,x1,x2,x3⟩:=box4 (yA W (.cells #[zj 50,zi n,.string s,.slice A ks.length c] 28));have aG:=zh (Kpt.of_below (n0:=C.n0) (kb:=C.kb) hb0);have aI:=zh (show Calls prog 139 #[.pointer (some ⟨C.rb,0,none⟩),.agg #[zj 50,zi n,.string s,.slice A ks.length c],.bool true] (W.alloc (.cells #[zj 50,zi n,.string s,.slice A ks.length c] 28)) (RunP C _ o)from ho▸(zoL hS hC (h.later hb0) _ _ true hv i hi q hq hG1 (ho▸hog)));clear hv hb0 h aC hG1 ho hi hq;go_enter func108,ntmps108;go_wp2_with fail;refine aI.out.mono ?_;rintro e w1 ⟨hk1,hb1,ho1⟩
  cases o with
  | gas=>exact absurd rfl hog
  | err x =>
   subst ho1;exact⟨rfl,aG.out.trans hk1,hb1,rfl⟩
  | ok r1 =>
   obtain⟨⟨u,rfl⟩,hr1⟩:=ho1;have HR:=zh hr1;have az:=zh (aG.out.trans hk1);have HB1:=zh hb1;clear x0 x1 x2 x3 hr1 hk1 hb1;go_wp2_with fail;go_end0;exact⟨az.out,HB1.out,⟨_,rfl⟩,HR.out⟩
theorem zsj{G:List PR->T->Prop}{g:Nat}(hS:IStC G g){C:RC}(hC:C.Ok){W:World}{r:RS}(h:RI C W r)(t:T)(v:Value)(back:Bool)(hv:NV C.w Any t v)(hk0:t.k=51)(i:Nat)(hi:prcI C.p.prs t.s=some i)(q:PR)(hq:C.p.prs[i]?=some q)(hG1:∀u∈q.b.ks,G C.p.prs u)
  (o:Out)(ho:caO C.p.prs C.F g (!back) i q (t.ks.map (·.s)) r=o)(hog:o ≠ .gas) :
  Calls prog 108 #[.pointer (some ⟨C.rb,0,none⟩),v,.bool back] W (RunP C W o):=by
 have aC:=hog
 cases back
 ·skip
  change caO C.p.prs C.F g true i q (t.ks.map (·.s)) r=o at ho;obtain⟨k,n,s,ks⟩:=t;obtain rfl:k=51:=hk0;obtain⟨A,c,rfl,-,hlk,hlc,-⟩:=hv.open_;have hb0:=zkb (zs W) (.cells #[zj 51,zi n,.string s,.slice A ks.length c] 28);obtain⟨x0,x1,x2,x3⟩:=box4 (yA W (.cells #[zj 51,zi n,.string s,.slice A ks.length c] 28));have aG:=zh (Kpt.of_below (n0:=C.n0) (kb:=C.kb) hb0);have aI:=zh (show Calls prog 139 #[.pointer (some ⟨C.rb,0,none⟩),.agg #[zj 51,zi n,.string s,.slice A ks.length c],.bool true] (W.alloc (.cells #[zj 51,zi n,.string s,.slice A ks.length c] 28)) (RunP C _ o)from ho▸(zoL hS hC (h.later hb0) _ _ true hv i hi q hq hG1 (ho▸hog)));clear hv hb0 h aC hG1 ho hi hq;go_enter func108,ntmps108;go_wp2_with fail;refine aI.out.mono ?_;rintro e w1 ⟨hk1,hb1,ho1⟩
  cases o with
  | gas=>exact absurd rfl hog
  | err x =>
   subst ho1;exact⟨rfl,aG.out.trans hk1,hb1,rfl⟩
  | ok r1 =>
   obtain⟨⟨u,rfl⟩,hr1⟩:=ho1;have HR:=zh hr1;have az:=zh (aG.out.trans hk1);have HB1:=zh hb1;clear x0 x1 x2 x3 hr1 hk1 hb1;go_wp2_with fail;go_end0;exact⟨az.out,HB1.out,⟨_,rfl⟩,HR.out⟩
 ·skip
  change caO C.p.prs C.F g false i q (t.ks.map (·.s)) r=o at ho;obtain⟨k,n,s,ks⟩:=t;obtain rfl:k=51:=hk0;obtain⟨A,c,rfl,-,hlk,hlc,-⟩:=hv.open_;have hb0:=zkb (zs W) (.cells #[zj 51,zi n,.string s,.slice A ks.length c] 28);obtain⟨x0,x1,x2,x3⟩:=box4 (yA W (.cells #[zj 51,zi n,.string s,.slice A ks.length c] 28));have aG:=zh (Kpt.of_below (n0:=C.n0) (kb:=C.kb) hb0);have aI:=zh (show Calls prog 139 #[.pointer (some ⟨C.rb,0,none⟩),.agg #[zj 51,zi n,.string s,.slice A ks.length c],.bool false] (W.alloc (.cells #[zj 51,zi n,.string s,.slice A ks.length c] 28)) (RunP C _ o)from ho▸(zoL hS hC (h.later hb0) _ _ false hv i hi q hq hG1 (ho▸hog)));clear hv hb0 h aC hG1 ho hi hq;go_enter func108,ntmps108;go_wp2_with fail;refine aI.out.mono ?_;rintro e w1 ⟨hk1,hb1,ho1⟩
  cases o with
  | gas=>exact absurd rfl hog
  | err x =>
   subst ho1;exact⟨rfl,aG.out.trans hk1,hb1,rfl⟩
  | ok r1 =>
   obtain⟨⟨u,rfl⟩,hr1⟩:=ho1;have HR:=zh hr1;have az:=zh (aG.out.trans hk1);have HB1:=zh hb1;clear x0 x1 x2 x3 hr1 hk1 hb1;go_wp2_with fail;go_end0;exact⟨az.out,HB1.out,⟨_,rfl⟩,HR.out⟩
structure GC(G:List PR->T->Prop):Prop where
 two:∀prs t,G prs t->(t.k=52\/t.k=53)->t.ks.length=4/\(∀u∈(kid t 1).ks,G prs u)/\∀u∈(kid t 2).ks,G prs u
 loc:∀prs t,G prs t->t.k=54->t.ks.length=3/\∀u∈(kid t 1).ks,G prs u
 stk:∀prs t,G prs t->t.k=55->t.ks.length=1/\∀u∈(kid t 0).ks,G prs u
 cal:∀prs t,G prs t->(t.k=50\/t.k=51)->∃i q,prcI prs t.s=some i/\prs[i]?=some q/\∀u∈q.b.ks,G prs u
theorem getD_some{prs:List PR}{i:Nat}{q:PR}(h:prs[i]?=some q):prs.getD i ⟨⟨#[]⟩,[],nil0⟩=q:=by
 rw[yI,h];rfl
theorem ztb{G:List PR->T->Prop}(hG:GC G):∀g,IStC G g
 | 0=>fun C hC W r h t v back hv vR hg=>absurd rfl hg
 | g+1=>fun C hC W r h t v back hv vR hg=>by
  have hS:=ztb hG g;by_cases dV:t.k=52
  ·obtain⟨h1,h2,h3⟩:=hG.two _ _ vR (.inl dV);have e:zkn C.p.prs C.F (g+1) back t r=brO C.p.prs C.F g back t r:=by rw[zkn,if_pos dV];rfl
   rw[e]at hg ⊢;exact zz1 hS hC h t v back hv dV h1 h2 h3 _ rfl hg
  by_cases eT:t.k=53
  ·obtain⟨h1,h2,h3⟩:=hG.two _ _ vR (.inr eT);have e:zkn C.p.prs C.F (g+1) back t r=lpO C.p.prs C.F g back t r:=by rw[zkn,if_neg dV,if_pos eT];rfl
   rw[e]at hg ⊢;exact zva hS hC h t v back hv eT h1 h2 h3 _ rfl hg
  by_cases bG:t.k=54
  ·obtain⟨h1,h2⟩:=hG.loc _ _ vR bG;have e:zkn C.p.prs C.F (g+1) back t r=loO C.p.prs C.F g back t r:=by rw[zkn,if_neg dV,if_neg eT,if_pos bG];rfl
   rw[e]at hg ⊢;exact zt7 hS hC h t v back hv bG h1 h2 _ rfl hg
  by_cases dm:t.k=55
  ·obtain⟨h1,h2⟩:=hG.stk _ _ vR dm;have e:zkn C.p.prs C.F (g+1) back t r=lsO C.p.prs C.F g back t r:=by rw[zkn,if_neg dV,if_neg eT,if_neg bG,if_pos dm];rfl
   rw[e]at hg ⊢;exact zz0 hS hC h t v back hv dm h1 h2 hg
  by_cases h5:t.k=50\/t.k=51
  ·obtain⟨i,q,hi,hq,hb⟩:=hG.cal _ _ vR h5;have e:zkn C.p.prs C.F (g+1) back t r=caO C.p.prs C.F g (back != decide (t.k=51)) i q (t.ks.map (·.s)) r:=by
    rw[zkn,if_neg dV,if_neg eT,if_neg bG,if_neg dm,if_pos h5,hi];dsimp only;rw[getD_some hq];rfl
   rw[e]at hg ⊢;rcases h5 with h50|lU
   ·have e2:(back != decide (t.k=51))=back:=by rw[show decide (t.k=51)=false by simp[h50]];cases back<;>rfl
    rw[e2]at hg ⊢;exact zsk hS hC h t v back hv h50 i hi q hq hb _ rfl hg
   ·have e2:(back != decide (t.k=51)) = !back:=by rw[show decide (t.k=51)=true by simp[lU]];cases back<;>rfl
    rw[e2]at hg ⊢;exact zsj hS hC h t v back hv lU i hi q hq hb _ rfl hg
  ·have e:zkn C.p.prs C.F (g+1) back t r=basO C.F back t r:=by
    rw[zkn,if_neg dV,if_neg eT,if_neg bG,if_neg dm,if_neg h5];rfl
   rw[e];exact zxJ hC h t v back hv ⟨dV,eT,bG,dm,fun h=>h5 (.inl h),fun h=>h5 (.inr h)⟩
theorem zty(jb:Nat)(w:World)(h:w.cell? ⟨jb,0,none⟩=some zn):Calls prog 105 #[.pointer (some ⟨jb,0,none⟩)] w fun e w'=>e=.returned (zi 0)/\w'=w:=by
 go_enter func105,ntmps105;go_wp2_with fail;go_ret;exact⟨rfl,rfl⟩
theorem zLH:IsFn prog 105 f105:=⟨func105,zK,zK⟩
theorem zzM{P:Program}{c:Code}{Q Q':Exit->Act->World->Prop}{a:Act}{w:World}(h:c.wp P Q a w)(hQ:∀e a' w',Q e a' w'->Q' e a' w'):c.wp P Q' a w :=
 fun b k cs=>let ⟨e,a',w',q,r⟩:=h b k cs;⟨e,a',w',hQ _ _ _ q,r⟩
theorem zKd(C:World->Prop):∃Q:Exit->Act->World->Prop,(∀a' w',a'.defers=[]->C w'->Q .normal a' w')/\∀e a' w',Q e a' w'->e=.normal/\a'.defers=[]/\C w' :=
 ⟨fun e a' w'=>e=.normal/\a'.defers=[]/\C w',fun _ _ h1 h2=>⟨rfl,h1,h2⟩,fun _ _ _ h=>h⟩
theorem tAss(x:Int)(w:World):(Instr.typeAssert (.iface 175 (.agg #[zi x])) 20 175 true).run prog w=.ok (.tuple #[.agg #[zi x],.bool true]) w:=zK
theorem zyX(a b c:Value)(w:World) :
  CallsD prog 106 #[a,b,c] .returning w fun e u' w'=>e=.returned (.tuple #[])/\u'=.returning/\w'=w:=by
 refine callsD_of_wpS func106 rfl fun c₀ cs hu=>?_;apply wpS_seq;apply wpS_region;simp[wpOpsS,go_sem,recoverD,hu,ntmps106,Exit.thenS];apply wpS_seq;apply wpS_seq;apply wpS_region;simp[wpOpsS,go_sem,Exit.thenS];refine wpS_cond (t:=true) (by simp[Act.eval,Array.replicate]) ?_;simp only[if_true];refine wpS_of_wp (wp_ret ?_)
 cases c₀
 simp_all [bodyPostS,results,results106,Exit.thenS]
theorem zwR(a2 a5 a4 jb:Nat)(x y:Int)(w:World)(h2:w.cell? ⟨a2,0,none⟩=some (.pointer (some ⟨jb,0,none⟩)))(h5:w.cell? ⟨a5,0,none⟩=some (zi 0))(hj:w.cell? ⟨jb,0,none⟩=some zn)(h4:w.cell? ⟨a4,0,none⟩=some (zi y))(hf:w.frozen? ⟨a4,0,none⟩=false) :
  CallsD prog 106 #[.pointer (some ⟨a2,0,none⟩),.pointer (some ⟨a5,0,none⟩),.pointer (some ⟨a4,0,none⟩)] (.panicking [{ v:=.iface 175 (.agg #[zi x]),recovered:=false }]) w fun e u' w' =>
   e=.returned (.tuple #[])/\u'=.panicking [{ v:=.iface 175 (.agg #[zi x]),recovered:=true }]/\w'.cell? ⟨a4,0,none⟩=some (zi x)/\Chg (fun b=>b=a4) w w':=by
 refine callsD_of_wpS func106 rfl fun c₀ cs hu=>?_;apply wpS_seq;apply wpS_region;simp[wpOpsS,go_sem,recoverD,hu,ntmps106,Exit.thenS];apply wpS_seq;apply wpS_seq;apply wpS_region;simp[wpOpsS,go_sem,Exit.thenS];refine wpS_cond (t:=false) (by simp[Act.eval,Array.replicate]) ?_;simp only[Bool.false_eq_true,if_false];refine wpS_of_wp (wp_skip ?_);refine wpS_of_wp ?_;obtain⟨Q,vP,hQ2⟩:=zKd (fun w'=>w'.cell? ⟨a4,0,none⟩=some (zi x)/\Chg (fun b=>b=a4) w w');refine zzM (Q:=Q) ?_ ?_;rotate_left 1
 ·intro e a' w' hq;obtain⟨rfl,h1,h2⟩:=hQ2 _ _ _ hq
  cases c₀
  simp_all [bodyPostS,results,results106,Exit.thenS]
 have HQ:=zh vP;clear vP hQ2 hu;refine Eq.mp (congrArg (fun t=>Code.wp prog _ Q ⟨t,[]⟩ w) (?e:(#[.pointer (some ⟨a2,0,none⟩),.pointer (some ⟨a5,0,none⟩),.pointer (some ⟨a4,0,none⟩),.iface 175 (.agg #[zi x]),undef,undef,.iface 175 (.agg #[zi x]),.iface 175 (.agg #[zi x]),.bool false,undef,undef,undef,undef,undef,undef,undef,undef,undef,undef,undef,undef,undef,undef,undef,undef,undef]:Array Value)=_)) ?_
 case e=>kernel_rfl
 go_upto_region 2 with fail;have HS:=zh (show ∀w',zw w w'->(fun w':World=>zv w' a2 0 (.pointer (some ⟨jb,0,none⟩))/\zv w' a5 0 (zi 0)) w' from fun w' hb=>⟨zb hb h2,zb hb h5⟩);have oH:=zh (fun w' (hb:zw w w')=>zty jb w' (zb hb hj));have hSS:zW (fun w':World=>zv w' a2 0 (.pointer (some ⟨jb,0,none⟩))/\zv w' a5 0 (zi 0)) zU w.drew:=⟨HS.out _ zr.drew,trivial⟩
 refine wp_region_noPanic ?_;refine zG hSS 3 ?_;refine zT 0 hSS ?_;refine zT 2 hSS ?_;have had:Calls prog 105 [.pointer (some ⟨jb,0,none⟩)].toArray w.drew fun e w'=>∃v,e=.returned v/\(v=zi 0/\w'=w.drew):=(oH.out _ zr.drew).mono fun e w' ⟨h1,h2⟩=>⟨_,h1,rfl,h2⟩
 refine zo 1 fun K hK=>?_;refine zkf zR (.func 105) [.tmp 9] _ zR 105 _ zLH zR _ zR _ had ?_;rintro v1 w1 ⟨rfl,rfl⟩;refine hK.out _ _ hSS ?_;clear hK K had;(try simp only[zQ]);refine zp 3 fun K hK=>?_;(try simp only[zA,zB,zC]);go_simp;refine hK.out _ _ hSS.1 ?_;clear hK K;(try simp only[zQ]);refine zd ?_;refine NoPanic.normal ?_;clear hSS HS oH;have ht:=fun w=>tAss x w;obtain⟨w1,hw1⟩:=zX (w.drew);have hb1:zw w w1:=hw1▸zr.drew;have g4:=zb hb1 h4;have gf:w1.frozen? ⟨a4,0,none⟩=false:=hw1▸hf;have hlt:a4<w1.heap.size:=World.block_lt_of_cell? w1 _ g4;have z4:=zkk g4 (.cells #[zi x] 175);have HB1:=zh hb1;rw[hw1];clear h2 h5 hj h4 hf hw1 hb1;go_wp2_with fail;have hch:=(Chg.refl (fun b=>b=a4) w1).setCell (p:=⟨a4,0,none⟩) (.inl rfl) (zi x)
 exact HQ.out _ _ rfl ⟨zkk (by simp[go_sem,g4]) _,(Chg.of_below HB1.out).trans (hch.alloc _)⟩
def AttP(W:World)(R:World->Prop)(X:Int->World->Prop)(e:Ending)(w':World):Prop :=
 (e=.returned (zi 0)/\∃w1,R w1/\Chg (fun b=>W.heap.size<=b/\b<W.heap.size+3) w1 w')\/∃x,e=.returned (zi x)/\∃w1,X x w1/\Chg (fun b=>W.heap.size<=b/\b<W.heap.size+3) w1 w'
theorem zs1(jb:Nat)(f:FuncId)(fn:Func)(hf:IsFn prog f fn)(caps:Array Value)(W:World)(hj:W.heap[jb]?=some (.cells #[zn,.bool false] 132 (0,0)))(R:World->Prop)(X:Int->World->Prop)
  (hact:∀W1,zw W W1->W1.heap.size=W.heap.size+3->Calls prog f caps W1 fun e w'=>(∀b,(W.heap.size<=b\/b=jb)->b<W1.heap.size->w'.heap[b]?=W1.heap[b]?)/\(((∃u,e=.returned u)/\R w')\/∃x,e=zlW x/\X x w')) :
  Calls prog 74 #[.pointer (some ⟨jb,0,none⟩),.func (.func f) #[] caps] W (AttP W R X):=by
 have yt:∀(fn:Fn) (first cap:Array Value) (w:World),(Instr.makeFunc fn first cap).run prog w=.ok (.func fn first cap) w:=fun _ _ _ _=>rfl;have hnf:∀w:World,(binOp BinOp.eql 1 (.func (.func f) #[] caps) .nilFunc).run prog w=.ok (.bool false) w:=fun _=>zK
 have HJ:=zh hj;have hjl:=zke hj;have HA:=zh hact;have hLE:=fun w' (hb:zw W w')=>zty jb w' (zb hb (zc hj rfl));have oH:=zh hLE;clear hj hact hLE
 go_enter_defers func74,ntmps74
 go_wp2_with fail;refine(oH.out _ (zkb (zkb zr _) _)).mono ?_;rintro e w1 ⟨rfl,rfl⟩;go_wp2_with fail;rw[zkJ hf,Oper.upon_enter];have k0:=zkd (zkd (yA W (.cells #[.pointer (some ⟨jb,0,none⟩)] 129)) (.cells #[zi 0] 35)) (.cells #[zi 0] 3);have k1:=zkd (yA (W.alloc (.cells #[.pointer (some ⟨jb,0,none⟩)] 129)) (.cells #[zi 0] 35)) (.cells #[zi 0] 3);have k2:=yA ((W.alloc (.cells #[.pointer (some ⟨jb,0,none⟩)] 129)).alloc (.cells #[zi 0] 35)) (.cells #[zi 0] 3);have kj:=zkd (zkd (zkd HJ.out (.cells #[.pointer (some ⟨jb,0,none⟩)] 129)) (.cells #[zi 0] 35)) (.cells #[zi 0] 3);have hb3:=zkb (zkb (zkb (zs W) (.cells #[.pointer (some ⟨jb,0,none⟩)] 129)) (.cells #[zi 0] 35)) (.cells #[zi 0] 3);simp only[yS]at k1 k2
 obtain⟨w3,hw3⟩:=zX (((W.alloc (.cells #[.pointer (some ⟨jb,0,none⟩)] 129)).alloc (.cells #[zi 0] 35)).alloc (.cells #[zi 0] 3));have hz3:w3.heap.size=W.heap.size+3:=by rw[<-hw3];simp
 rw[hw3]at k0 k1 k2 kj hb3 ⊢;clear hw3;refine(HA.out w3 hb3 hz3).mono ?_;rintro e w2 ⟨hk,h⟩;have q0:=(hk _ (.inl zl) zO).trans k0;have q1:=(hk _ (.inl (Nat.le_succ _)) zO).trans k1;have q2:=(hk _ (.inl zO) zO).trans k2;have qj:=(hk _ (.inr rfl) zO).trans kj;clear k0 k1 k2 kj hk hb3;rcases h with⟨⟨u,rfl⟩,hR⟩|⟨x,rfl,hX⟩
 ·have c1:w2.cell? ⟨W.heap.size+1,0,none⟩=some (zi 0):=zc q1 rfl;have f1:∀o,w2.frozen? ⟨W.heap.size+1,o,none⟩=false:=fun _=>zf q1;have HRR:=zh hR;clear q0 q2 qj oH HA hR;go_wp2_with fail;refine leaves_cons (f:=106) (args := #[.pointer (some ⟨W.heap.size,0,none⟩),.pointer (some ⟨W.heap.size+1+1,0,none⟩),.pointer (some ⟨W.heap.size+1,0,none⟩)]) zS (by simp[go_sem]) ?_;refine(zyX _ _ _ _).mono ?_;rintro e u' w'' ⟨rfl,rfl,rfl⟩;have hch:=(Chg.refl (fun b=>W.heap.size<=b/\b<W.heap.size+3) w2).setCell (p:=⟨W.heap.size+1,0,none⟩) (.inl ⟨Nat.le_succ _,zS⟩) (zi 0);have hc2:(w2.setCell ⟨W.heap.size+1,0,none⟩ (zi 0)).cell? ⟨W.heap.size+1,0,none⟩=some (zi 0):=by simp[go_sem,c1]
  have HP:AttP W R X (.returned (zi 0)) (w2.setCell ⟨W.heap.size+1,0,none⟩ (zi 0)):=.inl ⟨rfl,w2,HRR.out,hch⟩;simp[Leaves,settle,results,results74,go_sem,hc2,HP]
 ·have p0:w2.cell? ⟨W.heap.size,0,none⟩=some (.pointer (some ⟨jb,0,none⟩)):=zc q0 rfl;have p1:w2.cell? ⟨W.heap.size+1,0,none⟩=some (zi 0):=zc q1 rfl;have p2:w2.cell? ⟨W.heap.size+1+1,0,none⟩=some (zi 0):=zc q2 rfl;have pj:w2.cell? ⟨jb,0,none⟩=some zn:=zc qj rfl;have f1:w2.frozen? ⟨W.heap.size+1,0,none⟩=false:=zf q1;refine leaves_cons (f:=106) (args := #[.pointer (some ⟨W.heap.size,0,none⟩),.pointer (some ⟨W.heap.size+1+1,0,none⟩),.pointer (some ⟨W.heap.size+1,0,none⟩)]) zS (by simp[go_sem]) ?_;refine(zwR _ _ _ jb x 0 _ p0 p2 pj p1 f1).mono ?_;rintro e u' w'' ⟨rfl,rfl,hc2,hch⟩;have HP:AttP W R X (.returned (zi x)) w'':=.inr ⟨x,rfl,w2,hX,hch.mono fun b _ e=>zO⟩;simp[Leaves,settle,results,results74,go_sem,hc2,HP]
theorem zvs:∀(prs:List PR) (s:ByteArray),prcI prs s=idxP prs s
 | [],_=>rfl
 | q::qs,s=>by
  unfold prcI;rw[zvs qs s];unfold idxP;rw[List.findIdx?_cons]
def CalB(prs:List PR)(t:T):Prop:=∀u∈po t,(u.k=50\/u.k=51)->∃i,prcI prs u.s=some i
theorem zv1:∀(t:T),isE t=true->∀x∈po t,isE x=true:=by
 intro t
 induction t using T.ind with
 | _ k n s ks ih =>
  intro h x hx;simp only[po,List.mem_cons]at hx;rcases hx with rfl|hx
  ·exact h
  ·obtain⟨t,ht,hx⟩:=zlH.1 hx;exact ih t ht (zoF h t ht) x hx
theorem CalB.expr{prs:List PR}{t:T}(h:isE t=true):CalB prs t:=fun u hu hk=>by
 have:=zry u (zv1 t h u hu);omega
theorem CalB.kid{prs:List PR}{k n:Int}{s:ByteArray}{ks:List T}(h:CalB prs (.nd k n s ks)){t:T}(ht:t∈ks):CalB prs t:=fun u hu=>h u (by simp only[po,List.mem_cons];exact .inr (zlH.2 ⟨t,ht,hu⟩))
theorem zm3{prs:List PR}{k:Int}{s:ByteArray}{vs:List VD}:∀ {ks:List T} {i:Nat},cntK prs k s i ks vs=0->∀t∈ks,∃vs',cntV prs t vs'=0
 | [],_,_,t,ht=>by cases ht
 | u::us,i,h,t,ht=>by
  rw[cntK]at h;obtain⟨h1,h2⟩:=yG1.1 h;rcases List.mem_cons.1 ht with rfl|ht
  ·exact⟨_,h1⟩
  ·exact zm3 h2 t ht
theorem zo8{e:Int}(h:one1 e=0):e=0:=by
 unfold one1 at h
 split at h
 ·assumption
 ·omega
theorem zzD:∀(t:T) (prs:List PR) (vs:List VD),(isS t=true\/isB t=true\/isE t=true)->cntV prs t vs=0->CalB prs t:=by
 intro t
 induction t using T.ind with
 | _ k n s ks ih =>
  intro prs vs ht h;rcases ht with hs|hb|he
  ·rw[cntV]at h;intro u hu hk;simp only[po,List.mem_cons]at hu;by_cases hc:k=50\/k=51
   ·rcases hu with rfl|hu
    ·have h0:=zo8 (e:=zlz prs k s ks.length vs) zO;unfold zlz at h0;rw[if_neg zO,if_neg zO,if_neg zO,if_neg zO,if_pos hc]at h0;rw[zvs]
     cases hi:idxP prs s with
     | none=>rw[hi]at h0;simp at h0
     | some i=>exact⟨i,hi⟩
    ·obtain⟨t,ht,hx⟩:=zlH.1 hu;have h57:t.k≠57:=by
      rcases zl8 hs with⟨_,h1⟩|⟨h1,_⟩|⟨h1,_⟩|⟨h1,_⟩
      ·exact h1 t ht
      all_goals omega
     rcases(zrw hs).2 t ht with h1|h1
     ·exact CalB.expr h1 u hx hk
     ·exact absurd (zv2 h1) h57
   ·rw[if_neg hc]at h;rcases hu with rfl|hu
    ·exact absurd hk hc
    ·obtain⟨t,ht,hx⟩:=zlH.1 hu;obtain⟨vs',hv⟩:=zm3 (yG1.1 h).2 t ht;rcases(zrw hs).2 t ht with h1|h1
     ·exact CalB.expr h1 u hx hk
     ·exact ih t ht prs vs' (.inr (.inl h1)) hv u hx hk
  ·obtain⟨h57,hks⟩:=znS _ _ _ _ hb;rw[cntV,if_neg zO]at h;intro u hu hk;simp only[po,List.mem_cons]at hu;rcases hu with rfl|hu
   ·simp only[T.k_nd]at hk;omega
   ·obtain⟨t,ht,hx⟩:=zlH.1 hu;obtain⟨vs',hv⟩:=zm3 (yG1.1 h).2 t ht;exact ih t ht prs vs' (.inl (hks t ht)) hv u hx hk
  ·exact CalB.expr he
def GP(prs:List PR)(t:T):Prop:=isS t=true/\CalB prs t/\∀q∈prs,isB q.b=true/\CalB prs q.b
theorem GP.block{prs:List PR}{b:T}(hb:isB b=true)(hc:CalB prs b)(hq:∀q∈prs,isB q.b=true/\CalB prs q.b):∀u∈b.ks,GP prs u:=by
 obtain⟨k,n,s,ks⟩:=b;exact fun u hu=>⟨(znS _ _ _ _ hb).2 u hu,hc.kid hu,hq⟩
theorem zsZ:GC GP where
 two:=fun prs t h hk=>by
  obtain⟨k,n,s,ks⟩:=t;obtain⟨hs,hc,hq⟩:=h;simp only[T.k_nd]at hk;rcases zl8 hs with⟨h1,_⟩|⟨_,_,a,b,c,d,rfl,_,hb1,hb2,_⟩|⟨h1,_⟩|⟨h1,_⟩
  ·omega
  ·exact⟨rfl,GP.block hb1 (hc.kid (t:=b) zS) hq,GP.block hb2 (hc.kid (t:=c) zS) hq⟩
  ·omega
  ·omega
 loc:=fun prs t h hk=>by
  obtain⟨k,n,s,ks⟩:=t;obtain⟨hs,hc,hq⟩:=h;simp only[T.k_nd]at hk;rcases zl8 hs with⟨h1,_⟩|⟨h1,_⟩|⟨_,_,a,b,c,rfl,_,hb1,_⟩|⟨h1,_⟩
  ·omega
  ·omega
  ·exact⟨rfl,GP.block hb1 (hc.kid (t:=b) zS) hq⟩
  ·omega
 stk:=fun prs t h hk=>by
  obtain⟨k,n,s,ks⟩:=t;obtain⟨hs,hc,hq⟩:=h;simp only[T.k_nd]at hk;rcases zl8 hs with⟨h1,_⟩|⟨h1,_⟩|⟨h1,_⟩|⟨_,_,b,rfl,hb1⟩
  ·omega
  ·omega
  ·omega
  ·exact⟨rfl,GP.block hb1 (hc.kid (t:=b) zS) hq⟩
 cal:=fun prs t h hk=>by
  obtain⟨hs,hc,hq⟩:=h;have hm:t∈po t:=by obtain⟨k,n,s,ks⟩:=t;simp[po]
  obtain⟨i,hi⟩:=hc t hm hk;obtain⟨-,hl⟩:=zqx _ _ _ hi;exact⟨i,prs[i],hi,yC hl,GP.block (hq _ (yE hl)).1 (hq _ (yE hl)).2 hq⟩
theorem zo4{ps:List PR}:∀ {j:Nat},j<=ps.length->prcN ps j=0->∀i (h:i<ps.length),i<j->prcE ps i ps[i]=0
 | 0,_,_,i,_,hi=>zO
 | j+1,hj,h,i,hl,hi=>by
  rw[zo5 zO]at h;by_cases e:i=j
  ·subst e;omega
  ·exact zo4 (j:=j) zO zO i hl zO
theorem zoR{p:PG}(h:zkR p=true):isB p.m=true/\∀r∈p.prs,isB r.b=true:=by
 simp only[zkR,Bool.and_eq_true,yK1,List.all_eq_true]at h;refine⟨?_,fun r hr=>?_⟩
 ·have:=h.2;simp only[zla,Bool.and_eq_true]at this;exact this.2
 ·have:=h.1.2 r hr;simp only[zo3,zla,Bool.and_eq_true]at this;exact this.2.2
theorem zqY{p:PG}(hv:zkR p=true)(hc:chkN p=0):∀u∈p.m.ks,GP p.prs u:=by
 obtain⟨h1,h2⟩:=zoR hv;unfold chkN at hc;refine GP.block h1 (zzD _ _ p.vs (.inr (.inl h1)) zO) fun q hq=>⟨h2 q hq,?_⟩
 obtain⟨i,hi,rfl⟩:=yN1 hq;have:=zo4 zl (show prcN p.prs p.prs.length=0 by omega) i hi hi;unfold prcE at this;exact zzD _ _ _ (.inr (.inl (h2 _ hq))) (show cntV p.prs p.prs[i].b p.prs[i].ps=0 by omega)
theorem zLC(M a b r s g:Nat)(h1:a<=b)(h2:s<=r)(hg:b*M+r<=g):a*M+s<=g:=by have:=Nat.mul_le_mul_right M h1;omega
theorem zte{p:PG}{F:Int}{g:Nat}(hv:zkR p=true)(hg:F.toNat*2000+2000<=g)(back:Bool)(S:ST)(e:List Nat):Good 0 (runO p.prs F g back p.m ⟨S,0,e⟩):=by
 obtain⟨_,_,h3,_,h5⟩:=zli hv;refine zl3 _ _ fun u hu r hr=>zmz (M:=2000) (fun q hq=>(h3 q hq).2.2) zO g back u r ?_;have h6:=zqB (zkD hu);exact zLC 2000 (F.toNat-r.n) F.toNat 2000 _ g zO zO hg
def Nz(o:Out):Prop:=o ≠ .err 0
theorem Nz.bind{o:Out}{f:RS->Out}(h:Nz o)(hf:∀r,Nz (f r)):Nz (o.bind f):=by
 cases o with
 | gas=>exact fun e=>by cases e
 | err x=>exact h
 | ok r=>exact hf r
theorem Nz.ok(r:RS):Nz (.ok r):=fun e=>by cases e
theorem Nz.gas:Nz .gas:=fun e=>by cases e
theorem Nz.step(F:Int)(r:RS):Nz (zkw F r):=by
 unfold zkw
 split
 ·intro e;injection e with e;omega
 ·exact Nz.ok _
theorem Nz.store(r:RS)(R:Int×ST):Nz (zkh r R):=by
 unfold zkh
 split
 ·rename_i h;intro e;injection e with e;exact h e
 ·exact Nz.ok _
theorem Nz.val{t:T}{r:RS}{f:Int->RS->Out}(hf:∀x,Nz (f x r)):Nz (valO t r f):=by
 unfold valO
 split
 ·rename_i h;intro e;injection e with e;exact h e
 ·exact hf _
theorem Nz.holds{F:Int}{t:T}{r:RS}{f:Bool->RS->Out}(hf:∀b r,Nz (f b r)):Nz (zk6 F t r f):=(Nz.step F r).bind fun r=>Nz.val fun x=>hf _ _
theorem Nz.assert(F:Int)(t:T)(b:Bool)(r:RS):Nz (zko F t b r):=Nz.holds fun b' r=>by
 split
 ·exact Nz.ok _
 ·intro e;injection e with e;omega
theorem Nz.body{f:T->RS->Out}:∀(l:List T) (r:RS),(∀t∈l,∀r,Nz (f t r))->Nz (zkt f l r)
 | [],r,_=>Nz.ok r
 | t::ts,r,h=>(h t (yY ..) r).bind fun r=>Nz.body ts r fun u hu=>h u (yA1 _ hu)
theorem Nz.loop{F:Int}{f:T->RS->Out}{entry test:T}{l1 l2:List T}(h1:∀t∈l1,∀r,Nz (f t r))(h2:∀t∈l2,∀r,Nz (f t r)):∀(m:Nat) (r:RS),Nz (zle F f entry test l1 l2 m r)
 | 0,_=>Nz.gas
 | m+1,r=>by
  rw[zle];refine(Nz.body l1 r h1).bind fun r=>Nz.holds fun b r=>?_
  split
  ·exact Nz.ok _
  ·exact(Nz.body l2 r h2).bind fun r=>(Nz.assert F entry false r).bind fun r=>Nz.loop h1 h2 m r
theorem zoI{G:List PR->T->Prop}(hG:GC G){prs:List PR}{F:Int}:∀(g:Nat) (back:Bool) (t:T) (r:RS),G prs t->Nz (zkn prs F g back t r)
 | 0,_,_,_,_=>Nz.gas
 | g+1,back,t,r,h=>by
  have hb:∀back (b:T) r,(∀u∈b.ks,G prs u)->Nz (zkt (zkn prs F g back) (blkL back b) r):=fun back b r hu=>Nz.body _ r fun u hm r=>zoI hG g back u r (hu u (zkD hm));rw[zkn]
  split
  ·rename_i hk;obtain⟨-,h1,h2⟩:=hG.two _ _ h (.inl hk);refine Nz.holds fun yes r=>Nz.bind ?_ fun r=>Nz.assert _ _ _ _
   split
   ·exact hb _ _ _ h1
   ·exact hb _ _ _ h2
  ·split
   ·rename_i hk;obtain⟨-,h1,h2⟩:=hG.two _ _ h (.inr hk);exact(Nz.assert _ _ _ _).bind fun r=>Nz.loop (fun u hm r=>zoI hG g back u r (h1 u (zkD hm))) (fun u hm r=>zoI hG g back u r (h2 u (zkD hm))) g r
   ·split
    ·rename_i hk;obtain⟨-,h1⟩:=hG.loc _ _ h hk;exact(Nz.step _ _).bind fun r=>Nz.val fun x=>(Nz.store _ _).bind fun r=>(hb _ _ _ h1).bind fun r=>(Nz.step _ _).bind fun r=>Nz.val fun x=>Nz.store _ _
    ·split
     ·rename_i hk;obtain⟨-,h1⟩:=hG.stk _ _ h hk;exact(Nz.step _ _).bind fun r=>(Nz.store _ _).bind fun r=>(hb _ _ _ h1).bind fun r=>(Nz.step _ _).bind fun r=>Nz.store _ _
     ·split
      ·rename_i hk;obtain⟨i,q,hi,hq,h1⟩:=hG.cal _ _ h hk;rw[hi];dsimp only;rw[getD_some hq];exact(Nz.step _ _).bind fun r=>(Nz.store _ _).bind fun r=>(hb _ _ _ h1).bind fun r=>(Nz.step _ _).bind fun r=>Nz.store _ _
      ·exact(Nz.step _ _).bind fun r=>Nz.store _ _
theorem zvi{G:List PR->T->Prop}(hG:GC G){prs:List PR}{F:Int}{g:Nat}{back:Bool}{b:T}{r:RS}(h:∀u∈b.ks,G prs u):Nz (runO prs F g back b r):=Nz.body _ r fun u hm r=>zoI hG g back u r (h u (zkD hm))
theorem RI.chgK{C:RC}{lo hi:Nat}{W W':World}{r:RS}(hC:(C.plus lo hi).Ok)(h:RI (C.plus lo hi) W r)(hc:Chg (fun b=>lo<=b/\b<hi) W W')(hlo:C.w.heap.size<=lo):RI (C.plus lo hi) W' r:=by
 have hkb:∀b,lo<=b/\b<hi->(C.plus lo hi).kb b:=fun b hb=>.inr hb;refine⟨h.ks.chg hc fun b _ hb=>⟨yB1 hlo hb.1,.inr (.inl (hkb b hb))⟩,hc.keep h.box fun hb=>hC.rb.2 (hkb _ hb),zo7 h.ent fun b hb=>?_,h.el,h.en,h.n,h.fb⟩;exact hc.block b (h.ent.lt b hb).2 fun hb'=>hC.ev.2 b hb (hkb _ hb')
def Fam(p:PG):Prop:=∃G:List PR->T->Prop,(∀g,IStC G g)/\(zkR p=true->chkN p=0->(∀u∈p.m.ks,G p.prs u)/\∀(F:Int) (g:Nat) (back:Bool) (r:RS),Nz (runO p.prs F g back p.m r))
theorem zKE(p:PG):Fam p:=⟨GP,ztb zsZ,fun hv hc=>⟨zqY hv hc,fun _ _ _ _=>zvi zsZ (zqY hv hc)⟩⟩
theorem zt8{G:List PR->T->Prop}(hS:∀g,IStC G g){C:RC}(hC:C.Ok){W:World}{r:RS}(h:RI C W r)(hG:∀u∈C.p.m.ks,G C.p.prs u)(g:Nat)(back:Bool)(hg:runO C.p.prs C.F g back C.p.m r ≠ .gas)(pb qb bb:Nat)
  (h0:W.cell? ⟨pb,0,none⟩=some (.pointer (some ⟨C.rb,0,none⟩)))(hq:W.heap[qb]?=some (.cells #[.slice C.A1 C.p.vs.length C.c1,.slice C.A2 C.p.prs.length C.c2,zj C.p.m.k,zi C.p.m.n,.string C.p.m.s,.slice C.A3 C.p.m.ks.length C.c3] 30 (0,0)))(hb:W.cell? ⟨bb,0,none⟩=some (.bool back)) :
  Calls prog 75 #[.pointer (some ⟨pb,0,none⟩),.pointer (some ⟨qb,0,none⟩),.pointer (some ⟨bb,0,none⟩)] W (RunP C W (runO C.p.prs C.F g back C.p.m r)):=by
 have av:=zh (zly (hS g) hC h C.p.m _ back hC.pg.main hG hg);have q2:W.cell? ⟨qb,2,none⟩=some (zj C.p.m.k):=zc hq rfl;have q3:W.cell? ⟨qb,3,none⟩=some (zi C.p.m.n):=zc hq rfl;have q4:W.cell? ⟨qb,4,none⟩=some (.string C.p.m.s):=zc hq rfl;have q5:W.cell? ⟨qb,5,none⟩=some (.slice C.A3 C.p.m.ks.length C.c3):=zc hq rfl;obtain⟨o,ho⟩:=zX (runO C.p.prs C.F g back C.p.m r);rw[ho]at av hg ⊢;clear hC h hG hq ho;go_enter func75,ntmps75;go_wp2_with fail;refine av.out.mono ?_;rintro e w1 ⟨hk1,hb1,ho1⟩
 cases o with
 | gas=>exact absurd rfl hg
 | err x =>
  subst ho1;exact⟨rfl,hk1,hb1,rfl⟩
 | ok r1 =>
  obtain⟨⟨u,rfl⟩,hr1⟩:=ho1;have HR:=zh hr1;have az:=zh hk1;have HB1:=zh hb1;clear h0 q2 q3 q4 q5 hb hr1 hk1 hb1;go_wp2_with fail;go_end0;exact⟨az.out,HB1.out,⟨_,rfl⟩,HR.out⟩
def outR(s:SS):Out->SS×Nat×Int×List Nat
 | .ok r=>(r.S.state,r.n,0,r.ent)
 | .err e=>(s,0,e,[])
 | .gas=>(s,0,0,[])
def resO(p:PG)(s:SS)(F:Int)(g:Nat)(back:Bool):SS×Nat×Int×List Nat :=
 if zkR p=false\/chkN p≠0 then(s,0,3,[])else if fitB p.vs s=false then(s,0,20,[])else outR s (runO p.prs F g back p.m ⟨newS p.vs s,0,List.replicate p.prs.length 0⟩)
def LimR(R:SS×Nat×Int×List Nat):Prop:=R.1.Lim/\(R.2.2.1=0->R.1.cells.length<=1000+R.2.1/\(∀l∈R.1.cells,l.length<=1000)/\R.1.tin.length<=4096/\R.1.tout.length<=4096)
theorem LimR.run{r:RS}(h:r.S.WF)(hf:FB r.n r.S)(e:List Nat):LimR (r.S.state,r.n,0,e):=by
 obtain⟨-,h1,h2⟩:=zve h;obtain⟨kd,hb,-⟩:=h.ex;refine⟨h1,fun _=>⟨?_,h2,h.tin.1,h.tout.1⟩⟩;have:=hb.len;have:=hf.1;simp only[ST.state,List.length_map,List.length_take];omega
def ResP(W:World)(R:SS×Nat×Int×List Nat)(e:Ending)(W':World):Prop:=∃A c v1 v2 v3,e=.returned (.tuple #[.slice A R.2.2.2.length c,.agg #[v1,v2,v3,zi (R.2.1:Int),zi R.2.2.1]]) /\
 OwnS W' W.heap.size R.1 (.agg #[v1,v2,v3])/\RowI W' (fun b=>W.heap.size<=b) A (R.2.2.2.map Int.ofNat)/\R.2.2.2.length<=c/\zw W W'/\LimR R
theorem OwnS.slices{W:World}{n0:Nat}{s:SS}{v:Value}(h:OwnS W n0 s v):∃A c B d D e,v=.agg #[.slice A s.cells.length c,.slice B s.tin.length d,.slice D s.tout.length e]:=by
 obtain⟨vc,vi,vo,fc,rfl,hr,-⟩:=h;obtain⟨A,c,e1,-⟩:=zki (hr.row .all);obtain⟨B,d,e2,-⟩:=zki (hr.row .inp);obtain⟨D,e,e3,-⟩:=zki (hr.row .out);change vc=.slice A s.cells.length c at e1;change vi=.slice B s.tin.length d at e2;change vo=.slice D s.tout.length e at e3;exact⟨A,c,B,d,D,e,by rw[e1,e2,e3]⟩
theorem OwnS.chg{W W':World}{n0:Nat}{s:SS}{v:Value}{Cc:Nat->Prop}(h:OwnS W n0 s v)(hc:Chg Cc W W')(hC:∀b,Cc b->b<n0):OwnS W' n0 s v:=by
 obtain⟨vc,vi,vo,fc,rfl,hr,hi⟩:=h;exact⟨vc,vi,vo,fc,rfl,hr.chg hc fun i b hb hcb=>by have:=(hr.lt i b hb).1;have:=hC b hcb;omega,hi⟩
theorem OwnS.lower{W:World}{n0 n1:Nat}{s:SS}{v:Value}(h:OwnS W n1 s v)(hn:n0<=n1):OwnS W n0 s v:=by
 obtain⟨vc,vi,vo,fc,rfl,hr,hi⟩:=h;exact⟨vc,vi,vo,fc,rfl,hr.mono hn,hi⟩
theorem set5{W:World}{b:Nat}{x0 x1 x2 x3 x4 u0 u1 u2 u3 u4:Value}{E:TypeId}(h:W.heap[b]?=some (.cells #[x0,x1,x2,x3,x4] E (0,0))) :
  (((((W.setCell ⟨b,0,none⟩ u0).setCell ⟨b,1,none⟩ u1).setCell ⟨b,2,none⟩ u2).setCell ⟨b,3,none⟩ u3).setCell ⟨b,4,none⟩ u4).heap[b]?=some (.cells #[u0,u1,u2,u3,u4] E (0,0)) /\
   Chg (fun q=>q=b) W (((((W.setCell ⟨b,0,none⟩ u0).setCell ⟨b,1,none⟩ u1).setCell ⟨b,2,none⟩ u2).setCell ⟨b,3,none⟩ u3).setCell ⟨b,4,none⟩ u4):=by
 refine⟨?_,(((((Chg.refl (fun q=>q=b) W).setCell (p:=⟨b,0,none⟩) (.inl rfl) _).setCell (p:=⟨b,1,none⟩) (.inl rfl) _).setCell (p:=⟨b,2,none⟩) (.inl rfl) _).setCell (p:=⟨b,3,none⟩) (.inl rfl) _).setCell (p:=⟨b,4,none⟩) (.inl rfl) _⟩;rw[yL _ b 4 _ _ u4 (yL _ b 3 _ _ u3 (yL _ b 2 _ _ u2 (yL _ b 1 _ _ u1 (yL W b 0 _ _ u0 h))))];simp
theorem bRes(A B D:Option Addr)(l c m d n e:Nat)(x:Int)(w:World):(Instr.build 58 #[(0,.agg #[.slice A l c,.slice B m d,.slice D n e]),(2,zi x)]).run prog w=.ok (.agg #[.slice A l c,.slice B m d,.slice D n e,zi 0,zi x]) w:=zK
theorem zMw(A B D:Option Addr)(l c m d n e:Nat)(x:Int)(w:World):(Instr.build 58 #[(0,.agg #[.slice A l c,.slice B m d,.slice D n e]),(1,zi x)]).run prog w=.ok (.agg #[.slice A l c,.slice B m d,.slice D n e,zi x,zi 0]) w:=zK
theorem zvK(n:Nat):madeCells (Value.int .i64 0).cells (n*1)=(zkj (List.replicate n 0)).toArray:=by
 apply Array.ext';apply List.ext_getElem
 ·rw[Array.length_toList,size_madeCells];simp[zkj]
 ·intro i h1 h2;have e:i % 1=0:=zO
  simp[madeCells,zkj,Value.cells,e]
theorem zMx(n:Nat)(hn:n<=4096)(w:World):(Instr.makeSlice 42 (zi (n:Int)) (zi (n:Int))).run prog w=.ok (.slice (some ⟨w.heap.size,0,none⟩) n n) (w.alloc (.cells (zkj (List.replicate n 0)).toArray 3)):=by
 have h:=zoh;obtain⟨i,hi,hz⟩:=Option.map_eq_some_iff.1 h;injection hz with h1 h2;injection h2 with h2 h3;have hsc:(4096:Nat)<=9223372036854775807:=zY
 have:=zlp (P:=prog) 42 3 i (zi 0) underlying42 hi h1 .i64 .i64 n n zl (by rw[h3];omega) (yB1 hn hsc) w;rw[h2,zvK]at this;exact this
theorem bRun(A1 A2 A3 E:Option Addr)(l1 c1 l2 c2 l3 c3 m d:Nat)(k n F:Int)(s:ByteArray)(sb:Nat)(w:World):(Instr.build 127 #[(0,pv A1 l1 c1 A2 l2 c2 k n s A3 l3 c3),(1,.pointer (some ⟨sb,0,none⟩)),(3,zi F),(4,.slice E m d)]).run prog w =
  .ok (.agg #[.slice A1 l1 c1,.slice A2 l2 c2,zj k,zi n,.string s,.slice A3 l3 c3,.pointer (some ⟨sb,0,none⟩),zi 0,zi F,.slice E m d]) w:=zK
theorem zwO{W:World}{a b:Nat}{x y:Array Value}{E F:TypeId}(ha:W.heap[a]?=some (.cells x E (0,0)))(hb:W.heap[b]?=some (.cells y F (0,0)))(hne:E≠F):a≠b:=by
 rintro rfl;rw[ha]at hb;injection hb with hb;injection hb with h1 h2;exact hne h2
theorem zrX{W w4 w8 aV:World}{n0:Nat}{kb:Nat->Prop}(h4:zw W w4)(h11:zw W aV)(h48:zw w4 w8)(hk:Kpt n0 kb w8 aV)(hn:w4.heap.size<=n0):zw w4 aV :=
 ⟨h11.os.trans h4.os.symm,h11.tape.trans h4.tape.symm,h11.output.trans h4.output.symm,yB1 h48.size hk.size,fun b hb=>(hk.kept b (yU1 hb h48.size) (.inl (yU1 hb hn))).trans (h48.block b hb)⟩
theorem zys:IsFn prog 75 f75:=⟨func75,zK,zK⟩
theorem zyr:IsFn prog 77 f77:=⟨func77,zK,zK⟩
def OkR(C:RC)(lo hi:Nat)(o:Out)(w9 w':World):Prop:=∃r,o=.ok r/\(C.plus lo hi).Ok/\RI (C.plus lo hi) w' r/\Kpt C.n0 C.kb w9 w'
def ErX(C:RC)(o:Out)(w9:World)(x:Int)(w':World):Prop:=o=.err x/\Kpt C.n0 C.kb w9 w'/\Below C.w.heap.size C.w w'
theorem zsR{G:List PR->T->Prop}(hS:∀g,IStC G g){C:RC}{w8 w9:World}{r:RS}{jb:Nat}(hC8:C.Ok)(h8:RI C w8 r)(dw:w8.alloc (.cells #[zn,.bool false] 132)=w9)(hjb:w8.heap.size=jb)(hG:∀u∈C.p.m.ks,G C.p.prs u)(g:Nat)(back:Bool)(o:Out)(ho:runO C.p.prs C.F g back C.p.m r=o)(hg:o ≠ .gas)(pb qb bb:Nat)
  (h0:w8.cell? ⟨pb,0,none⟩=some (.pointer (some ⟨C.rb,0,none⟩)))(hq:w8.heap[qb]?=some (.cells #[.slice C.A1 C.p.vs.length C.c1,.slice C.A2 C.p.prs.length C.c2,zj C.p.m.k,zi C.p.m.n,.string C.p.m.s,.slice C.A3 C.p.m.ks.length C.c3] 30 (0,0)))(hb:w8.cell? ⟨bb,0,none⟩=some (.bool back)) :
  Calls prog 74 #[.pointer (some ⟨jb,0,none⟩),.func (.func 75) #[] #[.pointer (some ⟨pb,0,none⟩),.pointer (some ⟨qb,0,none⟩),.pointer (some ⟨bb,0,none⟩)]] w9 (AttP w9 (OkR (C.plus jb w9.heap.size) w9.heap.size (w9.heap.size+3) o w9) (ErX (C.plus jb w9.heap.size) o w9)):=by
 have hbj:=zkb (zs w8) (.cells #[zn,.bool false] 132);have kj:=yA w8 (.cells #[zn,.bool false] 132);obtain⟨hC9,h9⟩:=h8.plus hC8 hbj;rw[dw,hjb]at kj hC9 h9;rw[dw]at hbj;have hjl:=zke kj;refine zs1 jb _ _ zys _ w9 kj _ _ fun W1 hb1 hz1=>?_;obtain⟨bz,h1⟩:=h9.plus hC9 hb1;have hbt:=zka hbj hb1;have hrun:=zt8 hS bz h1 hG g back (show runO C.p.prs C.F g back C.p.m r ≠ .gas by rw[ho];exact hg) pb qb bb (zb hbt h0) (zkc hq hbt) (zb hbt hb);refine hrun.mono ?_;rintro e w' ⟨hk,hbl,hout⟩;rw[show runO ((C.plus jb w9.heap.size).plus w9.heap.size W1.heap.size).p.prs ((C.plus jb w9.heap.size).plus w9.heap.size W1.heap.size).F g back ((C.plus jb w9.heap.size).plus w9.heap.size W1.heap.size).p.m r=o from ho]at hout;refine⟨fun b hb hlt=>hk.kept b hlt (.inr ?_),?_⟩
 ·rcases hb with hb|rfl
  ·exact .inr ⟨hb,hlt⟩
  ·exact .inl (.inr ⟨zl,hjl⟩)
 ·have hkk:Kpt C.n0 (C.plus jb w9.heap.size).kb w9 w':=(Kpt.of_below hb1).trans (Kpt.less (C:=C.plus jb w9.heap.size) hk)
  cases o with
  | gas=>exact absurd rfl hg
  | err x=>exact .inr ⟨x,hout,rfl,hkk,hbl⟩
  | ok r1 =>
   rw[hz1]at bz hout;exact .inl ⟨hout.1,r1,rfl,bz,hout.2,hkk⟩
theorem zvf(p:PG)(s:SS)(F:Int)(g:Nat)(back:Bool)(v sv:Value)(W:World)(hp:PV W Any p v)(hs:SV W Any s sv)(hcl:s.cells.length<=5864062014800)(hF:I64 F)(qM:F<=1000000)(hg:F.toNat*2000+2000<=g)(hfam:Fam p) :
  Calls prog 42 #[v,sv,zi F,.bool back] W (ResP W (resO p s F g back)):=by
 have HFAM:=zh hfam;clear hfam;have HP:=zh hp;have HS:=zh hs;obtain⟨A1,c1,A2,c2,A3,c3,rfl,fZ⟩:=hp;obtain⟨A,c,B,d,D,e,rfl,hr1,hr2,hr3,hc1,hc2,hc3,hl1,hl2,hl3,hl4⟩:=hs;have xC:=zh fZ;have oG:=zh (show s.Lim from⟨hl1,hl2,hl3,hl4⟩);have HV:=zh (fun w' (hb:zw W w')=>zmd p Any _ w' (HP.out.later hb));have bQ:=zh (fun w' (hb:zw W w')=>zmB p Any _ w' (HP.out.later hb));have dH:=zh (fun w' (hb:zw W w')=>zq2 s _ w' (HS.out.later hb) hcl);have vY:=zh (fun w' (hb:zw W w')=>zLe p.vs s A1 c1 _ w' (fZ.vars.later hb) fZ.lv (HS.out.later hb));obtain⟨Re,hRe⟩:=zX (resO p s F g back);have gL:=zh hRe;rw[hRe]
 have hb4:=zkb (zkb (zkb (zkb (zs W) (.cells #[.slice A1 p.vs.length c1,.slice A2 p.prs.length c2,zj p.m.k,zi p.m.n,.string p.m.s,.slice A3 p.m.ks.length c3] 30)) (.cells #[.slice A s.cells.length c,.slice B s.tin.length d,.slice D s.tout.length e] 44)) (.cells #[.bool back] 4)) (.cells #[zn,zn,zn,zi 0,zi 0] 58);have k0:=zkd (zkd (zkd (yA W (.cells #[.slice A1 p.vs.length c1,.slice A2 p.prs.length c2,zj p.m.k,zi p.m.n,.string p.m.s,.slice A3 p.m.ks.length c3] 30)) (.cells #[.slice A s.cells.length c,.slice B s.tin.length d,.slice D s.tout.length e] 44)) (.cells #[.bool back] 4)) (.cells #[zn,zn,zn,zi 0,zi 0] 58)
 have k1:=zkd (zkd (yA (W.alloc (.cells #[.slice A1 p.vs.length c1,.slice A2 p.prs.length c2,zj p.m.k,zi p.m.n,.string p.m.s,.slice A3 p.m.ks.length c3] 30)) (.cells #[.slice A s.cells.length c,.slice B s.tin.length d,.slice D s.tout.length e] 44)) (.cells #[.bool back] 4)) (.cells #[zn,zn,zn,zi 0,zi 0] 58);have k2:=zkd (yA ((W.alloc (.cells #[.slice A1 p.vs.length c1,.slice A2 p.prs.length c2,zj p.m.k,zi p.m.n,.string p.m.s,.slice A3 p.m.ks.length c3] 30)).alloc (.cells #[.slice A s.cells.length c,.slice B s.tin.length d,.slice D s.tout.length e] 44)) (.cells #[.bool back] 4)) (.cells #[zn,zn,zn,zi 0,zi 0] 58)
 have k3:=yA (((W.alloc (.cells #[.slice A1 p.vs.length c1,.slice A2 p.prs.length c2,zj p.m.k,zi p.m.n,.string p.m.s,.slice A3 p.m.ks.length c3] 30)).alloc (.cells #[.slice A s.cells.length c,.slice B s.tin.length d,.slice D s.tout.length e] 44)).alloc (.cells #[.bool back] 4)) (.cells #[zn,zn,zn,zi 0,zi 0] 58);simp only[yS]at k1 k2 k3;have oO:((((W.alloc (.cells #[.slice A1 p.vs.length c1,.slice A2 p.prs.length c2,zj p.m.k,zi p.m.n,.string p.m.s,.slice A3 p.m.ks.length c3] 30)).alloc (.cells #[.slice A s.cells.length c,.slice B s.tin.length d,.slice D s.tout.length e] 44)).alloc (.cells #[.bool back] 4)).alloc (.cells #[zn,zn,zn,zi 0,zi 0] 58)).heap.size=W.heap.size+4:=zS
 obtain⟨w4,hw4⟩:=zX (((((W.alloc (.cells #[.slice A1 p.vs.length c1,.slice A2 p.prs.length c2,zj p.m.k,zi p.m.n,.string p.m.s,.slice A3 p.m.ks.length c3] 30)).alloc (.cells #[.slice A s.cells.length c,.slice B s.tin.length d,.slice D s.tout.length e] 44)).alloc (.cells #[.bool back] 4)).alloc (.cells #[zn,zn,zn,zi 0,zi 0] 58)));rw[hw4]at hb4 k0 k1 k2 k3 oO;have ax:=zh hb4;have aG:=zh k0;have az:=zh k1;have aO:=zh k2;have fA:=zh k3;have qR:=zh oO;have p0:w4.cell? ⟨W.heap.size,0,none⟩=some (.slice A1 p.vs.length c1):=zc k0 rfl;have p1:w4.cell? ⟨W.heap.size,1,none⟩=some (.slice A2 p.prs.length c2):=zc k0 rfl;have p2:w4.cell? ⟨W.heap.size,2,none⟩=some (zj p.m.k):=zc k0 rfl;have p3:w4.cell? ⟨W.heap.size,3,none⟩=some (zi p.m.n):=zc k0 rfl;have p4:w4.cell? ⟨W.heap.size,4,none⟩=some (.string p.m.s):=zc k0 rfl
 have p5:w4.cell? ⟨W.heap.size,5,none⟩=some (.slice A3 p.m.ks.length c3):=zc k0 rfl;obtain⟨vb,hvb⟩:=zX (zkR p);have bA:=zh hvb;rw[hvb]at HV bQ;clear fZ hr1 hr2 hr3 hRe hvb hb4 k0 k1 k2 k3 oO hl1 hl2 hl3 hl4 hc1 hc2 hc3;go_enter func42,ntmps42;go_wp2_with fail;refine(HV.out w4 ax.out).mono ?_;rintro e5 w5 ⟨rfl,b5⟩;clear hw4
 cases vb
 ·have HX:=zh (show Re=(s,0,3,[]) by rw[<-gL.out,resO,if_pos (.inl bA.out)]);clear p0 p1 p2 p3 p4 p5;have dJ:=zkc az.out b5;have jw:=zkc fA.out b5;have s0:w5.cell? ⟨W.heap.size+1,0,none⟩=some (.slice A s.cells.length c):=zc dJ rfl;have s1:w5.cell? ⟨W.heap.size+1,1,none⟩=some (.slice B s.tin.length d):=zc dJ rfl;have s2:w5.cell? ⟨W.heap.size+1,2,none⟩=some (.slice D s.tout.length e):=zc dJ rfl;have aI:=zh (dH.out w5 (zka ax.out b5));have dA:=zh jw;have hbq:=b5;clear dJ jw;go_wp2_with fail;refine aI.out.mono ?_;rintro e9 w9 ⟨v9,rfl,dD,aQ⟩;obtain⟨A9,c9,B9,d9,D9,e9,rfl⟩:=dD.slices;have fI:=zh dD;have bE:=zh (zka hbq aQ);have aD:=zkc dA.out aQ;have x0:w9.cell? ⟨W.heap.size+3,0,none⟩=some zn:=zc aD rfl;have x1:w9.cell? ⟨W.heap.size+3,1,none⟩=some zn:=zc aD rfl
  have x2:w9.cell? ⟨W.heap.size+3,2,none⟩=some zn:=zc aD rfl;have x3:w9.cell? ⟨W.heap.size+3,3,none⟩=some (zi 0):=zc aD rfl;have x4:w9.cell? ⟨W.heap.size+3,4,none⟩=some (zi 0):=zc aD rfl;have xf:∀o,w9.frozen? ⟨W.heap.size+3,o,none⟩=false:=fun _=>zf aD;have jG:=zh aD;have hbr:=bRes;have rQ:W.heap.size+4<=w5.heap.size:=by have:=hbq.size;rw[qR.out]at this;exact this
  clear s0 s1 s2 aD dD aQ hbq aI;go_wp2_with fail;obtain⟨hh,hch⟩:=set5 (u0:=.slice A9 s.cells.length c9) (u1:=.slice B9 s.tin.length d9) (u2:=.slice D9 s.tout.length e9) (u3:=zi 0) (u4:=zi 3) jG.out;obtain⟨aZ,fP⟩:=zX ((((((w9.setCell ⟨W.heap.size+3,0,none⟩ (.slice A9 s.cells.length c9)).setCell ⟨W.heap.size+3,1,none⟩ (.slice B9 s.tin.length d9)).setCell ⟨W.heap.size+3,2,none⟩ (.slice D9 s.tout.length e9)).setCell ⟨W.heap.size+3,3,none⟩ (zi 0)).setCell ⟨W.heap.size+3,4,none⟩ (zi 3)));rw[fP]at hh hch ⊢;have t0:aZ.cell? ⟨W.heap.size+3,0,none⟩=some (.slice A9 s.cells.length c9):=zc hh rfl;have t1:aZ.cell? ⟨W.heap.size+3,1,none⟩=some (.slice B9 s.tin.length d9):=zc hh rfl;have t2:aZ.cell? ⟨W.heap.size+3,2,none⟩=some (.slice D9 s.tout.length e9):=zc hh rfl;have t3:aZ.cell? ⟨W.heap.size+3,3,none⟩=some (zi 0):=zc hh rfl
  have t4:aZ.cell? ⟨W.heap.size+3,4,none⟩=some (zi 3):=zc hh rfl;refine bodyPost_ret (v:=.tuple #[zn,.agg #[.slice A9 s.cells.length c9,.slice B9 s.tin.length d9,.slice D9 s.tout.length e9,zi 0,zi 3]]) (by simp[results,results42,go_sem,t0,t1,t2,t3,t4]) rfl ?_;rw[HX.out];exact⟨none,0,_,_,_,rfl,(fI.out.chg hch fun b hb=>zO).lower zO,fun i hi=>absurd hi zS,zl,(zka ax.out bE.out).trans (hch.below (zka ax.out bE.out).size fun b hb=>zO),oG.out,fun h=>by first|(simp at h;done)|exact absurd h yG.out⟩
 ·have q0:=zb b5 p0;have q1:=zb b5 p1;have q2:=zb b5 p2;have q3:=zb b5 p3;have q4:=zb b5 p4;have q5:=zb b5 p5;have eD:=zh (show Calls prog 26 #[pv A1 p.vs.length c1 A2 p.prs.length c2 p.m.k p.m.n p.m.s A3 p.m.ks.length c3] w5 (fun e w'=>∃A c,e=Ending.returned (.slice A (chkN p) c)/\zw w5 w')from(bQ.out w5 (zka ax.out b5)).mono (fun e w' ⟨A,c,h1,h2⟩=>⟨A,c,by rw[h1,if_pos rfl],h2⟩));clear p0 p1 p2 p3 p4 p5 bQ HV;go_wp2_with fail;refine eD.out.mono ?_;rintro e6 w6 ⟨AA,cc,rfl,b6⟩;have mY:=zka b5 b6;clear q0 q1 q2 q3 q4 q5;by_cases hn:chkN p=0
  ·obtain⟨n,hnn⟩:=zX (chkN p);rw[hnn];obtain rfl:n=0:=zO
   have hng:¬ (0:Int)<((0:Nat):Int):=zO
   have jU:=zkc aG.out mY;have dJ:=zkc az.out mY;have p0:w6.cell? ⟨W.heap.size,0,none⟩=some (.slice A1 p.vs.length c1):=zc jU rfl;have s0:w6.cell? ⟨W.heap.size+1,0,none⟩=some (.slice A s.cells.length c):=zc dJ rfl;have s1:w6.cell? ⟨W.heap.size+1,1,none⟩=some (.slice B s.tin.length d):=zc dJ rfl;have s2:w6.cell? ⟨W.heap.size+1,2,none⟩=some (.slice D s.tout.length e):=zc dJ rfl;have fq:=zh hnn;clear jU dJ hn hnn;go_wp2_with fail;refine(vY.out w6 (zka ax.out mY)).mono ?_;rintro e7 w7 ⟨b7,⟨hfit,rfl⟩|⟨hfit,P,rfl,zZ⟩⟩
   ·have HX:=zh (show Re=(s,0,20,[]) by rw[<-gL.out,resO,if_neg (by rw[bA.out,fq.out];simp),if_pos hfit]);have qQ:=zka mY b7;clear p0 s0 s1 s2 hfit;have dJ:=zkc az.out qQ;have jw:=zkc fA.out qQ;have s0:w7.cell? ⟨W.heap.size+1,0,none⟩=some (.slice A s.cells.length c):=zc dJ rfl;have s1:w7.cell? ⟨W.heap.size+1,1,none⟩=some (.slice B s.tin.length d):=zc dJ rfl;have s2:w7.cell? ⟨W.heap.size+1,2,none⟩=some (.slice D s.tout.length e):=zc dJ rfl;have aI:=zh (dH.out w7 (zka ax.out qQ));have dA:=zh jw;have hbq:=qQ;clear dJ jw;go_wp2_with fail;refine aI.out.mono ?_;rintro e9 w9 ⟨v9,rfl,dD,aQ⟩;obtain⟨A9,c9,B9,d9,D9,e9,rfl⟩:=dD.slices;have fI:=zh dD;have bE:=zh (zka hbq aQ);have aD:=zkc dA.out aQ;have x0:w9.cell? ⟨W.heap.size+3,0,none⟩=some zn:=zc aD rfl;have x1:w9.cell? ⟨W.heap.size+3,1,none⟩=some zn:=zc aD rfl
    have x2:w9.cell? ⟨W.heap.size+3,2,none⟩=some zn:=zc aD rfl;have x3:w9.cell? ⟨W.heap.size+3,3,none⟩=some (zi 0):=zc aD rfl;have x4:w9.cell? ⟨W.heap.size+3,4,none⟩=some (zi 0):=zc aD rfl;have xf:∀o,w9.frozen? ⟨W.heap.size+3,o,none⟩=false:=fun _=>zf aD;have jG:=zh aD;have hbr:=bRes;have rQ:W.heap.size+4<=w7.heap.size:=by have:=hbq.size;rw[qR.out]at this;exact this
    clear s0 s1 s2 aD dD aQ hbq aI;go_wp2_with fail;obtain⟨hh,hch⟩:=set5 (u0:=.slice A9 s.cells.length c9) (u1:=.slice B9 s.tin.length d9) (u2:=.slice D9 s.tout.length e9) (u3:=zi 0) (u4:=zi 20) jG.out;obtain⟨aZ,fP⟩:=zX ((((((w9.setCell ⟨W.heap.size+3,0,none⟩ (.slice A9 s.cells.length c9)).setCell ⟨W.heap.size+3,1,none⟩ (.slice B9 s.tin.length d9)).setCell ⟨W.heap.size+3,2,none⟩ (.slice D9 s.tout.length e9)).setCell ⟨W.heap.size+3,3,none⟩ (zi 0)).setCell ⟨W.heap.size+3,4,none⟩ (zi 20)));rw[fP]at hh hch ⊢;have t0:aZ.cell? ⟨W.heap.size+3,0,none⟩=some (.slice A9 s.cells.length c9):=zc hh rfl;have t1:aZ.cell? ⟨W.heap.size+3,1,none⟩=some (.slice B9 s.tin.length d9):=zc hh rfl;have t2:aZ.cell? ⟨W.heap.size+3,2,none⟩=some (.slice D9 s.tout.length e9):=zc hh rfl;have t3:aZ.cell? ⟨W.heap.size+3,3,none⟩=some (zi 0):=zc hh rfl
    have t4:aZ.cell? ⟨W.heap.size+3,4,none⟩=some (zi 20):=zc hh rfl;refine bodyPost_ret (v:=.tuple #[zn,.agg #[.slice A9 s.cells.length c9,.slice B9 s.tin.length d9,.slice D9 s.tout.length e9,zi 0,zi 20]]) (by simp[results,results42,go_sem,t0,t1,t2,t3,t4]) rfl ?_;rw[HX.out];exact⟨none,0,_,_,_,rfl,(fI.out.chg hch fun b hb=>zO).lower zO,fun i hi=>absurd hi zS,zl,(zka ax.out bE.out).trans (hch.below (zka ax.out bE.out).size fun b hb=>zO),oG.out,fun h=>by first|(simp at h;done)|exact absurd h yG.out⟩
   ·have qQ:=zka mY b7;have qC:=zh hfit;have BC:=zh zZ;clear p0 s0 s1 s2 hfit zZ;have jU:=zkc aG.out qQ;have p0:w7.cell? ⟨W.heap.size,0,none⟩=some (.slice A1 p.vs.length c1):=zc jU rfl;have p1:w7.cell? ⟨W.heap.size,1,none⟩=some (.slice A2 p.prs.length c2):=zc jU rfl;have p2:w7.cell? ⟨W.heap.size,2,none⟩=some (zj p.m.k):=zc jU rfl;have p3:w7.cell? ⟨W.heap.size,3,none⟩=some (zi p.m.n):=zc jU rfl;have p4:w7.cell? ⟨W.heap.size,4,none⟩=some (.string p.m.s):=zc jU rfl;have p5:w7.cell? ⟨W.heap.size,5,none⟩=some (.slice A3 p.m.ks.length c3):=zc jU rfl;obtain⟨hvl,hpl,wN,-,hpm⟩:=zli bA.out;have hmk:=zMx p.prs.length zO;obtain⟨np,kH⟩:=zX (p.prs.length);rw[kH]at p1 hmk;have qY:=zh kH
    obtain⟨HH,hHH⟩:∃H:World->Prop,H=fun w':World=>w'.cell? ⟨W.heap.size,0,none⟩=some (.slice A1 p.vs.length c1)/\w'.cell? ⟨W.heap.size,1,none⟩=some (.slice A2 np c2)/\w'.cell? ⟨W.heap.size,2,none⟩=some (zj p.m.k)/\w'.cell? ⟨W.heap.size,3,none⟩=some (zi p.m.n)/\w'.cell? ⟨W.heap.size,4,none⟩=some (.string p.m.s)/\w'.cell? ⟨W.heap.size,5,none⟩=some (.slice A3 p.m.ks.length c3):=⟨_,rfl⟩
    have aA:=zh (show ∀w',zw w7 w'->HH w' by
     rw[hHH];exact fun w' hb=>⟨zb hb p0,zb hb p1,zb hb p2,zb hb p3,zb hb p4,zb hb p5⟩)
    rw[kH];go_upto_region 6 with fail;have hSS:zW HH zU w7.drew:=⟨aA.out _ zr.drew,trivial⟩
    refine wp_region_noPanic ?_;refine zG hSS 10 ?_;subst hHH;refine zT 0 hSS ?_;refine zT 1 hSS ?_;refine zT 2 hSS ?_;refine zT 3 hSS ?_;refine zT 4 hSS ?_;refine zT 5 hSS ?_;clear p0 p1 p2 p3 p4 p5 jU kH;refine zs2 (fun A f l a wr=>∃(l6 l7 l8 l9:Bool) (v43 v44 v45 v12:Value) (eb rb pb:Nat),f=(!l6).toNat+(!l7).toNat+(!l8).toNat+(!l9).toNat+1/\l = #[true,true,true,true,true,true,l6,l7,l8,l9,false] /\
     a=(((A.put (some 43) v43).put (some 44) v44).put (some 45) v45).put (some 12) v12/\Hid (zw w7 wr) /\
     Hid ((l7=true->l6=true)/\(l8=true->l7=true)/\(l6=true->v43=.slice (some ⟨eb,0,none⟩) np np/\wr.heap[eb]?=some (.cells (zkj (List.replicate np 0)).toArray 3 (0,0))/\w7.heap.size<=eb) /\
      (l7=true->v44=.agg #[.slice A1 p.vs.length c1,.slice A2 np c2,zj p.m.k,zi p.m.n,.string p.m.s,.slice A3 p.m.ks.length c3,.pointer (some ⟨P.sb,0,none⟩),zi 0,zi F,.slice (some ⟨eb,0,none⟩) np np]) /\
      (l8=true->v45=.pointer (some ⟨rb,0,none⟩)/\wr.heap[rb]?=some (.cells #[.slice A1 p.vs.length c1,.slice A2 np c2,zj p.m.k,zi p.m.n,.string p.m.s,.slice A3 p.m.ks.length c3,.pointer (some ⟨P.sb,0,none⟩),zi 0,zi F,.slice (some ⟨eb,0,none⟩) np np] 127 (0,0))/\w7.heap.size<=rb) /\
      (l9=true->v12=.pointer (some ⟨pb,0,none⟩)/\wr.heap[pb]?=some (.cells #[.pointer none] 125 (0,0))/\w7.heap.size<=pb)) /\
     Hid ((l6=false->v43=undef)/\(l7=false->v44=undef)/\(l8=false->v45=undef)/\(l9=false->v12=undef))) (fun A f l a wr h=>?_) ?_ ⟨false,false,false,false,undef,undef,undef,undef,0,0,0,rfl,rfl,(by simp only[Act.put,zD,zE,zF]),zh zr.drew,zh ⟨fun h=>(by cases h),fun h=>(by cases h),fun h=>(by cases h),fun h=>(by cases h),fun h=>(by cases h),fun h=>(by cases h)⟩,zh ⟨fun _=>rfl,fun _=>rfl,fun _=>rfl,fun _=>rfl⟩⟩
    ·obtain⟨_,_,_,_,_,_,_,_,_,_,_,_,_,_,hb,_⟩:=h;exact⟨aA.out _ hb.out,trivial⟩
    rintro A' hA f l a wr ⟨l6,l7,l8,l9,v43,v44,v45,v12,eb,rb,pb,hf,rfl,ha,ag,HC,HU⟩;by_cases hall:(l6&&l7&&l8&&l9)=true
    ·left
     simp only[Bool.and_eq_true]at hall;obtain⟨⟨⟨rfl,rfl⟩,rfl⟩,rfl⟩:=hall;obtain⟨-,-,h6,h7,h8,h9⟩:=HC.out;obtain⟨rfl,he,hel⟩:=h6 rfl;obtain rfl:=h7 rfl;obtain⟨rfl,hr,hrl⟩:=h8 rfl;obtain⟨rfl,hq,lI⟩:=h9 rfl;subst hf ha hA;have hner:eb≠rb:=zwO he hr zY;have hneq:eb≠pb:=zwO he hq zY;have hnrq:rb≠pb:=zwO hr hq zY;have c0:wr.cell? ⟨pb,0,none⟩=some (.pointer none):=zc hq rfl;have cf:∀j,wr.frozen? ⟨pb,j,none⟩=false:=fun j=>zf hq;refine zp 10 fun K hK=>?_;(try simp only[zQ]);go_simp;have hch:Chg (fun b=>b=pb) wr (wr.setCell ⟨pb,0,none⟩ (.pointer (some ⟨rb,0,none⟩))):=(Chg.refl (fun b=>b=pb) wr).setCell (p:=⟨pb,0,none⟩) (.inl rfl) _;have hh:(wr.setCell ⟨pb,0,none⟩ (.pointer (some ⟨rb,0,none⟩))).heap[pb]?=some (.cells #[.pointer (some ⟨rb,0,none⟩)] 125 (0,0)):=by
      rw[yL wr pb 0 _ _ (.pointer (some ⟨rb,0,none⟩)) hq];rfl
     have iQ:=zh (show zw w7 (wr.setCell ⟨pb,0,none⟩ (.pointer (some ⟨rb,0,none⟩)))from ag.out.trans (hch.below ag.out.size fun b e=>zO));have Cf:=zh (hch.keep he hneq);have oC:=zh (hch.keep hr hnrq);have yM:=zh hh;obtain⟨w8,hw8⟩:=zX (wr.setCell ⟨pb,0,none⟩ (.pointer (some ⟨rb,0,none⟩)));rw[hw8]at iQ Cf oC yM ⊢;refine hK.out _ _ (aA.out _ iQ.out) ?_;clear hK K hSS hch hh hw8 c0 cf he hr hq h6 h7 h8 h9 HC HU ag hmk aA;refine zd ?_;refine NoPanic.normal ?_;(try simp only[zQ]);have hlt_e:=zke Cf.out;have hlt_r:=zke oC.out;have hlt_q:=zke yM.out;obtain⟨C,hC⟩:∃C:RC,C=⟨W,w6.heap.size,P.sb,rb,p,A1,c1,A2,c2,A3,c3,F,.slice (some ⟨eb,0,none⟩) np np,fun b=>b=pb⟩:=⟨_,rfl⟩
     have hs67:=b7.size;have hs46:=mY.size;have oO:=qR.out;have hbWw6:=zka ax.out mY;have xR:=zh (show C.Ok by
      rw[hC];exact⟨xC.out,hF,qM,⟨by simp only;omega,by simp only;exact hnrq⟩,⟨by simp[Value.ownBlock];exact hner,fun b hb hk=>by simp only[Value.ownBlock,Option.some.injEq]at hb;simp only at hk;omega⟩,fun q hq=>by have:=(wN q hq).1;omega⟩)
     have bT:=zh (show RI C w8 ⟨newS p.vs s,0,List.replicate np 0⟩ by
      rw[hC];have hks:=(KS.new hbWw6 b7 BC.out).also iQ.out (kb':=fun b=>b=pb\/b=rb\/(Value.slice (some ⟨eb,0,none⟩) np np).ownBlock=some b) (fun b hb=>.inr (by
       rcases hb with rfl|rfl|hb
       ·exact⟨lI,hlt_q⟩
       ·exact⟨hrl,hlt_r⟩
       ·simp[Value.ownBlock]at hb;subst hb;exact⟨hel,hlt_e⟩))
      refine⟨hks,by rw[<-qY.out]at oC;simpa[RC.cells,qY.out]using oC.out,?_,by simp[qY.out],fun c hc=>by simp at hc;omega,zS,?_⟩
      ·refine⟨by simp[zkj],.inr ⟨eb,np,_,zS,yB1 hs67 hel,Cf.out,zS,by unfold maxLen;have:=qY.out;omega,by simp[zkj],by simp[zkj]⟩⟩
      ·exact⟨by simp only[newS];omega,fun f hf=>by simp[newS]at hf⟩)
     obtain⟨GX,hGX,hGM⟩:=HFAM.out;have nP:=zh (hGM bA.out fq.out);clear hGM;obtain⟨o,ho⟩:=zX (runO p.prs F g back p.m ⟨newS p.vs s,0,List.replicate np 0⟩);have hog:o ≠ .gas:=ho▸(zte bA.out hg back (newS p.vs s) (List.replicate np 0)).1;have hon:Nz o:=ho▸nP.out.2 _ _ _ _;have HRR:=zh (show Re=outR s o by rw[<-gL.out,resO,if_neg (by rw[bA.out,fq.out];simp),if_neg (by rw[qC.out];simp),<-ho,<-qY.out]);have jV:=zka qQ iQ.out;obtain⟨jb,hjb⟩:=zX (w8.heap.size);obtain⟨w9,dw⟩:=zX (w8.alloc (.cells #[zn,.bool false] 132));have HAT:=zh (zsR hGX xR.out bT.out dw hjb (by rw[hC];exact nP.out.1) g back o (by rw[hC];exact ho) hog pb W.heap.size (W.heap.size+1+1) (by rw[hC];exact zc yM.out rfl) (by rw[hC];simp only;rw[qY.out];have:=zkc aG.out jV;rw[qY.out]at this;exact this) (zc (zkc aO.out jV) rfl))
     have nY:w9.heap.size=jb+1:=by rw[<-dw];simp[hjb]
     have HK89:=zh (show Kpt C.n0 C.kb w8 w9 from Kpt.of_below (dw▸zkb (zs w8) _));have yt:∀(fn:Fn) (first cap:Array Value) (w:World),(Instr.makeFunc fn first cap).run prog w=.ok (.func fn first cap) w:=fun _ _ _ _=>rfl;have HN0C:=zh (show C.n0=w6.heap.size/\C.w=W/\C.rb=rb/\C.ev=.slice (some ⟨eb,0,none⟩) np np/\(C.kb=fun b=>b=pb)/\C.sb=P.sb/\C.p=p by rw[hC];exact⟨rfl,rfl,rfl,rfl,rfl,rfl,rfl⟩);have HHB48:=zh jV;have jT:=ax.out;have hb4s:W.heap.size<=w6.heap.size:=hbWw6.size;clear hC jV ho hlt_e hlt_r;go_wp2_with fail;refine HAT.out.mono ?_;rintro e10 aV hat;clear HAT dw yt;rcases hat with⟨rfl,aZ,⟨r,rfl,hok,aU,hkp⟩,hch⟩|⟨x,rfl,aZ,⟨rfl,hkp,hbl⟩,hch⟩
     ·obtain⟨hn0,hcw,pQ,mO,kK,pO,hcp⟩:=HN0C.out;have hri1:=RI.chgK (C:=C.plus jb w9.heap.size) hok aU hch (by show C.w.heap.size<=_;rw[hcw];have:=iQ.out.size;omega);have ji:RI C aV r:=hri1.less.less;have hkk:Kpt C.n0 C.kb w8 aV:=HK89.out.trans ((Kpt.less (C:=C) hkp).trans (Kpt.chg hch fun b hb=>⟨by rw[hn0];omega,by rw[kK];intro e;subst e;omega⟩));have dz:=zrX jT (by have:=ji.below;rw[hcw]at this;exact this) HHB48.out hkk (by rw[hn0];exact hs46);have gK:=zh ji;have HX:=zh (show Re=(r.S.state,r.n,0,r.ent)from HRR.out);obtain⟨-,x7,-,x9,-⟩:=ji.cells;rw[pQ]at x7 x9;rw[mO]at x9;have xp:aV.cell? ⟨pb,0,none⟩=some (.pointer (some ⟨rb,0,none⟩)):=zc (hkk.blk (.inr (by rw[kK])) yM.out) rfl;have HKR:=zh (zkc fA.out dz);have nU:=zh dz;have hls:=ji.ks;have HST:=zh (fun w' (hb:zw aV w')=>(hls.later hb).state);rw[pO]at HST
      have xE:=zh (show r.ent.length=np by rw[ji.el,hcp,qY.out]);have nQ:=zh ji.ent;rw[hn0,mO]at nQ;have hne0:(0:Int)=0:=rfl;have aA:=zh (show ∀w',zw aV w'->(fun w':World=>zv w' pb 0 (.pointer (some ⟨rb,0,none⟩))/\zv w' rb 7 (zi r.n)/\zv w' rb 9 (.slice (some ⟨eb,0,none⟩) np np)) w' from fun w' hb=>⟨zb hb xp,zb hb x7,zb hb x9⟩);clear aU hri1 ji hkk hkp hls hn0 hcw pQ mO kK pO hch x7 x9 xp dz hok;go_upto_region 10 with fail;have hSS:zW (fun w':World=>zv w' pb 0 (.pointer (some ⟨rb,0,none⟩))/\zv w' rb 7 (zi r.n)/\zv w' rb 9 (.slice (some ⟨eb,0,none⟩) np np)) zU aV.drew:=⟨aA.out _ zr.drew,trivial⟩
      refine wp_region_noPanic ?_;refine zG hSS 12 ?_;refine zT 0 hSS ?_;refine zT 1 hSS ?_;refine zT 2 hSS ?_;refine zT 3 hSS ?_;refine zT 4 hSS ?_;refine zT 6 hSS ?_;refine zT 7 hSS ?_;refine zT 8 hSS ?_;refine zT 9 hSS ?_;have had:Calls prog 77 [.pointer (some ⟨P.sb,0,none⟩)].toArray aV.drew fun e W'=>∃v,e=.returned v/\(OwnS W' aV.heap.size r.S.state v/\zw aV W') :=
       (HST.out _ zr.drew).mono fun e w' ⟨v,h1,h2,h3⟩=>⟨v,h1,h2,zka (zs aV).drew h3⟩
      refine zo 5 fun K hK=>?_;refine zkf zR (.func 77) [.tmp 59] _ zR 77 _ zyr zR _ zR _ had ?_;rintro v12 fE ⟨rV,pY⟩;obtain⟨A9,c9,B9,d9,D9,e9,rfl⟩:=rV.slices;have HO12:=zh rV;have gV:=zh pY;refine hK.out _ _ ⟨aA.out _ pY,trivial⟩ ?_;have aB:=zV hSS (aA.out _ pY) trivial;clear hK K hSS had rV pY;(try simp only[zQ]);have hbr:=zMw;refine zT 10 aB ?_;refine zo 11 fun K hK=>?_;(try simp only[zA,zB,zC]);go_simp;refine hK.out _ _ ⟨aA.out _ gV.out,trivial⟩ ?_;clear hK K;(try simp only[zQ]);have aD:=zkc HKR.out gV.out;have x0:fE.cell? ⟨W.heap.size+3,0,none⟩=some zn:=zc aD rfl;have x1:fE.cell? ⟨W.heap.size+3,1,none⟩=some zn:=zc aD rfl;have x2:fE.cell? ⟨W.heap.size+3,2,none⟩=some zn:=zc aD rfl;have x3:fE.cell? ⟨W.heap.size+3,3,none⟩=some (zi 0):=zc aD rfl
      have x4:fE.cell? ⟨W.heap.size+3,4,none⟩=some (zi 0):=zc aD rfl;have xf:∀o,fE.frozen? ⟨W.heap.size+3,o,none⟩=false:=fun _=>zf aD;refine zp 12 fun K hK=>?_;(try simp only[zQ]);go_simp;obtain⟨hh,hch⟩:=set5 (u0:=.slice A9 r.S.state.cells.length c9) (u1:=.slice B9 r.S.state.tin.length d9) (u2:=.slice D9 r.S.state.tout.length e9) (u3:=zi r.n) (u4:=zi 0) aD;obtain⟨wy,hw13⟩:=zX ((((((fE.setCell ⟨W.heap.size+3,0,none⟩ (.slice A9 r.S.state.cells.length c9)).setCell ⟨W.heap.size+3,1,none⟩ (.slice B9 r.S.state.tin.length d9)).setCell ⟨W.heap.size+3,2,none⟩ (.slice D9 r.S.state.tout.length e9)).setCell ⟨W.heap.size+3,3,none⟩ (zi r.n)).setCell ⟨W.heap.size+3,4,none⟩ (zi 0)));rw[hw13]at hh hch ⊢;have fM:=zh hch;have t0:wy.cell? ⟨W.heap.size+3,0,none⟩=some (.slice A9 r.S.state.cells.length c9):=zc hh rfl
      have t1:wy.cell? ⟨W.heap.size+3,1,none⟩=some (.slice B9 r.S.state.tin.length d9):=zc hh rfl;have t2:wy.cell? ⟨W.heap.size+3,2,none⟩=some (.slice D9 r.S.state.tout.length e9):=zc hh rfl;have t3:wy.cell? ⟨W.heap.size+3,3,none⟩=some (zi r.n):=zc hh rfl;have t4:wy.cell? ⟨W.heap.size+3,4,none⟩=some (zi 0):=zc hh rfl;have hszs:W.heap.size+4<=aV.heap.size:=by have:=nU.out.size;omega
      have hplt:W.heap.size+3<w7.heap.size:=by have:=qQ.size;omega
      refine hK.out _ _ ?_ ?_
      ·obtain⟨q1,q2,q3⟩:=aA.out _ gV.out;exact⟨zlb hch q1 (by simp only;omega),zlb hch q2 (by simp only;omega),zlb hch q3 (by simp only;omega)⟩
      clear hK K hch hh hw13 x0 x1 x2 x3 x4 xf aD aB aA;(try simp only[zQ]);refine zd ?_;refine NoPanic.normal ?_;go_wp2_with fail;have hrow:=zkU nQ.out gV.out;have hrow2:=zo7 hrow (fun b hb=>fM.out.block b (hrow.lt b hb).2 (by have:=(hrow.lt b hb).1;omega));have hI:∀z∈r.ent.map Int.ofNat,I64 z:=fun z hz=>by
       obtain⟨q,hq,rfl⟩:=List.mem_map.1 hz;have h1:=gK.out.en q hq;have h2:=gK.out.n;exact⟨by simp only[Int.ofNat_eq_natCast];omega,by simp only[Int.ofNat_eq_natCast];omega⟩
      obtain⟨Ae,ce,he1,he2,he3⟩:=zth (l:=r.ent.map Int.ofNat) (by simpa using hrow2) hI;injection he1 with he1 _ he4;subst he1 he4;refine bodyPost_ret (v:=.tuple #[.slice (some ⟨eb,0,none⟩) np np,.agg #[.slice A9 r.S.state.cells.length c9,.slice B9 r.S.state.tin.length d9,.slice D9 r.S.state.tout.length e9,zi r.n,zi 0]]) (by simp[results,results42,go_sem,t0,t1,t2,t3,t4]) rfl ?_;rw[HX.out];refine⟨_,_,_,_,_,by rw[xE.out],(HO12.out.chg fM.out fun b hb=>zO).lower zO,he3.keep (fun b hb _=>by have:=hb4s;omega) (fun _ _ _=>rfl),by simpa using he2,?_⟩;exact⟨(zka jT (zka nU.out gV.out)).trans (fM.out.below (zka jT (zka nU.out gV.out)).size fun b hb=>zO),LimR.run gK.out.ks.wf gK.out.fb _⟩
     ·have hx:x≠0:=fun e=>hon (by rw[e]);obtain⟨hn0,hcw,pQ,mO,kK,pO,-⟩:=HN0C.out;have hkk:Kpt C.n0 C.kb w8 aV:=HK89.out.trans ((Kpt.less (C:=C) hkp).trans (Kpt.chg hch fun b hb=>⟨by rw[hn0];omega,by rw[kK];intro e;subst e;omega⟩));have pU:Below C.w.heap.size C.w aZ:=hbl;rw[hcw]at pU;have Af:=iQ.out.size;have pV:zw W aV:=pU.trans (hch.below pU.size fun b hb=>zO);have dz:=zrX jT pV HHB48.out hkk (by rw[hn0];exact hs46);have HX:=zh (show Re=(s,0,x,[])from HRR.out);have e1:(x != 0)=true:=by simpa using hx
      have yG:=zh hx;clear hn0 hcw pQ mO kK pO hkk pV hkp hbl pU hch hon;have dJ:=zkc az.out dz;have jw:=zkc fA.out dz;have s0:aV.cell? ⟨W.heap.size+1,0,none⟩=some (.slice A s.cells.length c):=zc dJ rfl;have s1:aV.cell? ⟨W.heap.size+1,1,none⟩=some (.slice B s.tin.length d):=zc dJ rfl;have s2:aV.cell? ⟨W.heap.size+1,2,none⟩=some (.slice D s.tout.length e):=zc dJ rfl;have aI:=zh (dH.out aV (zka ax.out dz));have dA:=zh jw;have hbq:=dz;clear dJ jw;go_wp2_with fail;refine aI.out.mono ?_;rintro e9 w9 ⟨v9,rfl,dD,aQ⟩;obtain⟨A9,c9,B9,d9,D9,e9,rfl⟩:=dD.slices;have fI:=zh dD;have bE:=zh (zka hbq aQ);have aD:=zkc dA.out aQ;have x0:w9.cell? ⟨W.heap.size+3,0,none⟩=some zn:=zc aD rfl;have x1:w9.cell? ⟨W.heap.size+3,1,none⟩=some zn:=zc aD rfl
      have x2:w9.cell? ⟨W.heap.size+3,2,none⟩=some zn:=zc aD rfl;have x3:w9.cell? ⟨W.heap.size+3,3,none⟩=some (zi 0):=zc aD rfl;have x4:w9.cell? ⟨W.heap.size+3,4,none⟩=some (zi 0):=zc aD rfl;have xf:∀o,w9.frozen? ⟨W.heap.size+3,o,none⟩=false:=fun _=>zf aD;have jG:=zh aD;have hbr:=bRes;have rQ:W.heap.size+4<=aV.heap.size:=by have:=hbq.size;rw[qR.out]at this;exact this
      clear s0 s1 s2 aD dD aQ hbq aI;go_wp2_with fail;obtain⟨hh,hch⟩:=set5 (u0:=.slice A9 s.cells.length c9) (u1:=.slice B9 s.tin.length d9) (u2:=.slice D9 s.tout.length e9) (u3:=zi 0) (u4:=zi x) jG.out;obtain⟨aZ,fP⟩:=zX ((((((w9.setCell ⟨W.heap.size+3,0,none⟩ (.slice A9 s.cells.length c9)).setCell ⟨W.heap.size+3,1,none⟩ (.slice B9 s.tin.length d9)).setCell ⟨W.heap.size+3,2,none⟩ (.slice D9 s.tout.length e9)).setCell ⟨W.heap.size+3,3,none⟩ (zi 0)).setCell ⟨W.heap.size+3,4,none⟩ (zi x)));rw[fP]at hh hch ⊢;have t0:aZ.cell? ⟨W.heap.size+3,0,none⟩=some (.slice A9 s.cells.length c9):=zc hh rfl;have t1:aZ.cell? ⟨W.heap.size+3,1,none⟩=some (.slice B9 s.tin.length d9):=zc hh rfl;have t2:aZ.cell? ⟨W.heap.size+3,2,none⟩=some (.slice D9 s.tout.length e9):=zc hh rfl;have t3:aZ.cell? ⟨W.heap.size+3,3,none⟩=some (zi 0):=zc hh rfl
      have t4:aZ.cell? ⟨W.heap.size+3,4,none⟩=some (zi x):=zc hh rfl;refine bodyPost_ret (v:=.tuple #[zn,.agg #[.slice A9 s.cells.length c9,.slice B9 s.tin.length d9,.slice D9 s.tout.length e9,zi 0,zi x]]) (by simp[results,results42,go_sem,t0,t1,t2,t3,t4]) rfl ?_;rw[HX.out];exact⟨none,0,_,_,_,rfl,(fI.out.chg hch fun b hb=>zO).lower zO,fun i hi=>absurd hi zS,zl,(zka ax.out bE.out).trans (hch.below (zka ax.out bE.out).size fun b hb=>zO),oG.out,fun h=>by first|(simp at h;done)|exact absurd h yG.out⟩
    ·right
     have bD:=HC.out;have iV:=HU.out;have hcc:(l7=true->l6=true)/\(l8=true->l7=true):=⟨bD.1,bD.2.1⟩
     refine⟨f-1,?_,?_,?_⟩
     ·clear HC bD HU iV ha ag hcc;subst hf;revert hall;revert l6 l7 l8 l9
      decide
     ·clear HC bD HU iV ha ag hf;revert hall hcc;revert l6 l7 l8 l9
      decide +kernel
     intro i hi;have hcase:(i=6/\l6=false/\l7=false/\l8=false)\/(i=7/\l7=false/\l6=true/\l8=false)\/(i=8/\l8=false/\l6=true/\l7=true)\/(i=9/\l9=false):=by
      refine of_decide_eq_true ((List.all_eq_true (p:=fun i=>decide ((i=6/\l6=false/\l7=false/\l8=false)\/(i=7/\l7=false/\l6=true/\l8=false)\/(i=8/\l8=false/\l6=true/\l7=true)\/(i=9/\l9=false)))).1 ?_ i hi);clear HC bD HU iV ha ag hf hi;revert hall hcc;revert l6 l7 l8 l9
      decide +kernel
     clear hi hall;subst ha hA;rcases hcase with⟨rfl,rfl,rfl,rfl⟩|⟨rfl,rfl,rfl,rfl⟩|⟨rfl,rfl,rfl,rfl⟩|⟨rfl,rfl⟩
     ·refine wpOp_step rfl (fun K' aN=>?_);have hK:=zh aN;clear aN;have hU1:=iV.1 rfl;have AL:=iV.2.1 rfl;have wY:=iV.2.2.1 rfl;subst hU1 AL wY;(try simp only[zQ]);go_simp;have hsz:=ag.out.size;exact hK.out _ _ ⟨true,false,false,l9,_,undef,undef,v12,wr.heap.size,0,pb,(by subst hf;simp<;>omega),rfl,(by simp only[zQ]),zh (zkb ag.out _),zh ⟨fun h=>(by cases h),fun h=>(by cases h),fun _=>⟨rfl,yA wr _,hsz⟩,fun h=>(by cases h),fun h=>(by cases h),fun h=>⟨(bD.2.2.2.2.2 h).1,zkd (bD.2.2.2.2.2 h).2.1 _,(bD.2.2.2.2.2 h).2.2⟩⟩,zh ⟨fun h=>(by cases h),fun _=>rfl,fun _=>rfl,iV.2.2.2⟩⟩
     ·refine wpOp_step rfl (fun K' aN=>?_);have hK:=zh aN;clear aN;have AL:=iV.2.1 rfl;have wY:=iV.2.2.1 rfl;obtain⟨hv6,he,hel⟩:=bD.2.2.1 rfl;subst AL wY hv6;have hbn:=bRun;(try simp only[zQ]);go_simp;exact hK.out _ _ ⟨true,true,false,l9,_,_,undef,v12,eb,0,pb,(by subst hf;simp<;>omega),rfl,(by simp only[zQ]),ag,zh ⟨fun _=>rfl,fun h=>(by cases h),fun _=>⟨rfl,he,hel⟩,fun _=>rfl,fun h=>(by cases h),bD.2.2.2.2.2⟩,zh ⟨fun h=>(by cases h),fun h=>(by cases h),fun _=>rfl,iV.2.2.2⟩⟩
     ·refine wpOp_step rfl (fun K' aN=>?_);have hK:=zh aN;clear aN;have wY:=iV.2.2.1 rfl;obtain⟨hv6,he,hel⟩:=bD.2.2.1 rfl;have hv7:=bD.2.2.2.1 rfl;subst wY hv6 hv7;(try simp only[zQ]);go_simp;have hsz:=ag.out.size;exact hK.out _ _ ⟨true,true,true,l9,_,_,_,v12,eb,wr.heap.size,pb,(by subst hf;simp<;>omega),rfl,(by simp only[zQ]),zh (zkb ag.out _),zh ⟨fun _=>rfl,fun _=>rfl,fun _=>⟨rfl,zkd he _,hel⟩,fun _=>rfl,fun _=>⟨rfl,yA wr _,hsz⟩,fun h=>⟨(bD.2.2.2.2.2 h).1,zkd (bD.2.2.2.2.2 h).2.1 _,(bD.2.2.2.2.2 h).2.2⟩⟩,zh ⟨fun h=>(by cases h),fun h=>(by cases h),fun h=>(by cases h),iV.2.2.2⟩⟩
     ·refine wpOp_step rfl (fun K' aN=>?_);have hK:=zh aN;clear aN;have tF:=iV.2.2.2 rfl;subst tF;(try simp only[zQ]);go_simp;have hsz:=ag.out.size;exact hK.out _ _ ⟨l6,l7,l8,true,v43,v44,v45,_,eb,rb,wr.heap.size,(by subst hf;simp<;>omega),rfl,(by simp only[zQ]),zh (zkb ag.out _),zh ⟨bD.1,bD.2.1,fun h=>⟨(bD.2.2.1 h).1,zkd (bD.2.2.1 h).2.1 _,(bD.2.2.1 h).2.2⟩,bD.2.2.2.1,fun h=>⟨(bD.2.2.2.2.1 h).1,zkd (bD.2.2.2.2.1 h).2.1 _,(bD.2.2.2.2.1 h).2.2⟩,fun _=>⟨rfl,yA wr _,hsz⟩⟩,zh ⟨iV.1,iV.2.1,iV.2.2.1,fun h=>(by cases h)⟩⟩
  ·have HX:=zh (show Re=(s,0,3,[]) by rw[<-gL.out,resO,if_pos (.inr hn)]);obtain⟨n,hnn⟩:=zX (chkN p);rw[hnn];have hng:(0:Int)<(n:Int):=zO
   clear hn hnn;have dJ:=zkc az.out mY;have jw:=zkc fA.out mY;have s0:w6.cell? ⟨W.heap.size+1,0,none⟩=some (.slice A s.cells.length c):=zc dJ rfl;have s1:w6.cell? ⟨W.heap.size+1,1,none⟩=some (.slice B s.tin.length d):=zc dJ rfl;have s2:w6.cell? ⟨W.heap.size+1,2,none⟩=some (.slice D s.tout.length e):=zc dJ rfl;have aI:=zh (dH.out w6 (zka ax.out mY));have dA:=zh jw;have hbq:=mY;clear dJ jw;go_wp2_with fail;refine aI.out.mono ?_;rintro e9 w9 ⟨v9,rfl,dD,aQ⟩;obtain⟨A9,c9,B9,d9,D9,e9,rfl⟩:=dD.slices;have fI:=zh dD;have bE:=zh (zka hbq aQ);have aD:=zkc dA.out aQ;have x0:w9.cell? ⟨W.heap.size+3,0,none⟩=some zn:=zc aD rfl;have x1:w9.cell? ⟨W.heap.size+3,1,none⟩=some zn:=zc aD rfl;have x2:w9.cell? ⟨W.heap.size+3,2,none⟩=some zn:=zc aD rfl;have x3:w9.cell? ⟨W.heap.size+3,3,none⟩=some (zi 0):=zc aD rfl
   have x4:w9.cell? ⟨W.heap.size+3,4,none⟩=some (zi 0):=zc aD rfl;have xf:∀o,w9.frozen? ⟨W.heap.size+3,o,none⟩=false:=fun _=>zf aD;have jG:=zh aD;have hbr:=bRes;have rQ:W.heap.size+4<=w6.heap.size:=by have:=hbq.size;rw[qR.out]at this;exact this
   clear s0 s1 s2 aD dD aQ hbq aI;go_wp2_with fail;obtain⟨hh,hch⟩:=set5 (u0:=.slice A9 s.cells.length c9) (u1:=.slice B9 s.tin.length d9) (u2:=.slice D9 s.tout.length e9) (u3:=zi 0) (u4:=zi 3) jG.out;obtain⟨aZ,fP⟩:=zX ((((((w9.setCell ⟨W.heap.size+3,0,none⟩ (.slice A9 s.cells.length c9)).setCell ⟨W.heap.size+3,1,none⟩ (.slice B9 s.tin.length d9)).setCell ⟨W.heap.size+3,2,none⟩ (.slice D9 s.tout.length e9)).setCell ⟨W.heap.size+3,3,none⟩ (zi 0)).setCell ⟨W.heap.size+3,4,none⟩ (zi 3)));rw[fP]at hh hch ⊢;have t0:aZ.cell? ⟨W.heap.size+3,0,none⟩=some (.slice A9 s.cells.length c9):=zc hh rfl;have t1:aZ.cell? ⟨W.heap.size+3,1,none⟩=some (.slice B9 s.tin.length d9):=zc hh rfl;have t2:aZ.cell? ⟨W.heap.size+3,2,none⟩=some (.slice D9 s.tout.length e9):=zc hh rfl;have t3:aZ.cell? ⟨W.heap.size+3,3,none⟩=some (zi 0):=zc hh rfl
   have t4:aZ.cell? ⟨W.heap.size+3,4,none⟩=some (zi 3):=zc hh rfl;refine bodyPost_ret (v:=.tuple #[zn,.agg #[.slice A9 s.cells.length c9,.slice B9 s.tin.length d9,.slice D9 s.tout.length e9,zi 0,zi 3]]) (by simp[results,results42,go_sem,t0,t1,t2,t3,t4]) rfl ?_;rw[HX.out];exact⟨none,0,_,_,_,rfl,(fI.out.chg hch fun b hb=>zO).lower zO,fun i hi=>absurd hi zS,zl,(zka ax.out bE.out).trans (hch.below (zka ax.out bE.out).size fun b hb=>zO),oG.out,fun h=>by first|(simp at h;done)|exact absurd h yG.out⟩
def FwP(W:World)(R:SS×Nat×Int×List Nat)(e:Ending)(W':World):Prop:=∃v1 v2 v3,e=.returned (.agg #[v1,v2,v3,zi (R.2.1:Int),zi R.2.2.1]) /\
 OwnS W' W.heap.size R.1 (.agg #[v1,v2,v3])/\zw W W'/\LimR R
theorem zs0(p:PG)(s:SS)(F:Int)(g:Nat)(v sv:Value)(W:World)(hp:PV W Any p v)(hs:SV W Any s sv)(hcl:s.cells.length<=5864062014800)(hF:I64 F)(qM:F<=1000000)(hg:F.toNat*2000+2000<=g)(hfam:Fam p) :
  Calls prog 18 #[v,sv,zi F] W (FwP W (resO p s F g false)):=by
 have HPX:=zh hp;have HSX:=zh hs;obtain⟨A1,c1,A2,c2,A3,c3,rfl,fZ⟩:=hp;obtain⟨A,c,B,d,D,e,rfl,hr1,hr2,hr3,hc1,hc2,hc3,hl1,hl2,hl3,hl4⟩:=hs;have HST:=zh (fun w' (hb:zw W w')=>zvf p s F g false _ _ w' (HPX.out.later hb) (HSX.out.later hb) hcl hF qM hg hfam);have hb3:=zkb (zkb (zkb (zs W) (.cells #[.slice A1 p.vs.length c1,.slice A2 p.prs.length c2,zj p.m.k,zi p.m.n,.string p.m.s,.slice A3 p.m.ks.length c3] 30)) (.cells #[.slice A s.cells.length c,.slice B s.tin.length d,.slice D s.tout.length e] 44)) (.cells #[zn,zn,zn,zi 0,zi 0] 58)
 have k2:=yA ((W.alloc (.cells #[.slice A1 p.vs.length c1,.slice A2 p.prs.length c2,zj p.m.k,zi p.m.n,.string p.m.s,.slice A3 p.m.ks.length c3] 30)).alloc (.cells #[.slice A s.cells.length c,.slice B s.tin.length d,.slice D s.tout.length e] 44)) (.cells #[zn,zn,zn,zi 0,zi 0] 58);simp only[yS]at k2;obtain⟨Re,hRe⟩:=zX (resO p s F g false);rw[hRe]at HST;have HR:=zh hRe;have HB3:=zh hb3;have aO:=zh k2;have hz3:W.heap.size+3<=(((W.alloc (.cells #[.slice A1 p.vs.length c1,.slice A2 p.prs.length c2,zj p.m.k,zi p.m.n,.string p.m.s,.slice A3 p.m.ks.length c3] 30)).alloc (.cells #[.slice A s.cells.length c,.slice B s.tin.length d,.slice D s.tout.length e] 44)).alloc (.cells #[zn,zn,zn,zi 0,zi 0] 58)).heap.size:=zS
 rw[hRe];clear fZ hr1 hr2 hr3 hRe hb3 k2 hl1 hl2 hl3 hl4 hc1 hc2 hc3;clear hfam;go_enter func18,ntmps18;go_wp2_with fail;refine(HST.out _ HB3.out).mono ?_;rintro e9 w9 ⟨A9,c9,v1,v2,v3,rfl,dD,-,-,aQ,hlm9⟩;have oG:=zh hlm9;clear hlm9;obtain⟨A4,c4,B5,d5,D6,e6,h6⟩:=dD.slices;injection h6 with h6;injection h6 with h6;injection h6 with h6 h7;injection h7 with h7 h8;injection h8 with h8 _;subst h6 h7 h8;have fI:=zh dD;have bE:=zh aQ;have aD:=zkc aO.out aQ;have x0:w9.cell? ⟨W.heap.size+1+1,0,none⟩=some zn:=zc aD rfl;have x1:w9.cell? ⟨W.heap.size+1+1,1,none⟩=some zn:=zc aD rfl;have x2:w9.cell? ⟨W.heap.size+1+1,2,none⟩=some zn:=zc aD rfl;have x3:w9.cell? ⟨W.heap.size+1+1,3,none⟩=some (zi 0):=zc aD rfl;have x4:w9.cell? ⟨W.heap.size+1+1,4,none⟩=some (zi 0):=zc aD rfl
 have xf:∀o,w9.frozen? ⟨W.heap.size+1+1,o,none⟩=false:=fun _=>zf aD;have y0:=fun o=>zkk x0 o;have y1:=fun o=>zkk x1 o;have y2:=fun o=>zkk x2 o;have y3:=fun o=>zkk x3 o;have y4:=fun o=>zkk x4 o;have hlt9:W.heap.size+1+1<w9.heap.size:=zke aD;have jG:=zh aD;clear dD aQ aD;go_wp2_with fail;obtain⟨hh,hch⟩:=set5 (u0:=.slice A4 Re.1.cells.length c4) (u1:=.slice B5 Re.1.tin.length d5) (u2:=.slice D6 Re.1.tout.length e6) (u3:=zi (Re.2.1:Int)) (u4:=zi Re.2.2.1) jG.out;obtain⟨aZ,fP⟩:=zX ((((((w9.setCell ⟨W.heap.size+1+1,0,none⟩ (.slice A4 Re.1.cells.length c4)).setCell ⟨W.heap.size+1+1,1,none⟩ (.slice B5 Re.1.tin.length d5)).setCell ⟨W.heap.size+1+1,2,none⟩ (.slice D6 Re.1.tout.length e6)).setCell ⟨W.heap.size+1+1,3,none⟩ (zi (Re.2.1:Int))).setCell ⟨W.heap.size+1+1,4,none⟩ (zi Re.2.2.1)));rw[fP]at hh hch ⊢
 obtain⟨aV,il⟩:=zX (aZ.alloc (.cells #[.slice A4 Re.1.cells.length c4,.slice B5 Re.1.tin.length d5,.slice D6 Re.1.tout.length e6,zi (Re.2.1:Int),zi Re.2.2.1] 58));rw[il];have t0:aV.cell? ⟨W.heap.size+1+1,0,none⟩=some (.slice A4 Re.1.cells.length c4):=il▸zkk (zc hh rfl) _;have t1:aV.cell? ⟨W.heap.size+1+1,1,none⟩=some (.slice B5 Re.1.tin.length d5):=il▸zkk (zc hh rfl) _;have t2:aV.cell? ⟨W.heap.size+1+1,2,none⟩=some (.slice D6 Re.1.tout.length e6):=il▸zkk (zc hh rfl) _;have t3:aV.cell? ⟨W.heap.size+1+1,3,none⟩=some (zi (Re.2.1:Int)):=il▸zkk (zc hh rfl) _;have t4:aV.cell? ⟨W.heap.size+1+1,4,none⟩=some (zi Re.2.2.1):=il▸zkk (zc hh rfl) _
 refine bodyPost_ret (v:=.agg #[.slice A4 Re.1.cells.length c4,.slice B5 Re.1.tin.length d5,.slice D6 Re.1.tout.length e6,zi (Re.2.1:Int),zi Re.2.2.1]) (by simp[results,results18,go_sem,t0,t1,t2,t3,t4]) rfl ?_;have hz33:=hz3;have hb39:zw W w9:=zka HB3.out bE.out;have iE:Chg (fun b=>b=W.heap.size+1+1) w9 aV:=il▸hch.alloc _;have pq:=fI.out.chg iE fun b hb=>zO
 have p8:=hb39.trans (iE.below hb39.size fun b hb=>zO);exact⟨_,_,_,rfl,pq.lower zO,p8,oG.out⟩
theorem znF(p:PG)(s:SS)(F:Int)(g:Nat)(v sv:Value)(W:World)(hp:PV W Any p v)(hs:SV W Any s sv)(hcl:s.cells.length<=5864062014800)(hF:I64 F)(qM:F<=1000000)(hg:F.toNat*2000+2000<=g) :
  Calls prog 18 #[v,sv,zi F] W (FwP W (resO p s F g false)):=zs0 p s F g v sv W hp hs hcl hF qM hg (zKE p)
section
variable {E:Prop} {Rl:Nat->ST->ST->Prop} {F F' k:Int} {o o':Out}
end
theorem ztN{f:FR}:∀(l:List (VD×ByteArray)) (acc:FR) (e:Int),entL f acc l=.error e->e≠0
 | [],acc,e,h=>by rw[entL]at h;cases h
 | (v,a)::r,acc,e,h=>by
  rw[entL]at h
  split at h
  ·injection h with h;omega
  ·split at h
   ·exact ztN r _ _ h
   ·injection h with h;omega
section
variable {S:ST} {l:List Int}
end
structure FrR(ρ:Nat->Nat->Prop)(f g:FR):Prop where
 vs:f.vs=g.vs
 loc:f.loc=g.loc
 len:f.cs.length=g.cs.length
 full:f.cs.length=f.vs.length/\f.loc<=f.vs.length
 cs:∀(i a b:Nat),f.cs[i]?=some a->g.cs[i]?=some b->ρ a b
structure EqR(ρ:Nat->Nat->Prop)(S S':ST):Prop where
 fn:∀a b b',ρ a b->ρ a b'->b=b'
 inj:∀a a' b,ρ a b->ρ a' b->a=a'
 lt:∀a b,ρ a b->a<S.nc/\b<S'.nc
 cell:∀a b,ρ a b->S'.cell b=S.cell a
 base:FrR ρ S.base S'.base
 ncalls:S.calls.length=S'.calls.length
 calls:∀(i:Nat) (f g:FR),S.calls[i]?=some f->S'.calls[i]?=some g->FrR ρ f g
 tin:S'.tin=S.tin
 tout:S'.tout=S.tout
def Eqv(S S':ST):Prop:=∃ρ,EqR ρ S S'
def OpE(ρ:Nat->Nat->Prop)(R R':Int×ST):Prop:=R'.1=R.1/\(R.1=0->EqR ρ R.2 R'.2)
section
variable {ρ ρ':Nat->Nat->Prop} {f g:FR} {S S' S'':ST} {a b:Nat}
theorem FrR.mono(h:FrR ρ f g)(hr:∀a b,ρ a b->ρ' a b):FrR ρ' f g:=⟨h.vs,h.loc,h.len,h.full,fun i a b x y=>hr a b (h.cs i a b x y)⟩
theorem FrR.getD(h:FrR ρ f g){i:Nat}(hi:i<f.vs.length):ρ (f.cs.getD i 0) (g.cs.getD i 0):=by
 have h1:i<f.cs.length:=by rw[h.full.1];exact hi
 have h2:i<g.cs.length:=by rw[<-h.len];exact h1
 refine h.cs i _ _ ?_ ?_
 ·rw[yI,yC h1];rfl
 ·rw[yI,yC h2];rfl
theorem FrR.snoc(h:FrR ρ f g)(v:VD)(hab:ρ a b)(l:Nat)(hl:l<=f.vs.length+1):FrR ρ ⟨f.vs++[v],f.cs++[a],l⟩ ⟨g.vs++[v],g.cs++[b],l⟩:=by
 refine⟨by rw[h.vs],rfl,by simp[h.len],⟨by simp[h.full.1],by simpa using hl⟩,fun i x y hx hy=>?_⟩;simp only at hx hy;rcases Nat.lt_or_ge i f.cs.length with h1|h1
 ·rw[yJ1 h1]at hx;rw[yJ1 (by rw[<-h.len];exact h1)]at hy;exact h.cs i x y hx hy
 ·rw[yP h1]at hx;rw[yP (by rw[<-h.len];exact h1)]at hy;rw[<-h.len]at hy
  cases hi:i-f.cs.length with
  | zero =>
   rw[hi]at hx hy;simp only[List.getElem?_cons_zero,Option.some.injEq]at hx hy;subst hx hy;exact hab
  | succ j =>
   rw[hi]at hx;simp at hx
theorem FrR.pop(h:FrR ρ f g):FrR ρ f.pop g.pop:=by
 have h1:=h.full;refine⟨by simp only[FR.pop,h.vs],by simp only[FR.pop,h.loc],by simp only[FR.pop,List.length_take,h.len,h.vs],⟨by simp only[FR.pop,List.length_take,h1.1],by simp only[FR.pop,List.length_take];omega⟩,fun i x y hx hy=>?_⟩;simp only[FR.pop]at hx hy;rw[List.getElem?_take]at hx hy
 split at hx
 ·split at hy
  ·exact h.cs i x y hx hy
  ·cases hy
 ·cases hx
theorem EqR.cur(h:EqR ρ S S'):FrR ρ S.cur S'.cur:=by
 rcases Nat.eq_zero_or_pos S.calls.length with h0|h0
 ·rw[zmg h0,zmg (by rw[<-h.ncalls];exact h0)];exact h.base
 ·have h1:0<S'.calls.length:=by rw[<-h.ncalls];exact h0
  rw[zmA h0,zmA h1];refine h.calls (S.calls.length-1) _ _ (yC zO) ?_;rw[yC (by have:=h.ncalls;omega)];congr 1;congr 1;rw[h.ncalls]
theorem EqR.num(h:EqR ρ S S')(s:ByteArray):(S.num s=none/\S'.num s=none)\/∃a b,S.num s=some a/\S'.num s=some b/\ρ a b:=by
 have hc:=h.cur;unfold ST.num FR.at
 rw[<-hc.vs]
 cases hl:zlt S.cur.vs s S.cur.vs.length with
 | none=>exact .inl ⟨rfl,rfl⟩
 | some i =>
  simp only[Option.bind_some];have h1:i<S.cur.cs.length:=by rw[hc.full.1];exact znQ hl
  have h2:i<S'.cur.cs.length:=by rw[<-hc.len];exact h1
  exact .inr ⟨_,_,yC h1,yC h2,hc.cs i _ _ (yC h1) (yC h2)⟩
theorem EqR.look(h:EqR ρ S S'):S'.look=S.look:=by
 funext s;unfold ST.look;rcases h.num s with⟨h1,h2⟩|⟨a,b,h1,h2,h3⟩
 ·rw[h1,h2];rfl
 ·rw[h1,h2];simp[h.cell a b h3]
theorem EqR.el(h:EqR ρ S S')(hab:ρ a b)(i:Nat):S'.el b i=S.el a i:=by unfold ST.el;rw[h.cell a b hab]
theorem EqR.setL(h:EqR ρ S S')(hab:ρ a b)(l:List Int):EqR ρ (S.setL a l) (S'.setL b l) :=
 ⟨h.fn,h.inj,h.lt,fun c d hcd=>by
  simp only[ST.setL];by_cases e:c=a
  ·subst e;rw[if_pos rfl,if_pos (h.fn _ _ _ hcd hab)]
  ·rw[if_neg e,if_neg (fun e'=>e (h.inj _ _ _ hcd (by rw[e'];exact hab)))];exact h.cell c d hcd,h.base,h.ncalls,h.calls,h.tin,h.tout⟩
theorem EqR.put(h:EqR ρ S S')(hab:ρ a b)(i:Nat)(x:Int):EqR ρ (S.put a i x) (S'.put b i x):=by
 unfold ST.put;rw[h.cell a b hab];exact h.setL hab _
theorem EqR.tapes(h:EqR ρ S S')(l m:List Int):EqR ρ { S with tin:=l,tout:=m } { S' with tin:=l,tout:=m } :=
 ⟨h.fn,h.inj,h.lt,h.cell,h.base,h.ncalls,h.calls,rfl,rfl⟩
theorem OpE.bad{e:Int}(h:e≠0):OpE ρ (e,S) (e,S'):=⟨rfl,fun h0=>absurd h0 h⟩
theorem OpE.good(h:EqR ρ S S'):OpE ρ (0,S) (0,S'):=⟨rfl,fun _=>h⟩
theorem zvJ(h:EqR ρ S S')(k:Int)(hab:ρ a b)(i:Nat){s t:Nat}(hst:ρ s t):OpE ρ (zlG S k a i s) (zlG S' k b i t):=by
 unfold zlG;rw[h.cell s t hst,h.el hab]
 split
 ·split
  ·exact OpE.bad zY
  ·exact OpE.good ((h.setL hst _).put hab _ _)
 ·split
  ·exact OpE.bad zY
  ·split
   ·exact OpE.bad zY
   ·rw[h.el hst];exact OpE.good ((h.put hab _ _).setL hst _)
theorem zt5(h:EqR ρ S S')(k:Int)(hab:ρ a b)(i:Nat):OpE ρ (zks S k a i) (zks S' k b i):=by
 unfold zks;rw[h.tin,h.tout,h.el hab]
 split
 ·cases S.tin with
  | nil=>exact OpE.bad zY
  | cons y r =>
   dsimp only
   split
   ·exact OpE.bad zY
   ·have:=(h.tapes r S.tout).put hab i y;exact OpE.good this
 ·split
  ·split
   ·exact OpE.bad zY
   ·split
    ·exact OpE.bad zY
    ·have:=(h.tapes S.tin S.tout.dropLast).put hab i (S.tout.getLast?.getD 0);exact OpE.good this
  ·split
   ·split
    ·exact OpE.bad zY
    ·have:=(h.tapes (S.el a i::S.tin) S.tout).put hab i 0;exact OpE.good this
   ·split
    ·exact OpE.bad zY
    ·have:=(h.tapes S.tin (S.tout++[S.el a i])).put hab i 0;exact OpE.good this
theorem zwm(h:EqR ρ S S')(k:Int)(s qs:ByteArray)(r2:Int)(hab:ρ a b)(i:Nat):OpE ρ (zkF S k s qs r2 a i) (zkF S' k s qs r2 b i):=by
 unfold zkF
 split
 ·rw[h.el hab];exact OpE.good (h.put hab _ _)
 ·split
  ·rcases h.num qs with⟨h1,h2⟩|⟨c,d,h1,h2,h3⟩
   ·rw[h1,h2];exact OpE.good h
   ·rw[h1,h2];dsimp only;rw[h.cell c d h3]
    split
    ·refine OpE.good ?_;unfold znr;rw[h.el hab,h.el h3];exact(h.put hab _ _).put h3 _ _
    ·exact OpE.bad zY
  ·split
   ·rcases h.num s with⟨h1,h2⟩|⟨c,d,h1,h2,h3⟩
    ·rw[h1,h2];exact OpE.good h
    ·rw[h1,h2];exact zvJ h k hab i h3
   ·exact zt5 h k hab i
theorem zwA(h:EqR ρ S S')(t:T):OpE ρ (doE S t) (doE S' t):=by
 unfold doE;rw[<-h.cur.vs]
 split
 ·exact OpE.bad zY
 split
 ·exact OpE.bad zY
 split
 ·exact OpE.bad zY
 split
 ·rename_i hf;exact OpE.bad hf
 obtain⟨k,n,s,ks⟩:=t
 show OpE ρ (zll S k s (ks.getD 0 nil0) (ks.getD 1 nil0) (indE S.look (ks.getD 0 nil0)) (zk5 S k (ks.getD 1 nil0))) (zll S' k s (ks.getD 0 nil0) (ks.getD 1 nil0) (indE S'.look (ks.getD 0 nil0)) (zk5 S' k (ks.getD 1 nil0)))
 have er:zk5 S' k (ks.getD 1 nil0)=zk5 S k (ks.getD 1 nil0):=by unfold zk5;rw[h.look]
 rw[er,h.look];unfold zll
 split
 ·rename_i h1;exact OpE.bad h1
 ·unfold znA
  split
  ·rename_i h1;exact OpE.bad h1
  ·rcases h.num (ks.getD 0 nil0).s with⟨h1,h2⟩|⟨c,d,h1,h2,h3⟩
   ·rw[h1,h2];exact OpE.good h
   ·rw[h1,h2];dsimp only;rw[h.cell c d h3]
    split
    ·exact zwm h _ _ _ _ h3 _
    ·exact OpE.bad zY
theorem zu4(h:EqR ρ S S')(t:T):OpE ρ (zlD S t) (zlD S' t):=by
 obtain⟨k,n,s,ks⟩:=t;exact zwA h _
theorem EqR.setCur(h:EqR ρ S S'){f g:FR}(hf:FrR ρ f g):EqR ρ (S.setCur f) (S'.setCur g):=by
 unfold ST.setCur;by_cases h0:S.calls.length=0
 ·rw[if_pos h0,if_pos (by rw[<-h.ncalls];exact h0)];exact⟨h.fn,h.inj,h.lt,h.cell,hf,h.ncalls,h.calls,h.tin,h.tout⟩
 ·rw[if_neg h0,if_neg (by rw[<-h.ncalls];exact h0)];refine⟨h.fn,h.inj,h.lt,h.cell,h.base,by simpa using h.ncalls,fun i x y hx hy=>?_,h.tin,h.tout⟩;simp only at hx hy;rw[<-h.ncalls]at hy;by_cases e:S.calls.length-1=i
  ·subst e;rw[List.getElem?_set_self zO]at hx;rw[List.getElem?_set_self (by have:=h.ncalls;omega)]at hy;injection hx with hx;injection hy with hy;subst hx hy;exact hf
  ·rw[List.getElem?_set_ne e]at hx hy;exact h.calls i x y hx hy
theorem EqR.newCell(h:EqR ρ S S')(l:List Int):EqR (fun a b=>ρ a b\/(a=S.nc/\b=S'.nc)) (S.newCell l) (S'.newCell l):=by
 have hm:∀a b,ρ a b->ρ a b\/(a=S.nc/\b=S'.nc):=fun _ _=>.inl;refine⟨fun a b b' h1 h2=>?_,fun a a' b h1 h2=>?_,fun a b h1=>?_,fun a b h1=>?_,h.base.mono hm,h.ncalls,fun i x y hx hy=>(h.calls i x y hx hy).mono hm,h.tin,h.tout⟩
 ·rcases h1 with h1|⟨h1,h1'⟩<;>rcases h2 with h2|⟨h2,h2'⟩
  ·exact h.fn _ _ _ h1 h2
  ·have:=(h.lt _ _ h1).1;omega
  ·have:=(h.lt _ _ h2).1;omega
  ·omega
 ·rcases h1 with h1|⟨h1,h1'⟩<;>rcases h2 with h2|⟨h2,h2'⟩
  ·exact h.inj _ _ _ h1 h2
  ·have:=(h.lt _ _ h1).2;omega
  ·have:=(h.lt _ _ h2).2;omega
  ·omega
 ·simp only[ST.newCell];rcases h1 with h1|⟨h1,h1'⟩
  ·have:=h.lt _ _ h1;omega
  ·omega
 ·simp only[ST.newCell];rcases h1 with h1|⟨rfl,rfl⟩
  ·have:=h.lt _ _ h1;rw[if_neg zO,if_neg zO];exact h.cell _ _ h1
  ·simp
theorem zrq(h:EqR ρ S S')(v:VD)(x:Int):∃ρ',OpE ρ' (zkA S v x) (zkA S' v x):=by
 unfold zkA FR.at
 rw[<-h.cur.vs]
 split
 ·exact⟨ρ,OpE.bad zY⟩
 ·split
  ·exact⟨ρ,OpE.bad zY⟩
  ·refine⟨_,OpE.good ((h.newCell (if v.k=1 then [x]else [])).setCur ?_)⟩;unfold FR.push;rw[<-h.cur.loc];exact(h.cur.mono fun _ _=>.inl).snoc v (.inr ⟨rfl,rfl⟩) _ (by have:=h.cur.full;omega)
theorem zqj(h:EqR ρ S S')(s:ByteArray)(x:Int):OpE ρ (zkv S s x) (zkv S' s x):=by
 have hc:=h.cur;have e1:znx S'.cur=znx S.cur:=by unfold znx;rw[hc.vs]
 unfold zkv;rw[e1,<-hc.loc]
 split
 ·exact OpE.bad zY
 ·rename_i h1;have h2:S'.cell (zpc S'.cur)=S.cell (zpc S.cur):=by
   refine h.cell _ _ ?_;unfold zpc;rw[<-hc.vs];exact hc.getD (by have:=hc.full;omega)
  rw[h2]
  split
  ·exact OpE.bad zY
  ·exact OpE.good (h.setCur hc.pop)
theorem ztO{f g:FR}(h:FrR ρ f g):∀(l:List (VD×ByteArray)) (x y:FR),FrR ρ x y->x.loc=0->(∃e,e≠0/\entL f x l=.error e/\entL g y l=.error e)\/∃x' y',entL f x l=.ok x'/\entL g y l=.ok y'/\FrR ρ x' y'
 | [],x,y,hxy,h0=>.inr ⟨x,y,rfl,rfl,hxy⟩
 | (v,a)::r,x,y,hxy,h0=>by
  rw[entL,entL];unfold FR.at
  rw[<-h.vs]
  cases hl:zlt f.vs a f.vs.length with
  | none=>exact .inl ⟨6,zY,rfl,rfl⟩
  | some i =>
   dsimp only
   split
   ·exact ztO h r _ _ (hxy.snoc v (h.getD (znQ hl)) 0 (yK _)) rfl
   ·exact .inl ⟨7,zY,rfl,rfl⟩
theorem zuC(h:EqR ρ S S')(ps:List VD)(ss:List ByteArray):OpE ρ (zk7 S ps ss) (zk7 S' ps ss):=by
 unfold zk7
 split
 ·exact OpE.bad zY
 ·rcases ztO h.cur (ps.zip ss) ⟨[],[],0⟩ ⟨[],[],0⟩ ⟨rfl,rfl,rfl,⟨rfl,zl⟩,fun i a b hx=>by simp at hx⟩ rfl with⟨e,h0,h1,h2⟩|⟨x,y,h1,h2,h3⟩
  ·rw[h1,h2];exact OpE.bad h0
  ·rw[h1,h2];unfold entR;dsimp only;rw[<-h.ncalls]
   split
   ·exact OpE.bad zY
   ·refine OpE.good ⟨h.fn,h.inj,h.lt,h.cell,h.base,by simp[h.ncalls],fun i p q hp hq=>?_,h.tin,h.tout⟩;simp only at hp hq;rcases Nat.lt_or_ge i S.calls.length with hi|hi
    ·rw[yJ1 hi]at hp;rw[yJ1 (by rw[<-h.ncalls];exact hi)]at hq;exact h.calls i p q hp hq
    ·rw[yP hi]at hp;rw[yP (by rw[<-h.ncalls];exact hi),<-h.ncalls]at hq
     cases hj:i-S.calls.length with
     | zero =>
      rw[hj]at hp hq;simp only[List.getElem?_cons_zero,Option.some.injEq]at hp hq;subst hp hq;exact h3
     | succ j =>
      rw[hj]at hp;simp at hp
theorem zun(h:EqR ρ S S'):OpE ρ (zld S) (zld S'):=by
 unfold zld;rw[<-h.cur.loc,<-h.ncalls]
 split
 ·exact OpE.bad zY
 ·refine OpE.good ⟨h.fn,h.inj,h.lt,h.cell,h.base,by simp[h.ncalls],fun i p q hp hq=>?_,h.tin,h.tout⟩;simp only at hp hq;rw[List.getElem?_take]at hp hq
  split at hp
  ·rename_i h1;rw[if_pos h1]at hq;exact h.calls i p q hp hq
  ·cases hp
end
theorem FrR.trans{ρ ρ':Nat->Nat->Prop}{f g k:FR}(h:FrR ρ f g)(h':FrR ρ' g k):FrR (fun a c=>∃b,ρ a b/\ρ' b c) f k :=
 ⟨h.vs.trans h'.vs,h.loc.trans h'.loc,h.len.trans h'.len,h.full,fun i a c ha hc=>by
  have hi:i<g.cs.length:=by rw[<-h.len];exact(yQ.1 ha).1
  exact⟨_,h.cs i a _ ha (yC hi),h'.cs i _ c (yC hi) hc⟩⟩
theorem Eqv.trans{S S' S'':ST}(h:Eqv S S')(h':Eqv S' S''):Eqv S S'':=by
 obtain⟨ρ,h⟩:=h;obtain⟨ρ',h'⟩:=h';refine⟨fun a c=>∃b,ρ a b/\ρ' b c,?_,?_,?_,?_,h.base.trans h'.base,h.ncalls.trans h'.ncalls,fun i f k hf hk=>?_,h'.tin.trans h.tin,h'.tout.trans h.tout⟩
 ·rintro a c c' ⟨b,h1,h2⟩ ⟨b',h3,h4⟩;have:=h.fn _ _ _ h1 h3;subst this;exact h'.fn _ _ _ h2 h4
 ·rintro a a' c ⟨b,h1,h2⟩ ⟨b',h3,h4⟩;have:=h'.inj _ _ _ h2 h4;subst this;exact h.inj _ _ _ h1 h3
 ·rintro a c ⟨b,h1,h2⟩;exact⟨(h.lt _ _ h1).1,(h'.lt _ _ h2).2⟩
 ·rintro a c ⟨b,h1,h2⟩;exact(h'.cell _ _ h2).trans (h.cell _ _ h1)
 ·have hi:i<S'.calls.length:=by rw[<-h.ncalls];exact(yQ.1 hf).1
  exact(h.calls i f _ hf (yC hi)).trans (h'.calls i _ k (yC hi) hk)
theorem FrR.map{ρ:Nat->Nat->Prop}{S S':ST}(h:EqR ρ S S')(n:Nat):(S'.base.cs.take n).map S'.cell=(S.base.cs.take n).map S.cell:=by
 refine List.ext_getElem? fun i=>?_;rw[List.getElem?_map,List.getElem?_map,List.getElem?_take,List.getElem?_take]
 split
 ·rcases Nat.lt_or_ge i S.base.cs.length with hi|hi
  ·have hi':i<S'.base.cs.length:=by rw[<-h.base.len];exact hi
   rw[yC hi,yC hi'];simp only[Option.map_some,Option.some.injEq];exact h.cell _ _ (h.base.cs i _ _ (yC hi) (yC hi'))
  ·rw[List.getElem?_eq_none hi,List.getElem?_eq_none (by rw[<-h.base.len];exact hi)];rfl
 ·rfl
theorem Eqv.state{S S':ST}(h:Eqv S S'):S'.state=S.state:=by
 obtain⟨ρ,h⟩:=h;unfold ST.state;rw[h.tin,h.tout,<-h.base.len,<-h.base.loc,FrR.map h]
end
end Go.Proofs.YthjinpodhacleaaGreat
