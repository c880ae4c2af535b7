/-
  Texts of the proof, put together without their remarks: Il, Iv, Id, It, Lim, Val, Scp, Ik, Im, Iz.
-/
import Derived.Test.YtmbbaccjcekhkaaGreatF5
set_option linter.unusedSimpArgs false
set_option linter.unusedVariables false
set_option maxHeartbeats 8000000
set_option maxRecDepth 100000
namespace Go.Proofs.YtmbbaccjcekhkaaGreat
open Go Go.RowKit
theorem zsO:IsFn Tryz.prog 107 Tryz.f107:=⟨Tryz.func107,by kernel_rfl,by kernel_rfl⟩
theorem zmy:IsFn Tryz.prog 80 Tryz.f80:=⟨Tryz.func80,by kernel_rfl,by kernel_rfl⟩
theorem zsU:IsFn Tryz.prog 81 Tryz.f81:=⟨Tryz.func81,by kernel_rfl,by kernel_rfl⟩
theorem zrm:IsFn Tryz.prog 82 Tryz.f82:=⟨Tryz.func82,by kernel_rfl,by kernel_rfl⟩
def loR (prs:List PR) (F:Int) (g:Nat) (back:Bool) (t t2:T) (r:RS):Out :=
 (zk9 (zkr prs F g back) (blkL back (kid t 1)) r).bind fun r=>(zkq F r).bind fun r=>valO t2 r fun x r=>zki r (zkL r.S t.s x)
def loO (prs:List PR) (F:Int) (g:Nat) (back:Bool) (t:T) (r:RS):Out :=
 (zkq F r).bind fun r=>valO (fstT back t) r fun x r=>(zki r (zli r.S ⟨t.s,1,0⟩ x)).bind (loR prs F g back t (lstT back t))
theorem zsA {G:List PR->T->Prop} {g:Nat} (hS:IStC G g) {C:RC} (hC:C.Ok) {W:World} {r:RS} (h:RI C W r) (t:T) (v:Value) (back:Bool) (hv:NV C.w Any t v) (hk:t.ks.length=3) (hG1:∀ u∈(kid t 1).ks,G C.p.prs u)
  (aC:loO C.p.prs C.F g back t r ≠ .gas) :
  Calls Tryz.prog 78 #[.pointer (some ⟨C.rb,0,none⟩),v,.bool back] W (RunP C W (loO C.p.prs C.F g back t r)):=by
 obtain⟨A,c,rfl,-,hlk,hlc,hrow⟩:=hv.open_;have ah:=zh hrow;have HS:=zh hS;have HV:=zh hv;have hb0:=zkc (Below.refl W.heap.size W) (.cells #[.int .u8 t.k,.int .i64 t.n,.string t.s,.slice A t.ks.length c] 26);obtain⟨x0,x1,x2,x3⟩:=box4 (heap_alloc_new W (.cells #[.int .u8 t.k,.int .i64 t.n,.string t.s,.slice A t.ks.length c] 26));have HB0:=zh hb0;have H:=zh h;have HC:=zh hC;have HX:=zh (heap_alloc_new W (.cells #[.int .u8 t.k,.int .i64 t.n,.string t.s,.slice A t.ks.length c] 26));have kS:=zh (fun w' (hb:Below W.heap.size W w')=>zpt t _ back C.w w' (zka h.below hb) hv (by omega));have qD:=zh hk;clear hrow hS hb0 h hv hk hC hlk;go_enter Tryz.func78,Tryz.ntmps78;go_wp2_with fail;refine(kS.out _ HB0.out).mono ?_;rintro e w2 ⟨v1,v2,rfl,n1,n2,b2⟩;obtain⟨t1,ht1⟩:∃ x,fstT back t=x:=⟨_,rfl⟩
 obtain⟨t2,ht2⟩:∃ x,lstT back t=x:=⟨_,rfl⟩
 have HT1:=zh ht1;have HT2:=zh ht2;rw[ht1] at n1;rw[ht2] at n2;obtain⟨A1,c1,rfl,-⟩:=n1.open_;obtain⟨A2,c2,rfl,-⟩:=n2.open_;have eP:=zh n1;have aT:=zh n2;have b3:=zkc (zkc (zka HB0.out b2) (.cells #[.int .u8 t1.k,.int .i64 t1.n,.string t1.s,.slice A1 t1.ks.length c1] 26)) (.cells #[.int .u8 t2.k,.int .i64 t2.n,.string t2.s,.slice A2 t2.ks.length c2] 26);have k0:=zkn (zkn (zkf HX.out b2) (.cells #[.int .u8 t1.k,.int .i64 t1.n,.string t1.s,.slice A1 t1.ks.length c1] 26)) (.cells #[.int .u8 t2.k,.int .i64 t2.n,.string t2.s,.slice A2 t2.ks.length c2] 26);have k1:=zkn (heap_alloc_new w2 (.cells #[.int .u8 t1.k,.int .i64 t1.n,.string t1.s,.slice A1 t1.ks.length c1] 26)) (.cells #[.int .u8 t2.k,.int .i64 t2.n,.string t2.s,.slice A2 t2.ks.length c2] 26)
 have k2:=heap_alloc_new (w2.alloc (.cells #[.int .u8 t1.k,.int .i64 t1.n,.string t1.s,.slice A1 t1.ks.length c1] 26)) (.cells #[.int .u8 t2.k,.int .i64 t2.n,.string t2.s,.slice A2 t2.ks.length c2] 26);simp only[World.size_alloc] at k2;obtain⟨w3,hw3⟩:∃ x,(w2.alloc (.cells #[.int .u8 t1.k,.int .i64 t1.n,.string t1.s,.slice A1 t1.ks.length c1] 26)).alloc (.cells #[.int .u8 t2.k,.int .i64 t2.n,.string t2.s,.slice A2 t2.ks.length c2] 26)=x:=⟨_,rfl⟩
 rw[hw3] at b3 k0 k1 k2;have hz2:=zka HB0.out b2;have hzz:=hz2.size;obtain⟨kP,h3⟩:=H.out.plus HC.out b3;have dF:=zh (Kpt.of_below (n0:=C.n0) (kb:=C.kb) b3);have l0:=zku k0;have l1:=zku k1;have l2:=zku k2;obtain⟨hi,hhi⟩:∃ x,w3.heap.size=x:=⟨_,rfl⟩
 rw[hhi] at kP h3 l0 l1 l2;have mM:=zh kP;have H3:=zh h3;have K0:=zh k0;have K1:=zh k1;have K2:=zh k2;have jF:=zh (zme kP h3);obtain⟨p1,⟨y0,y1,y2,y3⟩⟩:True/\(w3.cell? ⟨w2.heap.size,0,none⟩=some (.int .u8 t1.k)/\w3.cell? ⟨w2.heap.size,1,none⟩=some (.int .i64 t1.n)/\w3.cell? ⟨w2.heap.size,2,none⟩=some (.string t1.s)/\w3.cell? ⟨w2.heap.size,3,none⟩=some (.slice A1 t1.ks.length c1)):=⟨trivial,zc k1 rfl,zc k1 rfl,zc k1 rfl,zc k1 rfl⟩
 clear n1 n2 b2 b3 k0 k1 k2 hz2 kP h3 x0 x1 x2 x3 HX HB0 kS p1 ht1 ht2;go_upto_region 2 with fail;clear hw3;obtain⟨o,ho⟩:∃ o,loO C.p.prs C.F g back t r=o:=⟨_,rfl⟩
 have HO:=zh (show(zkq C.F r).bind (fun r=>valO t1 r fun x r=>(zki r (zli r.S ⟨t.s,1,0⟩ x)).bind (loR C.p.prs C.F g back t t2))=o by rw[<-ho];unfold loO loR;rw[HT1.out,HT2.out]);rw[ho] at aC ⊢;have ed:=zh aC;have bU:=zh ho;clear aC ho;go_wp2_with fail;refine jF.out.mono ?_;rintro e w4 ⟨hk4,hb4,eu⟩;have fH:=zh (dF.out.trans (Kpt.less (C:=C) hk4));have aK:=zh (show Below C.w.heap.size C.w w4 from hb4);have bQ:match zkq C.F r with
  | .gas=>True
  | .err x=>e=zlT x
  | .ok r=>(∃ u,e=.returned u)/\RI (C.plus W.heap.size hi) w4 r:=eu
 have fw:=zh hk4;clear y0 y1 y2 y3 jF hk4 hb4 eu
 cases hy:zkq C.F r with
 | gas=>exact absurd (by rw[<-HO.out,hy];rfl) ed.out
 | err x =>
  rw[hy] at bQ;subst bQ;refine⟨rfl,fH.out,aK.out,?_⟩;rw[<-HO.out,hy];rfl
 | ok r1 =>
  rw[hy] at bQ;obtain⟨⟨u3,rfl⟩,hr1⟩:=bQ;have HR4:=zh hr1;have iW:=zh (show(valO t1 r1 fun x r=>(zki r (zli r.S ⟨t.s,1,0⟩ x)).bind (loR C.p.prs C.F g back t t2))=o by rw[<-HO.out,hy];rfl);have jH:=zh (show FB r.n r1.S/\r1.n=r.n+1 by obtain⟨rfl,-⟩:=zkY hy;exact⟨H.out.fb,rfl⟩);have j0:=fw.out.blk (.inr (.inr ⟨by omega,l0⟩)) K0.out;have j1:=fw.out.blk (.inr (.inr ⟨by omega,l1⟩)) K1.out;have mD:=zh (fun w' (hb:Below w4.heap.size w4 w')=>zpE (hr1.later hb) t1 _ eP.out)
  have aG:=zh (show ∀ w',Below w4.heap.size w4 w'->(fun w':World=>w'.cell? ⟨C.rb,6,none⟩=some (.pointer (some ⟨C.sb,0,none⟩))/\w'.cell? ⟨W.heap.size,2,none⟩=some (.string t.s)/\w'.cell? ⟨w2.heap.size,0,none⟩=some (.int .u8 t1.k)/\w'.cell? ⟨w2.heap.size,1,none⟩=some (.int .i64 t1.n)/\w'.cell? ⟨w2.heap.size,2,none⟩=some (.string t1.s)/\w'.cell? ⟨w2.heap.size,3,none⟩=some (.slice A1 t1.ks.length c1)) w' from fun w' hb=>⟨zb hb hr1.cells.1,zb hb (zc j0 rfl),zb hb (zc j1 rfl),zb hb (zc j1 rfl),zb hb (zc j1 rfl),zb hb (zc j1 rfl)⟩);have iU:=zh (aG.out _ (Below.refl _ _).drew);clear hr1 hy j0 j1;go_upto_region 3 with fail
  have hSS:(fun w':World=>w'.cell? ⟨C.rb,6,none⟩=some (.pointer (some ⟨C.sb,0,none⟩))/\w'.cell? ⟨W.heap.size,2,none⟩=some (.string t.s)/\w'.cell? ⟨w2.heap.size,0,none⟩=some (.int .u8 t1.k)/\w'.cell? ⟨w2.heap.size,1,none⟩=some (.int .i64 t1.n)/\w'.cell? ⟨w2.heap.size,2,none⟩=some (.string t1.s)/\w'.cell? ⟨w2.heap.size,3,none⟩=some (.slice A1 t1.ks.length c1)) w4.drew/\(fun _:World=>True) w4.drew:=⟨iU.out,trivial⟩
  refine zkd (fun w':World=>w'.cell? ⟨C.rb,6,none⟩=some (.pointer (some ⟨C.sb,0,none⟩))/\w'.cell? ⟨W.heap.size,2,none⟩=some (.string t.s)/\w'.cell? ⟨w2.heap.size,0,none⟩=some (.int .u8 t1.k)/\w'.cell? ⟨w2.heap.size,1,none⟩=some (.int .i64 t1.n)/\w'.cell? ⟨w2.heap.size,2,none⟩=some (.string t1.s)/\w'.cell? ⟨w2.heap.size,3,none⟩=some (.slice A1 t1.ks.length c1)) (fun _:World=>True) 12 (by kernel_rfl) ?_;refine zT 0 hSS ?_;(try simp only[zQ]);refine zT 1 hSS ?_;(try simp only[zQ]);refine zT 2 hSS ?_;(try simp only[zQ]);refine zT 3 hSS ?_;(try simp only[zQ]);refine zT 4 hSS ?_;(try simp only[zQ]);refine zT 5 hSS ?_;(try simp only[zQ]);refine zT 6 hSS ?_;(try simp only[zQ]);refine zT 7 hSS ?_;(try simp only[zQ]);refine zT 8 hSS ?_;(try simp only[zQ]);refine zT 9 hSS ?_;(try simp only[zQ])
  have had:Calls Tryz.prog 107 [.pointer (some ⟨C.rb,0,none⟩),nv t1.k t1.n t1.s A1 t1.ks.length c1].toArray w4.drew (ValP (C.plus W.heap.size hi) w4.drew t1 r1):=mD.out _ (Below.refl _ _).drew;refine zo 10 fun K hK=>?_;refine zlq (by rfl) (.func 107) [.tmp 24,.tmp 25] _ (by rfl) 107 _ zsO (by rfl) _ (by rfl) (fun v w'=>Below w4.heap.size w4 w'/\∃ x,v=.int .i64 x/\I64 x/\∀ f,valO t1 r1 f=f x r1) (had.mono ?_) ?_
  ·rintro e y1 ⟨fF,hv1⟩;have b1:=zka (Below.refl w4.heap.size w4).drew fF;rcases hv1 with⟨x,rfl,hx⟩|⟨x,rfl,pJ,hx⟩
   ·refine .inr ⟨_,rfl,?_⟩;refine⟨rfl,fH.out.trans (Kpt.of_below b1),zka aK.out b1,?_⟩
    try rw[bU.out]
    rw[<-iW.out,hx]
   ·exact .inl ⟨_,rfl,b1,x,rfl,pJ,hx⟩
  rintro v5 w5 ⟨b5,x,rfl,hx,wh⟩;have bP:=zh b5;have uh:=zh hx;have dZ:=zh (show(zki r1 (zli r1.S ⟨t.s,1,0⟩ x)).bind (loR C.p.prs C.F g back t t2)=o by rw[<-iW.out,wh]);refine hK.out _ _ ⟨aG.out _ b5,trivial⟩ ?_;clear hK K had b5 hx wh hSS mD;(try simp only[zQ]);obtain⟨R,hR⟩:∃ R,zli r1.S ⟨t.s,1,0⟩ x=R:=⟨_,rfl⟩
  have HRR:=zh hR;have dO:=jH.out.1.cur;have sF:=H.out.n;have had:Calls Tryz.prog 81 [.pointer (some ⟨C.sb,0,none⟩),.agg #[.string t.s,.int .u8 1,.int .i64 0],.int .i64 x].toArray w5 fun e w'=>∃ v,e=.returned v/\(v=.int .i64 R.1/\RI (C.plus W.heap.size hi) w' { r1 with S:=R.2 }/\Kpt C.n0 (C.plus W.heap.size hi).kb w5 w') :=
   ((HR4.out.later bP.out).ks.open_ ⟨t.s,1,0⟩ (by obtain⟨_,_,_,hf,-⟩:=HV.out.open_;exact⟨hf.2.2,⟨by simp only;omega,by simp only;omega⟩,⟨by simp only;omega,by simp only;omega⟩⟩) x uh.out (by omega)).mono fun e w' ⟨h1,h2,h3⟩=>⟨_,h1,by rw[hR],(RI.store (C:=C.plus W.heap.size hi) (HR4.out.later bP.out) (hR▸h2) h3 (by rw[jH.out.2,<-hR];exact jH.out.1.open_ _ _))⟩
  refine zo 11 fun K hK=>?_;refine zlG (by rfl) (.func 81) [.tmp 20,.tmp 23,.tmp 26] _ (by rfl) 81 _ zsU (by rfl) _ (by rfl) _ had ?_;rintro v6 w6 ⟨rfl,eZ,dW⟩;have il:=zh (fw.out.trans ((Kpt.of_below bP.out).trans dW));have j0:=il.out.blk (.inr (.inr ⟨by omega,l0⟩)) K0.out;have j1:=il.out.blk (.inr (.inr ⟨by omega,l1⟩)) K1.out;have iK:=zh eZ;have aD:(fun w':World=>w'.cell? ⟨C.rb,6,none⟩=some (.pointer (some ⟨C.sb,0,none⟩))/\w'.cell? ⟨W.heap.size,2,none⟩=some (.string t.s)/\w'.cell? ⟨w2.heap.size,0,none⟩=some (.int .u8 t1.k)/\w'.cell? ⟨w2.heap.size,1,none⟩=some (.int .i64 t1.n)/\w'.cell? ⟨w2.heap.size,2,none⟩=some (.string t1.s)/\w'.cell? ⟨w2.heap.size,3,none⟩=some (.slice A1 t1.ks.length c1)) w6:=⟨eZ.cells.1,zc j0 rfl,zc j1 rfl,zc j1 rfl,zc j1 rfl,zc j1 rfl⟩
  refine hK.out _ _ ⟨aD,trivial⟩ ?_;have nZ:=zh aD;have di:=zh eZ.below;clear hK K had eZ dW j0 j1 aD iU aG;(try simp only[zQ]);have gQ:=zh (dF.out.trans (Kpt.less (C:=C) il.out));rw[hR] at dZ;have had:=zlu ⟨C.rb,0,none⟩ R.1 w6;refine zp 12 fun K hK=>?_;refine zlq (by rfl) (.func 80) [.tmp 16,.tmp 27] _ (by rfl) 80 _ zmy (by rfl) _ (by rfl) (fun v w'=>w'=w6/\R.1=0) (had.mono ?_) ?_
  ·rintro e y1 ⟨rfl,hv1⟩;rcases hv1 with⟨h0,u0,rfl⟩|⟨h0,rfl⟩
   ·exact .inl ⟨_,rfl,rfl,h0⟩
   ·refine .inr ⟨_,rfl,?_⟩;refine⟨rfl,gQ.out,di.out,?_⟩
    try rw[bU.out]
    rw[<-dZ.out,show zki r1 R=.err R.1 by unfold zki;rw[if_pos h0]];rfl
  rintro v7 w7 ⟨rfl,h0⟩;have iV:=zh (show loR C.p.prs C.F g back t t2 { r1 with S:=R.2 }=o by rw[<-dZ.out,show zki r1 R=.ok { r1 with S:=R.2 } by unfold zki;rw[if_neg (by simpa using h0)]];rfl);refine hK.out _ _ nZ.out ?_;clear hK K had h0;(try simp only[zQ]);refine zd ?_;obtain⟨r2,hr2⟩:∃ x,({ r1 with S:=R.2 }:RS)=x:=⟨_,rfl⟩
  rw[hr2] at iK iV;have hI:1<t.ks.length:=by have:=qD.out;omega
  have hI1:(1:Int)<(t.ks.length:Int):=by omega
  obtain⟨a,u,Au,cu,rfl,-,hu,⟨p0,p1,p2,p3⟩,hnu⟩:=ah.out.nd hI;have iH:kid t 1=u:=by unfold kid;rw[List.getD_eq_getElem?_getD,List.getElem?_eq_getElem hI];exact hu.out
  have uN:=zh (show ∀ x∈u.ks,G C.p.prs x by rw[<-iH];exact hG1);have gH:=zh (show(runO C.p.prs C.F g back u r2).bind (fun r=>(zkq C.F r).bind fun r=>valO t2 r fun x r=>zki r (zkL r.S t.s x))=o by rw[<-iV.out,<-iH];rfl);have hgu:runO C.p.prs C.F g back u r2 ≠ .gas:=fun e=>ed.out (by rw[<-gH.out,e];rfl);have az:=zh (zlz HS.out mM.out iK.out u _ back hnu uN.out hgu);have ha:a.add (1*4)=⟨a.block,a.off+4,none⟩:=by unfold Addr.add;split<;>simp_all
  rw[ha] at p0 p1 p2 p3;have q0:=zb di.out p0;have q1:=zb di.out p1;have q2:=zb di.out p2;have q3:=zb di.out p3;have j0:=il.out.blk (.inr (.inr ⟨by omega,l0⟩)) K0.out;have q4:=zc (i:=3) j0 rfl;clear iH hnu hu p0 p1 p2 p3 hgu ha j0 dO sF;go_wp2_with fail;refine az.out.mono ?_;rintro e w8 ⟨qM,nL,kJ⟩;have oC:=zh (il.out.trans qM);have qE:=zh (dF.out.trans (Kpt.less (C:=C) oC.out));have mP:=zh (show Below C.w.heap.size C.w w8 from nL);have dL:match runO C.p.prs C.F g back u r2 with
   | .gas=>True
   | .err x=>e=zlT x
   | .ok r=>(∃ u,e=.returned u)/\RI (C.plus W.heap.size hi) w8 r:=kJ
  clear q0 q1 q2 q3 q4 qM nL kJ az
  cases hx:runO C.p.prs C.F g back u r2 with
  | gas=>exact absurd (by rw[<-gH.out,hx];rfl) ed.out
  | err x =>
   rw[hx] at dL;subst dL;refine⟨rfl,qE.out,mP.out,?_⟩
   try rw[bU.out]
   rw[<-gH.out,hx];rfl
  | ok r3 =>
   rw[hx] at dL;obtain⟨⟨u9,rfl⟩,hr3⟩:=dL;have HST:=zh (zme mM.out hr3);have kQ:=zh (show((zkq C.F r3).bind fun r=>valO t2 r fun x r=>zki r (zkL r.S t.s x))=o by rw[<-gH.out,hx];rfl);have o8:=zh hr3;clear hx hr3;go_wp2_with fail;refine HST.out.mono ?_;rintro e w9 ⟨aN,bO,bG⟩;have jE:=zh (oC.out.trans aN);have jD:=zh (dF.out.trans (Kpt.less (C:=C) jE.out));have dV:=zh (show Below C.w.heap.size C.w w9 from bO);have iF:match zkq C.F r3 with
    | .gas=>True
    | .err x=>e=zlT x
    | .ok r=>(∃ u,e=.returned u)/\RI (C.plus W.heap.size hi) w9 r:=bG
   clear aN bO bG HST
   cases hy:zkq C.F r3 with
   | gas=>exact absurd (by rw[<-kQ.out,hy];rfl) ed.out
   | err x =>
    rw[hy] at iF;subst iF;refine⟨rfl,jD.out,dV.out,?_⟩
    try rw[bU.out]
    rw[<-kQ.out,hy];rfl
   | ok r4 =>
    rw[hy] at iF;obtain⟨⟨u9,rfl⟩,hr4⟩:=iF;have uz:=zh hr4;have gP:=zh (show(valO t2 r4 fun x r=>zki r (zkL r.S t.s x))=o by rw[<-kQ.out,hy];rfl);have jG:=zh (show FB r3.n r4.S/\r4.n=r3.n+1 by obtain⟨rfl,-⟩:=zkY hy;exact⟨o8.out.fb,rfl⟩);have j0:=jE.out.blk (.inr (.inr ⟨by omega,l0⟩)) K0.out;have j2:=jE.out.blk (.inr (.inr ⟨by omega,l2⟩)) K2.out;have mD:=zh (fun w' (hb:Below w9.heap.size w9 w')=>zpE (hr4.later hb) t2 _ aT.out)
    have aG:=zh (show ∀ w',Below w9.heap.size w9 w'->(fun w':World=>w'.cell? ⟨C.rb,6,none⟩=some (.pointer (some ⟨C.sb,0,none⟩))/\w'.cell? ⟨W.heap.size,2,none⟩=some (.string t.s)/\w'.cell? ⟨w2.heap.size+1,0,none⟩=some (.int .u8 t2.k)/\w'.cell? ⟨w2.heap.size+1,1,none⟩=some (.int .i64 t2.n)/\w'.cell? ⟨w2.heap.size+1,2,none⟩=some (.string t2.s)/\w'.cell? ⟨w2.heap.size+1,3,none⟩=some (.slice A2 t2.ks.length c2)) w' from fun w' hb=>⟨zb hb hr4.cells.1,zb hb (zc j0 rfl),zb hb (zc j2 rfl),zb hb (zc j2 rfl),zb hb (zc j2 rfl),zb hb (zc j2 rfl)⟩);clear hr4 hy j0 j2;go_upto_region 6 with fail
    have hSS:(fun w':World=>w'.cell? ⟨C.rb,6,none⟩=some (.pointer (some ⟨C.sb,0,none⟩))/\w'.cell? ⟨W.heap.size,2,none⟩=some (.string t.s)/\w'.cell? ⟨w2.heap.size+1,0,none⟩=some (.int .u8 t2.k)/\w'.cell? ⟨w2.heap.size+1,1,none⟩=some (.int .i64 t2.n)/\w'.cell? ⟨w2.heap.size+1,2,none⟩=some (.string t2.s)/\w'.cell? ⟨w2.heap.size+1,3,none⟩=some (.slice A2 t2.ks.length c2)) w9.drew/\(fun _:World=>True) w9.drew:=⟨aG.out _ (Below.refl _ _).drew,trivial⟩
    refine zkd (fun w':World=>w'.cell? ⟨C.rb,6,none⟩=some (.pointer (some ⟨C.sb,0,none⟩))/\w'.cell? ⟨W.heap.size,2,none⟩=some (.string t.s)/\w'.cell? ⟨w2.heap.size+1,0,none⟩=some (.int .u8 t2.k)/\w'.cell? ⟨w2.heap.size+1,1,none⟩=some (.int .i64 t2.n)/\w'.cell? ⟨w2.heap.size+1,2,none⟩=some (.string t2.s)/\w'.cell? ⟨w2.heap.size+1,3,none⟩=some (.slice A2 t2.ks.length c2)) (fun _:World=>True) 11 (by kernel_rfl) ?_;refine zT 0 hSS ?_;(try simp only[zQ]);refine zT 1 hSS ?_;(try simp only[zQ]);refine zT 2 hSS ?_;(try simp only[zQ]);refine zT 3 hSS ?_;(try simp only[zQ]);refine zT 4 hSS ?_;(try simp only[zQ]);refine zT 5 hSS ?_;(try simp only[zQ]);refine zT 6 hSS ?_;(try simp only[zQ]);refine zT 7 hSS ?_;(try simp only[zQ]);refine zT 8 hSS ?_;(try simp only[zQ])
    have had:Calls Tryz.prog 107 [.pointer (some ⟨C.rb,0,none⟩),nv t2.k t2.n t2.s A2 t2.ks.length c2].toArray w9.drew (ValP (C.plus W.heap.size hi) w9.drew t2 r4):=mD.out _ (Below.refl _ _).drew;refine zo 9 fun K hK=>?_;refine zlq (by rfl) (.func 107) [.tmp 45,.tmp 46] _ (by rfl) 107 _ zsO (by rfl) _ (by rfl) (fun v w'=>Below w9.heap.size w9 w'/\∃ x,v=.int .i64 x/\I64 x/\∀ f,valO t2 r4 f=f x r4) (had.mono ?_) ?_
    ·rintro e y1 ⟨fF,hv1⟩;have b1:=zka (Below.refl w9.heap.size w9).drew fF;rcases hv1 with⟨x,rfl,hx⟩|⟨x,rfl,pJ,hx⟩
     ·refine .inr ⟨_,rfl,?_⟩;refine⟨rfl,jD.out.trans (Kpt.of_below b1),zka dV.out b1,?_⟩
      try rw[bU.out]
      rw[<-gP.out,hx]
     ·exact .inl ⟨_,rfl,b1,x,rfl,pJ,hx⟩
    rintro v10 bW ⟨b10,z,rfl,hx,wh⟩;have oK:=zh b10;obtain⟨Rc,mh⟩:∃ R,zkL r4.S t.s z=R:=⟨_,rfl⟩
    have jy:=zh (show zki r4 Rc=o by rw[<-gP.out,wh,mh]);refine hK.out _ _ ⟨aG.out _ b10,trivial⟩ ?_;clear hK K had b10 hx wh hSS mD;(try simp only[zQ]);have had:Calls Tryz.prog 82 [.pointer (some ⟨C.sb,0,none⟩),.string t.s,.int .i64 z].toArray bW fun e w'=>∃ v,e=.returned v/\(v=.int .i64 Rc.1/\RI (C.plus W.heap.size hi) w' { r4 with S:=Rc.2 }/\Kpt C.n0 (C.plus W.heap.size hi).kb bW w') :=
     ((uz.out.later oK.out).ks.close t.s z).mono fun e w' ⟨h1,h2,h3⟩=>⟨_,h1,by rw[mh],(RI.store (C:=C.plus W.heap.size hi) (uz.out.later oK.out) (mh▸h2) h3 (by rw[jG.out.2,<-mh];exact jG.out.1.close_ _ _))⟩
    refine zo 10 fun K hK=>?_;refine zlG (by rfl) (.func 82) [.tmp 42,.tmp 44,.tmp 47] _ (by rfl) 82 _ zrm (by rfl) _ (by rfl) _ had ?_;rintro v11 bq ⟨rfl,iE,jg⟩;have iw:=zh (jE.out.trans ((Kpt.of_below oK.out).trans jg));have j0:=iw.out.blk (.inr (.inr ⟨by omega,l0⟩)) K0.out;have j2:=iw.out.blk (.inr (.inr ⟨by omega,l2⟩)) K2.out;have lQ:=zh iE;have aD:(fun w':World=>w'.cell? ⟨C.rb,6,none⟩=some (.pointer (some ⟨C.sb,0,none⟩))/\w'.cell? ⟨W.heap.size,2,none⟩=some (.string t.s)/\w'.cell? ⟨w2.heap.size+1,0,none⟩=some (.int .u8 t2.k)/\w'.cell? ⟨w2.heap.size+1,1,none⟩=some (.int .i64 t2.n)/\w'.cell? ⟨w2.heap.size+1,2,none⟩=some (.string t2.s)/\w'.cell? ⟨w2.heap.size+1,3,none⟩=some (.slice A2 t2.ks.length c2)) bq:=⟨iE.cells.1,zc j0 rfl,zc j2 rfl,zc j2 rfl,zc j2 rfl,zc j2 rfl⟩
    refine hK.out _ _ ⟨aD,trivial⟩ ?_;have nZ:=zh aD;have kI:=zh iE.below;clear hK K had iE jg j0 j2 aD aG;(try simp only[zQ]);have kD:=zh (dF.out.trans (Kpt.less (C:=C) iw.out));have had:=zlu ⟨C.rb,0,none⟩ Rc.1 bq;refine zp 11 fun K hK=>?_;refine zlq (by rfl) (.func 80) [.tmp 38,.tmp 48] _ (by rfl) 80 _ zmy (by rfl) _ (by rfl) (fun v w'=>w'=bq/\Rc.1=0) (had.mono ?_) ?_
    ·rintro e y1 ⟨rfl,hv1⟩;rcases hv1 with⟨h0,u0,rfl⟩|⟨h0,rfl⟩
     ·exact .inl ⟨_,rfl,rfl,h0⟩
     ·refine .inr ⟨_,rfl,?_⟩;refine⟨rfl,kD.out,kI.out,?_⟩
      try rw[bU.out]
      rw[<-jy.out,show zki r4 Rc=.err Rc.1 by unfold zki;rw[if_pos h0]]
    rintro v12 jU ⟨rfl,h0⟩;have iL:=zh (show o=.ok { r4 with S:=Rc.2 } by rw[<-jy.out];unfold zki;rw[if_neg (by simpa using h0)]);refine hK.out _ _ nZ.out ?_;clear hK K had h0;(try simp only[zQ]);refine zd ?_;have oh:=zh lQ.out.less;go_wp2_with fail;go_end0;refine⟨kD.out,kI.out,?_⟩
    try rw[bU.out]
    rw[iL.out];exact⟨⟨_,rfl⟩,oh.out⟩
theorem zv6 {G:List PR->T->Prop} {g:Nat} (hS:IStC G g) {C:RC} (hC:C.Ok) {W:World} {r:RS} (h:RI C W r) (t:T) (v:Value) (back:Bool) (hv:NV C.w Any t v) (hk0:t.k=52) (hk:t.ks.length=4) (hG1:∀ u∈(kid t 1).ks,G C.p.prs u) (hG2:∀ u∈(kid t 2).ks,G C.p.prs u)
  (o:Out) (ho:brO C.p.prs C.F g back t r=o) (hog:o ≠ .gas) :
  Calls Tryz.prog 51 #[.pointer (some ⟨C.rb,0,none⟩),v,.bool back] W (RunP C W o):=by
 have aC:=hog;obtain⟨k,n,s,ks⟩:=t;obtain rfl:k=52:=hk0;obtain⟨A,c,rfl,-,hlk,hlc,-⟩:=hv.open_;have hb0:=zkc (Below.refl W.heap.size W) (.cells #[.int .u8 52,.int .i64 n,.string s,.slice A ks.length c] 26);obtain⟨x0,x1,x2,x3⟩:=box4 (heap_alloc_new W (.cells #[.int .u8 52,.int .i64 n,.string s,.slice A ks.length c] 26));have aQ:=zh (Kpt.of_below (n0:=C.n0) (kb:=C.kb) hb0);have bN:=zh (show Calls Tryz.prog 76 #[.pointer (some ⟨C.rb,0,none⟩),.agg #[.int .u8 52,.int .i64 n,.string s,.slice A ks.length c],.bool back] (W.alloc (.cells #[.int .u8 52,.int .i64 n,.string s,.slice A ks.length c] 26)) (RunP C _ o) from (ho▸(zrZ hS hC (h.later hb0) _ _ back hv hk hG1 hG2 (ho▸hog))));clear hv hb0 h aC hG1 ho hk;go_enter Tryz.func51,Tryz.ntmps51;go_wp2_with fail;refine bN.out.mono ?_;rintro e w1 ⟨hk1,hb1,ho1⟩
 cases o with
 | gas=>exact absurd rfl hog
 | err x =>
  subst ho1;exact⟨rfl,aQ.out.trans hk1,hb1,rfl⟩
 | ok r1 =>
  obtain⟨⟨u,rfl⟩,hr1⟩:=ho1;have HR:=zh hr1;have aH:=zh (aQ.out.trans hk1);have HB1:=zh hb1;clear x0 x1 x2 x3 hr1 hk1 hb1;go_wp2_with fail;go_end0;exact⟨aH.out,HB1.out,⟨_,rfl⟩,HR.out⟩
theorem zsf {G:List PR->T->Prop} {g:Nat} (hS:IStC G g) {C:RC} (hC:C.Ok) {W:World} {r:RS} (h:RI C W r) (t:T) (v:Value) (back:Bool) (hv:NV C.w Any t v) (hk0:t.k=53) (hk:t.ks.length=4) (hG1:∀ u∈(kid t 1).ks,G C.p.prs u) (hG2:∀ u∈(kid t 2).ks,G C.p.prs u)
  (o:Out) (ho:lpO C.p.prs C.F g back t r=o) (hog:o ≠ .gas) :
  Calls Tryz.prog 51 #[.pointer (some ⟨C.rb,0,none⟩),v,.bool back] W (RunP C W o):=by
 have aC:=hog;obtain⟨k,n,s,ks⟩:=t;obtain rfl:k=53:=hk0;obtain⟨A,c,rfl,-,hlk,hlc,-⟩:=hv.open_;have hb0:=zkc (Below.refl W.heap.size W) (.cells #[.int .u8 53,.int .i64 n,.string s,.slice A ks.length c] 26);obtain⟨x0,x1,x2,x3⟩:=box4 (heap_alloc_new W (.cells #[.int .u8 53,.int .i64 n,.string s,.slice A ks.length c] 26));have aQ:=zh (Kpt.of_below (n0:=C.n0) (kb:=C.kb) hb0);have bN:=zh (show Calls Tryz.prog 77 #[.pointer (some ⟨C.rb,0,none⟩),.agg #[.int .u8 53,.int .i64 n,.string s,.slice A ks.length c],.bool back] (W.alloc (.cells #[.int .u8 53,.int .i64 n,.string s,.slice A ks.length c] 26)) (RunP C _ o) from (ho▸(zuz hS hC (h.later hb0) _ _ back hv hk hG1 hG2 (ho▸hog))));clear hv hb0 h aC hG1 ho hk;go_enter Tryz.func51,Tryz.ntmps51;go_wp2_with fail;refine bN.out.mono ?_;rintro e w1 ⟨hk1,hb1,ho1⟩
 cases o with
 | gas=>exact absurd rfl hog
 | err x =>
  subst ho1;exact⟨rfl,aQ.out.trans hk1,hb1,rfl⟩
 | ok r1 =>
  obtain⟨⟨u,rfl⟩,hr1⟩:=ho1;have HR:=zh hr1;have aH:=zh (aQ.out.trans hk1);have HB1:=zh hb1;clear x0 x1 x2 x3 hr1 hk1 hb1;go_wp2_with fail;go_end0;exact⟨aH.out,HB1.out,⟨_,rfl⟩,HR.out⟩
theorem zrF {G:List PR->T->Prop} {g:Nat} (hS:IStC G g) {C:RC} (hC:C.Ok) {W:World} {r:RS} (h:RI C W r) (t:T) (v:Value) (back:Bool) (hv:NV C.w Any t v) (hk0:t.k=54) (hk:t.ks.length=3) (hG1:∀ u∈(kid t 1).ks,G C.p.prs u)
  (o:Out) (ho:loO C.p.prs C.F g back t r=o) (hog:o ≠ .gas) :
  Calls Tryz.prog 51 #[.pointer (some ⟨C.rb,0,none⟩),v,.bool back] W (RunP C W o):=by
 have aC:=hog;obtain⟨k,n,s,ks⟩:=t;obtain rfl:k=54:=hk0;obtain⟨A,c,rfl,-,hlk,hlc,-⟩:=hv.open_;have hb0:=zkc (Below.refl W.heap.size W) (.cells #[.int .u8 54,.int .i64 n,.string s,.slice A ks.length c] 26);obtain⟨x0,x1,x2,x3⟩:=box4 (heap_alloc_new W (.cells #[.int .u8 54,.int .i64 n,.string s,.slice A ks.length c] 26));have aQ:=zh (Kpt.of_below (n0:=C.n0) (kb:=C.kb) hb0);have bN:=zh (show Calls Tryz.prog 78 #[.pointer (some ⟨C.rb,0,none⟩),.agg #[.int .u8 54,.int .i64 n,.string s,.slice A ks.length c],.bool back] (W.alloc (.cells #[.int .u8 54,.int .i64 n,.string s,.slice A ks.length c] 26)) (RunP C _ o) from (ho▸(zsA hS hC (h.later hb0) _ _ back hv hk hG1 (ho▸hog))));clear hv hb0 h aC hG1 ho hk;go_enter Tryz.func51,Tryz.ntmps51;go_wp2_with fail;refine bN.out.mono ?_;rintro e w1 ⟨hk1,hb1,ho1⟩
 cases o with
 | gas=>exact absurd rfl hog
 | err x =>
  subst ho1;exact⟨rfl,aQ.out.trans hk1,hb1,rfl⟩
 | ok r1 =>
  obtain⟨⟨u,rfl⟩,hr1⟩:=ho1;have HR:=zh hr1;have aH:=zh (aQ.out.trans hk1);have HB1:=zh hb1;clear x0 x1 x2 x3 hr1 hk1 hb1;go_wp2_with fail;go_end0;exact⟨aH.out,HB1.out,⟨_,rfl⟩,HR.out⟩
theorem zx3:IsFn Tryz.prog 85 Tryz.f85:=⟨Tryz.func85,by kernel_rfl,by kernel_rfl⟩
theorem zwm:IsFn Tryz.prog 84 Tryz.f84:=⟨Tryz.func84,by kernel_rfl,by kernel_rfl⟩
def basO (F:Int) (back:Bool) (t:T) (r:RS):Out:=(zkq F r).bind fun r=>zki r (if back=true then zng r.S t else doE r.S t)
theorem zuj {C:RC} (hC:C.Ok) {W:World} {r:RS} (h:RI C W r) (t:T) (v:Value) (back:Bool) (hv:NV C.w Any t v) (hk:t.k≠52/\t.k≠53/\t.k≠54/\t.k≠55/\t.k≠50/\t.k≠51) :
  Calls Tryz.prog 51 #[.pointer (some ⟨C.rb,0,none⟩),v,.bool back] W (RunP C W (basO C.F back t r)):=by
 have HV:=zh hv;have H:=zh h;obtain⟨A,c,rfl,-,hlk,hlc,-⟩:=hv.open_;have e0:(t.k==52)=false:=by simpa using hk.1
 have e1:(t.k==53)=false:=by simpa using hk.2.1
 have e2:(t.k==54)=false:=by simpa using hk.2.2.1
 have e3:(t.k==55)=false:=by simpa using hk.2.2.2.1
 have e4:(t.k==50)=false:=by simpa using hk.2.2.2.2.1
 have e5:(t.k==51)=false:=by simpa using hk.2.2.2.2.2
 have hb0:=zkc (Below.refl W.heap.size W) (.cells #[.int .u8 t.k,.int .i64 t.n,.string t.s,.slice A t.ks.length c] 26);obtain⟨fE,h1⟩:=h.plus hC hb0;have k0:=heap_alloc_new W (.cells #[.int .u8 t.k,.int .i64 t.n,.string t.s,.slice A t.ks.length c] 26);obtain⟨x0,x1,x2,x3⟩:=box4 k0;have dF:=zh (Kpt.of_below (n0:=C.n0) (kb:=C.kb) hb0);obtain⟨w3,hw3⟩:∃ x,W.alloc (.cells #[.int .u8 t.k,.int .i64 t.n,.string t.s,.slice A t.ks.length c] 26)=x:=⟨_,rfl⟩
 rw[hw3] at fE h1 k0 x0 x1 x2 x3 dF;have l0:=zku k0;have K0:=zh k0;obtain⟨hi,hhi⟩:∃ x,w3.heap.size=x:=⟨_,rfl⟩
 rw[hhi] at fE h1 l0;have jF:=zh (zme fE h1);obtain⟨o,ho⟩:∃ o,basO C.F back t r=o:=⟨_,rfl⟩
 have bU:=zh ho;have HO:=zh (show(zkq C.F r).bind (fun r=>zki r (if back=true then zng r.S t else doE r.S t))=o from ho);rw[ho];clear hv hb0 fE h1 k0 h hk ho;go_enter Tryz.func51,Tryz.ntmps51;go_wp2_with fail;refine jF.out.mono ?_;rintro e w4 ⟨hk4,hb4,eu⟩;have fH:=zh (dF.out.trans (Kpt.less (C:=C) hk4));have aK:=zh (show Below C.w.heap.size C.w w4 from hb4);have bQ:match zkq C.F r with
  | .gas=>True
  | .err x=>e=zlT x
  | .ok r=>(∃ u,e=.returned u)/\RI (C.plus W.heap.size hi) w4 r:=eu
 have fw:=zh hk4;clear x0 x1 x2 x3 jF hk4 hb4 eu hw3
 cases hy:zkq C.F r with
 | gas=>exact absurd hy (zky _ _).1
 | err x =>
  rw[hy] at bQ;subst bQ;refine⟨rfl,fH.out,aK.out,?_⟩
  try rw[bU.out]
  rw[<-HO.out,hy];rfl
 | ok r1 =>
  rw[hy] at bQ;obtain⟨⟨u3,rfl⟩,hr1⟩:=bQ;have HR4:=zh hr1;have iW:=zh (show zki r1 (if back=true then zng r1.S t else doE r1.S t)=o by rw[<-HO.out,hy];rfl);have jH:=zh (show FB r.n r1.S/\r1.n=r.n+1 by obtain⟨rfl,-⟩:=zkY hy;exact⟨H.out.fb,rfl⟩);have j0:=fw.out.blk (.inr (.inr ⟨Nat.le_refl _,l0⟩)) K0.out;have hSS:(fun w':World=>w'.cell? ⟨C.rb,6,none⟩=some (.pointer (some ⟨C.sb,0,none⟩))/\w'.cell? ⟨W.heap.size,0,none⟩=some (.int .u8 t.k)/\w'.cell? ⟨W.heap.size,1,none⟩=some (.int .i64 t.n)/\w'.cell? ⟨W.heap.size,2,none⟩=some (.string t.s)/\w'.cell? ⟨W.heap.size,3,none⟩=some (.slice A t.ks.length c)) w4.drew/\(fun _:World=>True) w4.drew:=⟨⟨hr1.cells.1,zc j0 rfl,zc j0 rfl,zc j0 rfl,zc j0 rfl⟩,trivial⟩
  clear hr1 hy j0
  cases back
  ·skip
   go_upto_region 5 with fail;refine zkd (fun w':World=>w'.cell? ⟨C.rb,6,none⟩=some (.pointer (some ⟨C.sb,0,none⟩))/\w'.cell? ⟨W.heap.size,0,none⟩=some (.int .u8 t.k)/\w'.cell? ⟨W.heap.size,1,none⟩=some (.int .i64 t.n)/\w'.cell? ⟨W.heap.size,2,none⟩=some (.string t.s)/\w'.cell? ⟨W.heap.size,3,none⟩=some (.slice A t.ks.length c)) (fun _:World=>True) 7 (by kernel_rfl) ?_;refine zT 0 hSS ?_;(try simp only[zQ]);refine zT 1 hSS ?_;(try simp only[zQ]);refine zT 2 hSS ?_;(try simp only[zQ]);refine zT 3 hSS ?_;(try simp only[zQ]);refine zT 4 hSS ?_;(try simp only[zQ]);refine zT 5 hSS ?_;(try simp only[zQ]);obtain⟨R,hR⟩:∃ R,doE r1.S t=R:=⟨_,rfl⟩
   have dZ:=zh (show zki r1 R=o by rw[<-hR];exact iW.out);have hbd:Below w4.heap.size w4 w4.drew:=(Below.refl _ _).drew;have had:Calls Tryz.prog 85 [.pointer (some ⟨C.sb,0,none⟩),.agg #[.int .u8 t.k,.int .i64 t.n,.string t.s,.slice A t.ks.length c]].toArray w4.drew fun e w'=>∃ v,e=.returned v/\(v=.int .i64 R.1/\RI (C.plus W.heap.size hi) w' { r1 with S:=R.2 }/\Kpt C.n0 (C.plus W.heap.size hi).kb w4 w') :=
    ((HR4.out.later hbd).ks.do_ t _ (HV.out.later (zka aK.out hbd))).mono fun e w' ⟨h1,h2,h3⟩=>by
     have hs:=RI.store (C:=C.plus W.heap.size hi) (HR4.out.later hbd) h2 h3 (by rw[jH.out.2];exact jH.out.1.do_ _);rw[hR] at h1 hs;exact⟨_,h1,rfl,hs.1,(Kpt.of_below hbd).trans hs.2⟩
   refine zo 6 fun K hK=>?_;refine zlG (by rfl) (.func 85) [.tmp 23,.tmp 24] _ (by rfl) 85 _ zx3 (by rfl) _ (by rfl) _ had ?_;rintro v6 w6 ⟨rfl,eZ,dW⟩;have gQ:=zh (fH.out.trans (Kpt.less (C:=C) dW));have j0:=(fw.out.trans dW).blk (.inr (.inr ⟨Nat.le_refl _,l0⟩)) K0.out;have aD:(fun w':World=>w'.cell? ⟨C.rb,6,none⟩=some (.pointer (some ⟨C.sb,0,none⟩))/\w'.cell? ⟨W.heap.size,0,none⟩=some (.int .u8 t.k)/\w'.cell? ⟨W.heap.size,1,none⟩=some (.int .i64 t.n)/\w'.cell? ⟨W.heap.size,2,none⟩=some (.string t.s)/\w'.cell? ⟨W.heap.size,3,none⟩=some (.slice A t.ks.length c)) w6:=⟨eZ.cells.1,zc j0 rfl,zc j0 rfl,zc j0 rfl,zc j0 rfl⟩
   have iK:=zh eZ.less;have di:=zh eZ.below;refine hK.out _ _ ⟨aD,trivial⟩ ?_;have nZ:=zh aD;clear hK K had eZ dW j0 aD hSS;(try simp only[zQ]);have had:=zlu ⟨C.rb,0,none⟩ R.1 w6;refine zp 7 fun K hK=>?_;refine zlq (by rfl) (.func 80) [.tmp 19,.tmp 25] _ (by rfl) 80 _ zmy (by rfl) _ (by rfl) (fun v w'=>w'=w6/\R.1=0) (had.mono ?_) ?_
   ·rintro e y1 ⟨rfl,hv1⟩;rcases hv1 with⟨h0,u0,rfl⟩|⟨h0,rfl⟩
    ·exact .inl ⟨_,rfl,rfl,h0⟩
    ·refine .inr ⟨_,rfl,?_⟩;refine⟨rfl,gQ.out,di.out,?_⟩
     try rw[bU.out]
     rw[<-dZ.out,show zki r1 R=.err R.1 by unfold zki;rw[if_pos h0]]
   rintro v12 jU ⟨rfl,h0⟩;have iL:=zh (show o=.ok { r1 with S:=R.2 } by rw[<-dZ.out];unfold zki;rw[if_neg (by simpa using h0)]);refine hK.out _ _ nZ.out ?_;clear hK K had h0;(try simp only[zQ]);refine zd ?_;go_wp2_with fail;go_end0;refine⟨gQ.out,di.out,?_⟩
   try rw[bU.out]
   rw[iL.out];exact⟨⟨_,rfl⟩,iK.out⟩
  ·skip
   go_upto_region 4 with fail;refine zkd (fun w':World=>w'.cell? ⟨C.rb,6,none⟩=some (.pointer (some ⟨C.sb,0,none⟩))/\w'.cell? ⟨W.heap.size,0,none⟩=some (.int .u8 t.k)/\w'.cell? ⟨W.heap.size,1,none⟩=some (.int .i64 t.n)/\w'.cell? ⟨W.heap.size,2,none⟩=some (.string t.s)/\w'.cell? ⟨W.heap.size,3,none⟩=some (.slice A t.ks.length c)) (fun _:World=>True) 7 (by kernel_rfl) ?_;refine zT 0 hSS ?_;(try simp only[zQ]);refine zT 1 hSS ?_;(try simp only[zQ]);refine zT 2 hSS ?_;(try simp only[zQ]);refine zT 3 hSS ?_;(try simp only[zQ]);refine zT 4 hSS ?_;(try simp only[zQ]);refine zT 5 hSS ?_;(try simp only[zQ]);obtain⟨R,hR⟩:∃ R,zng r1.S t=R:=⟨_,rfl⟩
   have dZ:=zh (show zki r1 R=o by rw[<-hR];exact iW.out);have hbd:Below w4.heap.size w4 w4.drew:=(Below.refl _ _).drew;have had:Calls Tryz.prog 84 [.pointer (some ⟨C.sb,0,none⟩),.agg #[.int .u8 t.k,.int .i64 t.n,.string t.s,.slice A t.ks.length c]].toArray w4.drew fun e w'=>∃ v,e=.returned v/\(v=.int .i64 R.1/\RI (C.plus W.heap.size hi) w' { r1 with S:=R.2 }/\Kpt C.n0 (C.plus W.heap.size hi).kb w4 w') :=
    ((HR4.out.later hbd).ks.undo t _ (HV.out.later (zka aK.out hbd))).mono fun e w' ⟨h1,h2,h3⟩=>by
     have hs:=RI.store (C:=C.plus W.heap.size hi) (HR4.out.later hbd) h2 h3 (by rw[jH.out.2];exact jH.out.1.undo _);rw[hR] at h1 hs;exact⟨_,h1,rfl,hs.1,(Kpt.of_below hbd).trans hs.2⟩
   refine zo 6 fun K hK=>?_;refine zlG (by rfl) (.func 84) [.tmp 15,.tmp 16] _ (by rfl) 84 _ zwm (by rfl) _ (by rfl) _ had ?_;rintro v6 w6 ⟨rfl,eZ,dW⟩;have gQ:=zh (fH.out.trans (Kpt.less (C:=C) dW));have j0:=(fw.out.trans dW).blk (.inr (.inr ⟨Nat.le_refl _,l0⟩)) K0.out;have aD:(fun w':World=>w'.cell? ⟨C.rb,6,none⟩=some (.pointer (some ⟨C.sb,0,none⟩))/\w'.cell? ⟨W.heap.size,0,none⟩=some (.int .u8 t.k)/\w'.cell? ⟨W.heap.size,1,none⟩=some (.int .i64 t.n)/\w'.cell? ⟨W.heap.size,2,none⟩=some (.string t.s)/\w'.cell? ⟨W.heap.size,3,none⟩=some (.slice A t.ks.length c)) w6:=⟨eZ.cells.1,zc j0 rfl,zc j0 rfl,zc j0 rfl,zc j0 rfl⟩
   have iK:=zh eZ.less;have di:=zh eZ.below;refine hK.out _ _ ⟨aD,trivial⟩ ?_;have nZ:=zh aD;clear hK K had eZ dW j0 aD hSS;(try simp only[zQ]);have had:=zlu ⟨C.rb,0,none⟩ R.1 w6;refine zp 7 fun K hK=>?_;refine zlq (by rfl) (.func 80) [.tmp 11,.tmp 17] _ (by rfl) 80 _ zmy (by rfl) _ (by rfl) (fun v w'=>w'=w6/\R.1=0) (had.mono ?_) ?_
   ·rintro e y1 ⟨rfl,hv1⟩;rcases hv1 with⟨h0,u0,rfl⟩|⟨h0,rfl⟩
    ·exact .inl ⟨_,rfl,rfl,h0⟩
    ·refine .inr ⟨_,rfl,?_⟩;refine⟨rfl,gQ.out,di.out,?_⟩
     try rw[bU.out]
     rw[<-dZ.out,show zki r1 R=.err R.1 by unfold zki;rw[if_pos h0]]
   rintro v12 jU ⟨rfl,h0⟩;have iL:=zh (show o=.ok { r1 with S:=R.2 } by rw[<-dZ.out];unfold zki;rw[if_neg (by simpa using h0)]);refine hK.out _ _ nZ.out ?_;clear hK K had h0;(try simp only[zQ]);refine zd ?_;go_wp2_with fail;go_end0;refine⟨gQ.out,di.out,?_⟩
   try rw[bU.out]
   rw[iL.out];exact⟨⟨_,rfl⟩,iK.out⟩
def lsR (prs:List PR) (F:Int) (g:Nat) (back:Bool) (t:T) (r:RS):Out :=
 (zk9 (zkr prs F g back) (blkL back (kid t 0)) r).bind fun r=>(zkq F r).bind fun r=>zki r (zkL r.S t.s 0)
def lsO (prs:List PR) (F:Int) (g:Nat) (back:Bool) (t:T) (r:RS):Out :=
 (zkq F r).bind fun r=>(zki r (zli r.S ⟨t.s,3,0⟩ 0)).bind (lsR prs F g back t)
theorem zv5 {G:List PR->T->Prop} {g:Nat} (hS:IStC G g) {C:RC} (hC:C.Ok) {W:World} {r:RS} (h:RI C W r) (t:T) (v:Value) (back:Bool) (hv:NV C.w Any t v) (hk0:t.k=55) (hk:t.ks.length=1) (hG1:∀ u∈(kid t 0).ks,G C.p.prs u)
  (aC:lsO C.p.prs C.F g back t r ≠ .gas) :
  Calls Tryz.prog 51 #[.pointer (some ⟨C.rb,0,none⟩),v,.bool back] W (RunP C W (lsO C.p.prs C.F g back t r)):=by
 have HV:=zh hv;have H:=zh h;have HS:=zh hS;have qD:=zh hk;obtain⟨A,c,rfl,-,hlk,hlc,hrow⟩:=hv.open_;have ah:=zh hrow;have hb0:=zkc (Below.refl W.heap.size W) (.cells #[.int .u8 t.k,.int .i64 t.n,.string t.s,.slice A t.ks.length c] 26);obtain⟨fE,h1⟩:=h.plus hC hb0;have k0:=heap_alloc_new W (.cells #[.int .u8 t.k,.int .i64 t.n,.string t.s,.slice A t.ks.length c] 26);obtain⟨x0,x1,x2,x3⟩:=box4 k0;have dF:=zh (Kpt.of_below (n0:=C.n0) (kb:=C.kb) hb0);obtain⟨w3,hw3⟩:∃ x,W.alloc (.cells #[.int .u8 t.k,.int .i64 t.n,.string t.s,.slice A t.ks.length c] 26)=x:=⟨_,rfl⟩
 rw[hw3] at fE h1 k0 x0 x1 x2 x3 dF;have l0:=zku k0;have K0:=zh k0;obtain⟨hi,hhi⟩:∃ x,w3.heap.size=x:=⟨_,rfl⟩
 rw[hhi] at fE h1 l0;have oG:=zh fE;have jF:=zh (zme fE h1);obtain⟨o,ho⟩:∃ o,lsO C.p.prs C.F g back t r=o:=⟨_,rfl⟩
 have bU:=zh ho;have HO:=zh (show(zkq C.F r).bind (fun r=>(zki r (zli r.S ⟨t.s,3,0⟩ 0)).bind (lsR C.p.prs C.F g back t))=o from ho);rw[ho] at aC ⊢;have ed:=zh aC;rw[hk0] at hw3;have kV:=hw3;clear hv hb0 fE h1 k0 h hk ho aC hrow hS hlk;have HKK:=zh hk0;rw[hk0] at x0;rw[hk0];clear hk0;go_enter Tryz.func51,Tryz.ntmps51;go_wp2_with fail;refine jF.out.mono ?_;rintro e w4 ⟨hk4,hb4,eu⟩;have fH:=zh (dF.out.trans (Kpt.less (C:=C) hk4));have aK:=zh (show Below C.w.heap.size C.w w4 from hb4);have bQ:match zkq C.F r with
  | .gas=>True
  | .err x=>e=zlT x
  | .ok r=>(∃ u,e=.returned u)/\RI (C.plus W.heap.size hi) w4 r:=eu
 have fw:=zh hk4;clear x0 x1 x2 x3 jF hk4 hb4 eu hw3 kV
 cases hy:zkq C.F r with
 | gas=>exact absurd hy (zky _ _).1
 | err x =>
  rw[hy] at bQ;subst bQ;refine⟨rfl,fH.out,aK.out,?_⟩
  try rw[bU.out]
  rw[<-HO.out,hy];rfl
 | ok r1 =>
  rw[hy] at bQ;obtain⟨⟨u3,rfl⟩,hr1⟩:=bQ;have HR4:=zh hr1;have iW:=zh (show(zki r1 (zli r1.S ⟨t.s,3,0⟩ 0)).bind (lsR C.p.prs C.F g back t)=o by rw[<-HO.out,hy];rfl);have jH:=zh (show FB r.n r1.S/\r1.n=r.n+1 by obtain⟨rfl,-⟩:=zkY hy;exact⟨H.out.fb,rfl⟩);have j0:=fw.out.blk (.inr (.inr ⟨Nat.le_refl _,l0⟩)) K0.out;have hSS:(fun w':World=>w'.cell? ⟨C.rb,6,none⟩=some (.pointer (some ⟨C.sb,0,none⟩))/\w'.cell? ⟨W.heap.size,2,none⟩=some (.string t.s)) w4.drew/\(fun _:World=>True) w4.drew:=⟨⟨hr1.cells.1,zc j0 rfl⟩,trivial⟩
  clear hr1 hy j0;go_upto_region 14 with fail;refine zkd (fun w':World=>w'.cell? ⟨C.rb,6,none⟩=some (.pointer (some ⟨C.sb,0,none⟩))/\w'.cell? ⟨W.heap.size,2,none⟩=some (.string t.s)) (fun _:World=>True) 9 (by kernel_rfl) ?_;refine zT 0 hSS ?_;(try simp only[zQ]);refine zT 1 hSS ?_;(try simp only[zQ]);refine zT 2 hSS ?_;(try simp only[zQ]);refine zT 3 hSS ?_;(try simp only[zQ]);refine zT 4 hSS ?_;(try simp only[zQ]);refine zT 5 hSS ?_;(try simp only[zQ]);refine zT 6 hSS ?_;(try simp only[zQ]);refine zT 7 hSS ?_;(try simp only[zQ]);obtain⟨R,hR⟩:∃ R,zli r1.S ⟨t.s,3,0⟩ 0=R:=⟨_,rfl⟩
  have HRR:=zh hR;have dO:=jH.out.1.cur;have sF:=H.out.n;have hbd:Below w4.heap.size w4 w4.drew:=(Below.refl _ _).drew;have had:Calls Tryz.prog 81 [.pointer (some ⟨C.sb,0,none⟩),.agg #[.string t.s,.int .u8 3,.int .i64 0],.int .i64 0].toArray w4.drew fun e w'=>∃ v,e=.returned v/\(v=.int .i64 R.1/\RI (C.plus W.heap.size hi) w' { r1 with S:=R.2 }/\Kpt C.n0 (C.plus W.heap.size hi).kb w4 w') :=
   ((HR4.out.later hbd).ks.open_ ⟨t.s,3,0⟩ (by obtain⟨_,_,_,hf,-⟩:=HV.out.open_;exact⟨hf.2.2,⟨by simp only;omega,by simp only;omega⟩,⟨by simp only;omega,by simp only;omega⟩⟩) 0 zero_I64 (by omega)).mono fun e w' ⟨h1,h2,h3⟩=>by
    have hs:=RI.store (C:=C.plus W.heap.size hi) (HR4.out.later hbd) (hR▸h2) h3 (by rw[jH.out.2,<-hR];exact jH.out.1.open_ _ _);exact⟨_,h1,by rw[hR],hs.1,(Kpt.of_below hbd).trans hs.2⟩
  refine zo 8 fun K hK=>?_;refine zlG (by rfl) (.func 81) [.tmp 53,.tmp 56,.const (.int .i64 0)] _ (by rfl) 81 _ zsU (by rfl) _ (by rfl) _ had ?_;rintro v6 w6 ⟨rfl,eZ,dW⟩;have il:=zh (fw.out.trans dW);have j0:=il.out.blk (.inr (.inr ⟨Nat.le_refl _,l0⟩)) K0.out;have iK:=zh eZ;have aD:(fun w':World=>w'.cell? ⟨C.rb,6,none⟩=some (.pointer (some ⟨C.sb,0,none⟩))/\w'.cell? ⟨W.heap.size,2,none⟩=some (.string t.s)) w6:=⟨eZ.cells.1,zc j0 rfl⟩
  refine hK.out _ _ ⟨aD,trivial⟩ ?_;have nZ:=zh aD;have di:=zh eZ.below;clear hK K had eZ dW j0 aD hSS;(try simp only[zQ]);have gQ:=zh (dF.out.trans (Kpt.less (C:=C) il.out));rw[hR] at iW;have had:=zlu ⟨C.rb,0,none⟩ R.1 w6;refine zp 9 fun K hK=>?_;refine zlq (by rfl) (.func 80) [.tmp 49,.tmp 57] _ (by rfl) 80 _ zmy (by rfl) _ (by rfl) (fun v w'=>w'=w6/\R.1=0) (had.mono ?_) ?_
  ·rintro e y1 ⟨rfl,hv1⟩;rcases hv1 with⟨h0,u0,rfl⟩|⟨h0,rfl⟩
   ·exact .inl ⟨_,rfl,rfl,h0⟩
   ·refine .inr ⟨_,rfl,?_⟩;refine⟨rfl,gQ.out,di.out,?_⟩
    try rw[bU.out]
    rw[<-iW.out,show zki r1 R=.err R.1 by unfold zki;rw[if_pos h0]];rfl
  rintro v7 w7 ⟨rfl,h0⟩;have iV:=zh (show lsR C.p.prs C.F g back t { r1 with S:=R.2 }=o by rw[<-iW.out,show zki r1 R=.ok { r1 with S:=R.2 } by unfold zki;rw[if_neg (by simpa using h0)]];rfl);refine hK.out _ _ nZ.out ?_;clear hK K had h0;(try simp only[zQ]);refine zd ?_;obtain⟨r2,hr2⟩:∃ x,({ r1 with S:=R.2 }:RS)=x:=⟨_,rfl⟩
  rw[hr2] at iK iV;have hI:0<t.ks.length:=by have:=qD.out;omega
  have hI1:(0:Int)<(t.ks.length:Int):=by omega
  obtain⟨a,u,Au,cu,rfl,-,hu,⟨p0,p1,p2,p3⟩,hnu⟩:=ah.out.nd hI;have iH:kid t 0=u:=by unfold kid;rw[List.getD_eq_getElem?_getD,List.getElem?_eq_getElem hI];exact hu.out
  have uN:=zh (show ∀ x∈u.ks,G C.p.prs x by rw[<-iH];exact hG1);have gH:=zh (show(runO C.p.prs C.F g back u r2).bind (fun r=>(zkq C.F r).bind fun r=>zki r (zkL r.S t.s 0))=o by rw[<-iV.out,<-iH];rfl);have hgu:runO C.p.prs C.F g back u r2 ≠ .gas:=fun e=>ed.out (by rw[<-gH.out,e];rfl);have az:=zh (zlz HS.out oG.out iK.out u _ back hnu uN.out hgu);have ha:a.add (0*4)=a:=by unfold Addr.add;simp
  rw[ha] at p0 p1 p2 p3;have q0:=zb di.out p0;have q1:=zb di.out p1;have q2:=zb di.out p2;have q3:=zb di.out p3;have j0:=il.out.blk (.inr (.inr ⟨Nat.le_refl _,l0⟩)) K0.out;have q4:=zc (i:=3) j0 rfl;clear iH hnu hu p0 p1 p2 p3 hgu ha j0 dO sF hG1;go_wp2_with fail;refine az.out.mono ?_;rintro e w8 ⟨qM,nL,kJ⟩;have oC:=zh (il.out.trans qM);have qE:=zh (dF.out.trans (Kpt.less (C:=C) oC.out));have mP:=zh (show Below C.w.heap.size C.w w8 from nL);have dL:match runO C.p.prs C.F g back u r2 with
   | .gas=>True
   | .err x=>e=zlT x
   | .ok r=>(∃ u,e=.returned u)/\RI (C.plus W.heap.size hi) w8 r:=kJ
  clear q0 q1 q2 q3 q4 qM nL kJ az
  cases hx:runO C.p.prs C.F g back u r2 with
  | gas=>exact absurd (by rw[<-gH.out,hx];rfl) ed.out
  | err x =>
   rw[hx] at dL;subst dL;refine⟨rfl,qE.out,mP.out,?_⟩
   try rw[bU.out]
   rw[<-gH.out,hx];rfl
  | ok r3 =>
   rw[hx] at dL;obtain⟨⟨u9,rfl⟩,hr3⟩:=dL;have HST:=zh (zme oG.out hr3);have kQ:=zh (show((zkq C.F r3).bind fun r=>zki r (zkL r.S t.s 0))=o by rw[<-gH.out,hx];rfl);have o8:=zh hr3;clear hx hr3;go_wp2_with fail;refine HST.out.mono ?_;rintro e w9 ⟨aN,bO,bG⟩;have jE:=zh (oC.out.trans aN);have jD:=zh (dF.out.trans (Kpt.less (C:=C) jE.out));have dV:=zh (show Below C.w.heap.size C.w w9 from bO);have iF:match zkq C.F r3 with
    | .gas=>True
    | .err x=>e=zlT x
    | .ok r=>(∃ u,e=.returned u)/\RI (C.plus W.heap.size hi) w9 r:=bG
   clear aN bO bG HST
   cases hy:zkq C.F r3 with
   | gas=>exact absurd (by rw[<-kQ.out,hy];rfl) ed.out
   | err x =>
    rw[hy] at iF;subst iF;refine⟨rfl,jD.out,dV.out,?_⟩
    try rw[bU.out]
    rw[<-kQ.out,hy];rfl
   | ok r4 =>
    rw[hy] at iF;obtain⟨⟨u9,rfl⟩,hr4⟩:=iF;have uz:=zh hr4;have jG:=zh (show FB r3.n r4.S/\r4.n=r3.n+1 by obtain⟨rfl,-⟩:=zkY hy;exact⟨o8.out.fb,rfl⟩);obtain⟨Rc,mh⟩:∃ R,zkL r4.S t.s 0=R:=⟨_,rfl⟩
    have jy:=zh (show zki r4 Rc=o by rw[<-kQ.out,hy,<-mh];rfl);have j0:=jE.out.blk (.inr (.inr ⟨Nat.le_refl _,l0⟩)) K0.out;have hSS:(fun w':World=>w'.cell? ⟨C.rb,6,none⟩=some (.pointer (some ⟨C.sb,0,none⟩))/\w'.cell? ⟨W.heap.size,2,none⟩=some (.string t.s)) w9.drew/\(fun _:World=>True) w9.drew:=⟨⟨hr4.cells.1,zc j0 rfl⟩,trivial⟩
    clear hr4 hy j0;go_upto_region 17 with fail;refine zkd (fun w':World=>w'.cell? ⟨C.rb,6,none⟩=some (.pointer (some ⟨C.sb,0,none⟩))/\w'.cell? ⟨W.heap.size,2,none⟩=some (.string t.s)) (fun _:World=>True) 8 (by kernel_rfl) ?_;refine zT 0 hSS ?_;(try simp only[zQ]);refine zT 1 hSS ?_;(try simp only[zQ]);refine zT 2 hSS ?_;(try simp only[zQ]);refine zT 3 hSS ?_;(try simp only[zQ]);refine zT 4 hSS ?_;(try simp only[zQ]);refine zT 5 hSS ?_;(try simp only[zQ]);refine zT 6 hSS ?_;(try simp only[zQ]);have tK:Below w9.heap.size w9 w9.drew:=(Below.refl _ _).drew;have had:Calls Tryz.prog 82 [.pointer (some ⟨C.sb,0,none⟩),.string t.s,.int .i64 0].toArray w9.drew fun e w'=>∃ v,e=.returned v/\(v=.int .i64 Rc.1/\RI (C.plus W.heap.size hi) w' { r4 with S:=Rc.2 }/\Kpt C.n0 (C.plus W.heap.size hi).kb w9 w') :=
     ((uz.out.later tK).ks.close t.s 0).mono fun e w' ⟨h1,h2,h3⟩=>by
      have hs:=RI.store (C:=C.plus W.heap.size hi) (uz.out.later tK) (mh▸h2) h3 (by rw[jG.out.2,<-mh];exact jG.out.1.close_ _ _);exact⟨_,h1,by rw[mh],hs.1,(Kpt.of_below tK).trans hs.2⟩
    refine zo 7 fun K hK=>?_;refine zlG (by rfl) (.func 82) [.tmp 72,.tmp 74,.const (.int .i64 0)] _ (by rfl) 82 _ zrm (by rfl) _ (by rfl) _ had ?_;rintro v11 bq ⟨rfl,iE,jg⟩;have iw:=zh (jE.out.trans jg);have j0:=iw.out.blk (.inr (.inr ⟨Nat.le_refl _,l0⟩)) K0.out;have lQ:=zh iE;have aD:(fun w':World=>w'.cell? ⟨C.rb,6,none⟩=some (.pointer (some ⟨C.sb,0,none⟩))/\w'.cell? ⟨W.heap.size,2,none⟩=some (.string t.s)) bq:=⟨iE.cells.1,zc j0 rfl⟩
    refine hK.out _ _ ⟨aD,trivial⟩ ?_;have nZ:=zh aD;have kI:=zh iE.below;clear hK K had iE jg j0 aD hSS;(try simp only[zQ]);have kD:=zh (dF.out.trans (Kpt.less (C:=C) iw.out));have had:=zlu ⟨C.rb,0,none⟩ Rc.1 bq;refine zp 8 fun K hK=>?_;refine zlq (by rfl) (.func 80) [.tmp 68,.tmp 75] _ (by rfl) 80 _ zmy (by rfl) _ (by rfl) (fun v w'=>w'=bq/\Rc.1=0) (had.mono ?_) ?_
    ·rintro e y1 ⟨rfl,hv1⟩;rcases hv1 with⟨h0,u0,rfl⟩|⟨h0,rfl⟩
     ·exact .inl ⟨_,rfl,rfl,h0⟩
     ·refine .inr ⟨_,rfl,?_⟩;refine⟨rfl,kD.out,kI.out,?_⟩
      try rw[bU.out]
      rw[<-jy.out,show zki r4 Rc=.err Rc.1 by unfold zki;rw[if_pos h0]]
    rintro v12 jU ⟨rfl,h0⟩;have iL:=zh (show o=.ok { r4 with S:=Rc.2 } by rw[<-jy.out];unfold zki;rw[if_neg (by simpa using h0)]);refine hK.out _ _ nZ.out ?_;clear hK K had h0;(try simp only[zQ]);refine zd ?_;have oh:=zh lQ.out.less;go_wp2_with fail;go_end0;refine⟨kD.out,kI.out,?_⟩
    try rw[bU.out]
    rw[iL.out];exact⟨⟨_,rfl⟩,oh.out⟩
end Go.Proofs.YtmbbaccjcekhkaaGreat
namespace Go.Proofs.YtmbbaccjcekhkaaGreat
open Go.RowKit
mutual
/-- ast.limited: what is left of the count,or none. -/
def lim:T->Nat->Nat->Option Nat
 | .nd _ _ _ ks,d,l=>if d=0\/l=0 then none else lims ks (d-1) (l-1)
def lims:List T->Nat->Nat->Option Nat
 | [],_,l=>some l
 | t::ts,d,l=>match lim t d l with
  | none=>none
  | some l'=>lims ts d l'
end
theorem zoe (ts us:List T) (d:Nat):∀ l,lims (ts++us) d l=(lims ts d l).bind fun r=>lims us d r:=by
 induction ts with
 | nil=>intro l;simp[lims]
 | cons t ts ih =>
  intro l;simp only[List.cons_append,lims]
  cases lim t d l with
  | none=>rfl
  | some r=>exact ih r
theorem zuA (t:T) (d l:Nat):lims [t] d l=lim t d l:=by
 simp only[lims]
 cases lim t d l<;>rfl
theorem zsB {ks:List T} {d l r j:Nat} (hj:j<ks.length) (h:lims (ks.take j) d l=some r):lims (ks.take (j+1)) d l=lim ks[j] d r:=by
 rw[List.take_succ_eq_append_getElem hj,zoe,h];exact zuA _ _ _
theorem zsC {ks:List T} {d l j:Nat} (h:lims (ks.take j) d l=none):lims ks d l=none:=by
 rw[<-List.take_append_drop j ks,zoe,h];rfl
theorem zxa (t:T):∀ d l r,lim t d l=some r->r<=l:=by
 induction t using T.ind with
 | _ k n s ks ih =>
 intro d l r h;rw[lim] at h
 split at h
 ·cases h
 ·have key:∀ (us:List T),(∀ t∈us,∀ d l r,lim t d l=some r->r<=l)->∀ l r d,lims us d l=some r->r<=l:=by
   intro us
   induction us with
   | nil=>intro _ l r d h;simp[lims] at h;omega
   | cons t us ih2 =>
    intro hu l r d h;simp only[lims] at h
    cases h1:lim t d l with
    | none=>rw[h1] at h;cases h
    | some r1 =>
     rw[h1] at h;have:=hu t (by simp) d l r1 h1;have:=ih2 (fun t ht=>hu t (by simp[ht])) r1 r d h;omega
  have:=key ks ih _ _ _ h;omega
def LimE (w:World) (b:Nat) (o:Option Nat) (e:Ending) (w':World):Prop :=
 e=.returned (.bool o.isSome)/\∃ l':Nat,w'.heap[b]?=some (.cells #[.int .i64 (l':Int)] 3 (0,0))/\(∀ r,o=some r->l'=r)/\w.grownBy w' (some b)
theorem znd {a b c:World} {row:Option Nat} (h1:a.grownBy b row) (h2:b.grownBy c row):a.grownBy c row :=
 ⟨h2.os.trans h1.os,h2.tape.trans h1.tape,h2.output.trans h1.output,Nat.le_trans h1.size h2.size,fun i hi hne=>(h2.block i (Nat.lt_of_lt_of_le hi h1.size) hne).trans (h1.block i hi hne)⟩
theorem zmx {w:World} (o:Obj) (row:Option Nat):w.grownBy (w.alloc o) row :=
 let h:=(Below.refl w.heap.size w).alloc (Nat.le_refl _) o
 ⟨h.os,h.tape,h.output,h.size,fun b hb _=>h.block b hb⟩
theorem zl3.grown {w w':World} {S:Nat->Prop} {A:Option Addr} {ts:List T} {b:Nat} (h:zl3 w S A ts) (hg:w.grownBy w' (some b)) (hb:¬ S b):zl3 w' S A ts :=
 h.keep (fun _ h _=>h) fun i hi hlt=>hg.block i hlt fun e=>by injection e with e;subst e;exact hb hi
theorem zqD (t:T):∀ (d l:Nat) (S:Nat->Prop) (v:Value) (w:World) (b:Nat),NV w S t v->¬ S b->d<=80->l<=2000->w.heap[b]?=some (.cells #[.int .i64 (l:Int)] 3 (0,0)) ->
  Calls Tryz.prog 56 #[v,.int .i64 (d:Int),.pointer (some ⟨b,0,none⟩)] w (LimE w b (lim t d l)):=by
 induction t using T.ind with
 | _ k n s ks ih =>
 intro d l S v w b hv hSb hd hl hbx;obtain⟨A,c,rfl,hf,hlk,hlc,hrow⟩:=hv.open_;simp only[T.k_nd,T.n_nd,T.s_nd,T.ks_nd] at *
 have aF:=zkS hlk;have IH:=zh ih;have ah:=zh hrow;have uu:=zh hSb;have ax:=zh hbx;have hbl:=zku hbx;have c0:=zkm (zc (i:=0) (u:=.int .i64 (l:Int)) hbx rfl);have f0:∀ o:Obj,(w.alloc o).frozen? ⟨b,0,none⟩=false:=fun o=>by
  have:(w.alloc o).heap[b]?=some (.cells #[.int .i64 (l:Int)] 3 (0,0)):=(Below.heap_alloc w o b hbl).trans hbx;exact zf this
 clear hv ih hrow hSb hf hlk hbx;have hne:¬ b=w.heap.size:=by omega
 have hne':¬ w.heap.size=b:=by omega
 by_cases hd0:d=0
 ·subst hd0;have HX:=zh (show lim (.nd k n s ks) 0 l=none by rw[lim];simp);go_enter Tryz.func56,Tryz.ntmps56;go_wp2_with fail;go_ret;rw[HX.out];exact⟨rfl,l,(Below.heap_alloc w _ b hbl).trans ax.out,(fun r h=>by cases h),zmx _ _⟩
 by_cases hl0:l=0
 ·subst hl0;have HX:=zh (show lim (.nd k n s ks) d 0=none by rw[lim];simp);have fd:((d:Int)==0)=false:=by simpa using hd0
  go_enter Tryz.func56,Tryz.ntmps56;go_wp2_with fail;go_ret;rw[HX.out];exact⟨rfl,0,(Below.heap_alloc w _ b hbl).trans ax.out,(fun r h=>by cases h),zmx _ _⟩
 obtain⟨d',rfl⟩:∃ d',d=d'+1:=⟨d-1,by omega⟩
 obtain⟨l',rfl⟩:∃ l',l=l'+1:=⟨l-1,by omega⟩
 have HX:=zh (show lim (.nd k n s ks) (d'+1) (l'+1)=lims ks d' l' by rw[lim,if_neg (by omega)];simp);rw[show((d'+1:Nat):Int)=(d':Int)+1 from rfl];have fd:((d':Int)+1==0)=false:=by simp;omega
 have fl:((l':Int)+1==0)=false:=by simp;omega
 clear hd0 hl0;have hb1:(w.setCell ⟨b,0,none⟩ (.int .i64 (l':Int))).heap[b]?=some (.cells #[.int .i64 (l':Int)] 3 (0,0)):=by
  have h1:=heap_setCell_same w b 0 _ 3 (.int .i64 (l':Int)) ax.out;simpa using h1
 have hz1:(w.setCell ⟨b,0,none⟩ (.int .i64 (l':Int))).heap.size=w.heap.size:=by simp[World.setCell]
 obtain⟨W0,hW0⟩:∃ W0,(w.setCell ⟨b,0,none⟩ (.int .i64 (l':Int))).alloc (.cells #[.int .u8 k,.int .i64 n,.string s,.slice A ks.length c] 26)=W0:=⟨_,rfl⟩
 have H0:W0.heap[b]?=some (.cells #[.int .i64 (l':Int)] 3 (0,0)):=by
  rw[<-hW0,Below.heap_alloc _ _ b (by rw[hz1];exact hbl)];exact hb1
 have A0:W0.heap[w.heap.size]?=some (.cells #[.int .u8 k,.int .i64 n,.string s,.slice A ks.length c] 26 (0,0)):=by
  rw[<-hW0,<-hz1];exact heap_alloc_new _ _
 have G0:w.grownBy W0 (some b):=by
  rw[<-hW0];refine znd (zuu (zmn w (some b)) (p:=⟨b,0,none⟩) rfl _) (zmx _ _)
 have HH:=zh (And.intro H0 (And.intro A0 G0));have HW0:=zh hW0;clear H0 G0 A0 hb1 hz1 hW0;go_enter Tryz.func56,Tryz.ntmps56;go_wp2_with fail;rw[HW0.out];clear c0 f0
 go_loopw [25] (fun i wr=>∃ (j lc:Nat),j<=ks.length/\i=.int .i64 j/\lc<=2000/\Hid (lims (ks.take j) d' l'=some lc)/\wr.heap[b]?=some (.cells #[.int .i64 (lc:Int)] 3 (0,0))/\wr.heap[w.heap.size]?=some (.cells #[.int .u8 k,.int .i64 n,.string s,.slice A ks.length c] 26 (0,0))/\w.grownBy wr (some b)) (fun i _=>ks.length-(intOf i).toNat)
 case atStart=>exact⟨0,l',Nat.zero_le _,rfl,by omega,zh (by simp[lims]),HH.out.1,HH.out.2.1,HH.out.2.2⟩
 case round =>
  obtain⟨j,lc,hj,rfl,pU,HLI,hbx,hax,hg⟩:=hrel;clear HH HW0;by_cases hlt:j<ks.length
  ·obtain⟨a,t,A1,c1,rfl,_,Ht,⟨q0,q1,q2,q3⟩,hn⟩:=(ah.out.grown hg uu.out).nd hlt;have hI:=IH.out ks[j] (List.getElem_mem hlt);rw[Ht.out] at hI;have qd:=zku hbx;have hal:∀ o:Obj,(wr.alloc o).heap[b]?=some (.cells #[.int .i64 (lc:Int)] 3 (0,0)):=fun o=>(Below.heap_alloc wr o b qd).trans hbx;have HI1:=zh (hI d' lc S _ (wr.alloc (.cells #[.int .u8 t.k,.int .i64 t.n,.string t.s,.slice A1 t.ks.length c1] 26)) b (hn.later ((Below.refl _ _).alloc (Nat.le_refl _) _)) uu.out (by omega) pU (hal _));have HT:=zh (show lims (ks.take (j+1)) d' l'=lim t d' lc by rw[zsB hlt HLI.out,Ht.out]);have HG:=zh (znd hg (zmx (.cells #[.int .u8 t.k,.int .i64 t.n,.string t.s,.slice A1 t.ks.length c1] 26) _))
   have HAX:=zh (show ∀ o:Obj,(wr.alloc o).heap[w.heap.size]?=some (.cells #[.int .u8 k,.int .i64 n,.string s,.slice (some a) ks.length c] 26 (0,0)) from fun o=>(Below.heap_alloc wr o _ (zku hax)).trans hax);clear hI hn hbx hax hal;go_wp2_with fail;refine HI1.out.mono ?_;rintro e w1 ⟨rfl,l1,hb1,hl1,hg1⟩;have pF:=zh (znd HG.out hg1);have HA1:=zh ((hg1.block _ (zku (HAX.out _)) (fun e=>hne' (by injection e))).trans (HAX.out _));have HB1:=zh hb1;clear hb1 hg1
   cases ho:lim t d' lc with
   | none =>
    have bF:=zh (show lims ks d' l'=none from zsC (j:=j+1) (by rw[HT.out,ho]));go_wp2_with fail;go_ret;rw[HX.out,bF.out];exact⟨rfl,l1,HB1.out,(fun r h=>by cases h),pF.out⟩
   | some r =>
    have hr1:=hl1 r ho;subst hr1;have hle:l1<=2000:=by have:=zxa t d' lc l1 ho;omega
    have HT2:=zh (show lims (ks.take (j+1)) d' l'=some l1 by rw[HT.out,ho]);clear hl1 ho;go_wp2_with fail
    go_roundw
    case rel=>exact⟨j+1,l1,by omega,by go_num,hle,HT2,HB1.out,HA1.out,pF.out⟩
    case measure=>simp[intOf];omega
  ·obtain rfl:j=ks.length:=by omega
   have HL2:=zh (show lims ks d' l'=some lc by have:=HLI.out;rw[List.take_of_length_le (by omega)] at this;exact this);go_wp2_with fail;go_ret;rw[HX.out,HL2.out];exact⟨rfl,lc,hbx,(fun r h=>by cases h;rfl),hg⟩
def zlZ (t:T):Bool:=(lim t 80 2000).isSome&&isB t
theorem zoS (t:T) (v:Value) (w:World) (hv:NV w Any t v):Calls Tryz.prog 33 #[v] w fun e w'=>e=.returned (.bool (zlZ t))/\Below w.heap.size w w':=by
 have HV:=zh hv;have HX:=zh (show zlZ t=((lim t 80 2000).isSome&&isB t) from rfl);obtain⟨A,c,rfl,hf,hlk,hlc,hrow⟩:=hv.open_;clear hf hlk hrow hv hlc;generalize t.k=k,t.n=n,t.s=s,t.ks.length=l at *
 have yh:=zh (show NV w (fun b=>b<w.heap.size) t (nv k n s A l c) from HV.out.keep (fun _ _ h=>h) fun _ _ _=>rfl);have hb2:∀ o o',Below w.heap.size w ((w.alloc o).alloc o'):=fun o o'=>((Below.refl _ _).alloc (Nat.le_refl _) _).alloc (by simp) _;have HB2:=zh hb2;have ax:=zh (show ∀ o:Obj,((w.alloc o).alloc (.cells #[.int .i64 2000] 3)).heap[w.heap.size+1]?=some (.cells #[.int .i64 ((2000:Nat):Int)] 3 (0,0)) from fun o=>by
  have:=heap_alloc_new (w.alloc o) (.cells #[.int .i64 2000] 3);simpa using this)
 clear hb2;go_enter Tryz.func33,Tryz.ntmps33;go_wp2_with fail;refine(zqD t 80 2000 (fun b=>b<w.heap.size) _ _ (w.heap.size+1) (yh.out.later (HB2.out _ _)) (fun h=>by have h':w.heap.size+1<w.heap.size:=h;omega) (by omega) (by omega) (ax.out _)).mono ?_;rintro e w1 ⟨rfl,l1,hb1,_,hg1⟩;have q1:Below w.heap.size w w1:=by
  refine(HB2.out (.cells #[.int .u8 k,.int .i64 n,.string s,.slice A l c] 26) (.cells #[.int .i64 2000] 3)).grown hg1 (by simp;omega) ?_;intro g e;injection e with e;omega
 have hc:∀ i,w1.cell? ⟨w.heap.size,i,none⟩=((w.alloc (.cells #[.int .u8 k,.int .i64 n,.string s,.slice A l c] 26)).alloc (.cells #[.int .i64 2000] 3)).cell? ⟨w.heap.size,i,none⟩:=fun i =>
  World.cell?_of_block (a:=⟨w.heap.size,i,none⟩) (hg1.block _ (by simp;omega) (fun e=>by simp at e))
 have x0:w1.cell? ⟨w.heap.size,0,none⟩=some (.int .u8 k):=(hc 0).trans (by simp);have x1:w1.cell? ⟨w.heap.size,1,none⟩=some (.int .i64 n):=(hc 1).trans (by simp);have x2:w1.cell? ⟨w.heap.size,2,none⟩=some (.string s):=(hc 2).trans (by simp);have x3:w1.cell? ⟨w.heap.size,3,none⟩=some (.slice A l c):=(hc 3).trans (by simp);have aY:=HX.out;clear hc hg1 hb1
 cases ho:(lim t 80 2000).isSome
 ·rw[ho] at aY;go_wp2_with fail;go_ret;exact⟨by rw[aY];rfl,q1⟩
 ·rw[ho] at aY;have bF:=zh aY;clear aY;go_wp2_with fail;refine(zqU t _ _ (HV.out.later q1)).mono ?_;rintro e w2 ⟨rfl,aB⟩;go_wp2_with fail;go_ret;exact⟨by rw[bF.out];simp,q1.trans (aB.mono q1.size)⟩
def zmG (v:VD):Bool:=zmD v.s&&(if v.k=1\/v.k=3 then v.n==0 else if v.k=2 then decide (1<=v.n/\v.n<=16) else false)
theorem zvf {vs:List VD} {f:VD->Bool} {j:Nat} (hj:j<vs.length) (h:(vs.take j).all f=true):(vs.take (j+1)).all f=f vs[j]:=by
 rw[List.take_succ_eq_append_getElem hj,List.all_append,h];simp
theorem zvg {vs:List VD} {f:VD->Bool} {j:Nat} (hj:j<vs.length) (h:f vs[j]=false):vs.all f=false:=by
 simp only[List.all_eq_false];exact⟨vs[j],List.getElem_mem hj,by simp[h]⟩
theorem znP (vs:List VD) (A:Option Addr) (c:Nat) (S:Nat->Prop) (w:World) (hrow:RowV w S A vs) (hl:vs.length<=LV) (_hlc:vs.length<=c) :
  Calls Tryz.prog 31 #[.slice A vs.length c] w fun e w'=>e=.returned (.bool (vs.all zmG))/\Below w.heap.size w w':=by
 have hl':=zlE hl;have ah:=zh hrow;clear hrow hl;go_enter Tryz.func31,Tryz.ntmps31;go_wp2_with fail
 go_loopw [7] (fun i wr=>∃ j:Nat,j<=vs.length/\i=.int .i64 j/\Below w.heap.size w wr/\Hid ((vs.take j).all zmG=true)) (fun i _=>vs.length-(intOf i).toNat)
 case atStart=>exact⟨0,Nat.zero_le _,rfl,Below.refl _ _,zh (by simp)⟩
 case round =>
  obtain⟨j,hj,rfl,hb,HA⟩:=hrel;by_cases hlt:j<vs.length
  ·obtain⟨a,v,rfl,_,Hv,⟨q0,q1,q2⟩,hf⟩:=(ah.out.later hb).nd hlt;have HT:=zh (show(vs.take (j+1)).all zmG=zmG v by rw[zvf hlt HA.out,Hv.out]);have HN:=zh (show zmG v=false->vs.all zmG=false from fun h=>zvg hlt (by rw[Hv.out];exact h));have HD:=zh (show zmG v=(zmD v.s&&(if v.k=1\/v.k=3 then v.n==0 else if v.k=2 then decide (1<=v.n/\v.n<=16) else false)) from rfl);obtain⟨s,hs⟩:∃ s,v.s=s:=⟨_,rfl⟩
   obtain⟨k,hk⟩:∃ k,v.k=k:=⟨_,rfl⟩
   obtain⟨n,hn⟩:∃ n,v.n=n:=⟨_,rfl⟩
   have fJ:=HD.out;rw[hs,hk,hn] at fJ;rw[hs] at q0;rw[hk] at q1;rw[hn] at q2;clear HD hf hs hk hn;have HD:=zh fJ;clear fJ;go_wp2_with fail;refine(zpz s _).mono ?_;rintro e w1 ⟨rfl,aj⟩;have q1':Below w.heap.size w w1:=(hb.alloc hb.size _).trans (aj.mono (by have:=hb.size;simp;omega));have x1:w1.cell? ⟨wr.heap.size,1,none⟩=some (.int .u8 k):=zb aj (by simp);have x2:w1.cell? ⟨wr.heap.size,2,none⟩=some (.int .i64 n):=zb aj (by simp);have fJ:=HD.out;clear aj
   cases hnm:zmD s
   ·rw[hnm] at fJ;have HR:=zh (HN.out (by rw[fJ];rfl));clear fJ;go_wp2_with fail;go_ret;exact⟨by rw[HR.out];rfl,q1'⟩
   rw[hnm,Bool.true_and] at fJ;by_cases tZ:k=1\/k=3
   ·rw[if_pos tZ] at fJ;by_cases hn0:n=0
    ·subst hn0;have HG:=zh (show(vs.take (j+1)).all zmG=true by rw[HT.out,fJ];rfl);clear fJ;rcases tZ with rfl|rfl
     ·go_wp2_with fail
      go_roundw
      case rel=>exact⟨j+1,by omega,by go_num,q1',HG⟩
      case measure=>simp[intOf];omega
     ·go_wp2_with fail
      go_roundw
      case rel=>exact⟨j+1,by omega,by go_num,q1',HG⟩
      case measure=>simp[intOf];omega
    ·have fn:(n != 0)=true:=by simpa using hn0
     have HR:=zh (HN.out (by rw[fJ];simpa using hn0));clear fJ;rcases tZ with rfl|rfl
     ·go_wp2_with fail;go_ret;exact⟨by rw[HR.out];rfl,q1'⟩
     ·go_wp2_with fail;go_ret;exact⟨by rw[HR.out];rfl,q1'⟩
   ·rw[if_neg tZ] at fJ;have f1:(k==1)=false:=by simp;omega
    have f3:(k==3)=false:=by simp;omega
    by_cases h2:k=2
    ·subst h2;rw[if_pos rfl] at fJ;by_cases hl1:n<1
     ·have HR:=zh (HN.out (by rw[fJ];simp;omega));clear fJ;go_wp2_with fail;go_ret;exact⟨by rw[HR.out];rfl,q1'⟩
     ·by_cases hg16:16<n
      ·have HR:=zh (HN.out (by rw[fJ];simp;omega));have sK:1<=n:=by omega
       clear fJ hl1;go_wp2_with fail;go_ret;exact⟨by rw[HR.out];rfl,q1'⟩
      ·have HG:=zh (show(vs.take (j+1)).all zmG=true by rw[HT.out,fJ];simp;omega);have sK:1<=n:=by omega
       have hg16':n<=16:=by omega
       clear fJ hl1 hg16;go_wp2_with fail
       go_roundw
       case rel=>exact⟨j+1,by omega,by go_num,q1',HG⟩
       case measure=>simp[intOf];omega
    ·rw[if_neg h2] at fJ;have f2:(k==2)=false:=by simpa using h2
     have HR:=zh (HN.out fJ);clear fJ;go_wp2_with fail;go_ret;exact⟨by rw[HR.out];rfl,q1'⟩
  ·obtain rfl:j=vs.length:=by omega
   have HR:=zh (show vs.all zmG=true by have:=HA.out;rw[List.take_of_length_le (by omega)] at this;exact this);go_wp2_with fail;go_ret;exact⟨by rw[HR.out];rfl,hb⟩
def zoE (r:PR):Bool:=zmD r.s&&decide (r.ps.length<=8)&&r.ps.all zmG&&zlZ r.b
def zle (p:PG):Bool:=decide (p.vs.length<=32)&&decide (p.prs.length<=64)&&p.vs.all zmG&&p.prs.all zoE&&zlZ p.m
theorem zso {vs:List PR} {f:PR->Bool} {j:Nat} (hj:j<vs.length) (h:(vs.take j).all f=true):(vs.take (j+1)).all f=f vs[j]:=by
 rw[List.take_succ_eq_append_getElem hj,List.all_append,h];simp
theorem zsp {vs:List PR} {f:PR->Bool} {j:Nat} (hj:j<vs.length) (h:f vs[j]=false):vs.all f=false:=by
 simp only[List.all_eq_false];exact⟨vs[j],List.getElem_mem hj,by simp[h]⟩
theorem zox (p:PG) (S:Nat->Prop) (v:Value) (w:World) (hv:PV w S p v):Calls Tryz.prog 19 #[v] w fun e w'=>e=.returned (.bool (zle p))/\Below w.heap.size w w':=by
 obtain⟨A1,c1,A2,c2,A3,c3,rfl,hr⟩:=hv;have HR:=zh hr;have hv1:=zlE hr.lv;have hv2:=zlE hr.lp;have HX:=zh (show zle p=(decide (p.vs.length<=32)&&decide (p.prs.length<=64)&&p.vs.all zmG&&p.prs.all zoE&&zlZ p.m) from rfl);have pU:=hr.lpc;obtain⟨L1,hL1⟩:∃ L,p.vs.length=L:=⟨_,rfl⟩
 obtain⟨L2,hL2⟩:∃ L,p.prs.length=L:=⟨_,rfl⟩
 obtain⟨k,hk⟩:∃ k,p.m.k=k:=⟨_,rfl⟩
 obtain⟨n,hn⟩:∃ n,p.m.n=n:=⟨_,rfl⟩
 obtain⟨s,hs⟩:∃ s,p.m.s=s:=⟨_,rfl⟩
 obtain⟨l3,hl3⟩:∃ l,p.m.ks.length=l:=⟨_,rfl⟩
 have mI:=zh hL1;have HL2:=zh hL2;have hm:=hr.main;rw[hk,hn,hs,hl3] at hm;have HM:=zh hm;have hx:=HX.out;rw[hL1,hL2] at hx;rw[hL1] at hv1;rw[hL2] at hv2 pU;rw[hL1,hL2,hk,hn,hs,hl3];clear hr hm HX hL1 hL2 hk hn hs hl3;have HX:=zh hx;clear hx;have hb0:∀ o,Below w.heap.size w (w.alloc o):=fun o=>(Below.refl _ _).alloc (Nat.le_refl _) _;have HB0:=zh hb0;clear hb0;have uR:=zh (show ∀ w',Below w.heap.size w w'->Calls Tryz.prog 31 #[.slice A1 L1 c1] w' fun e w''=>e=.returned (.bool (p.vs.all zmG))/\Below w'.heap.size w' w'' from fun w' h=>by
  have:=znP p.vs A1 c1 S w' (HR.out.vars.later h) HR.out.lv HR.out.lvc;rw[mI.out] at this;exact this)
 by_cases h32:32<L1
 ·have HF:=zh (show zle p=false by rw[HX.out];simp;intro h;omega);have h32':(32:Int)<(L1:Int):=by omega
  go_enter Tryz.func19,Tryz.ntmps19;go_wp2_with fail;go_ret;exact⟨by rw[HF.out];rfl,HB0.out _⟩
 by_cases h64:64<L2
 ·have HF:=zh (show zle p=false by rw[HX.out];simp;intro _ h;omega);have h32':(L1:Int)<=32:=by omega
  have h64':(64:Int)<(L2:Int):=by omega
  clear h32;go_enter Tryz.func19,Tryz.ntmps19;go_wp2_with fail;go_ret;exact⟨by rw[HF.out];rfl,HB0.out _⟩
 have h32':(L1:Int)<=32:=by omega
 have h64':(L2:Int)<=64:=by omega
 have hx:=HX.out;have e1:L1<=32:=by omega
 have e2:L2<=64:=by omega
 rw[decide_eq_true e1,decide_eq_true e2] at hx;simp only[Bool.true_and] at hx;clear HX h32 h64 e1 e2;have HX:=zh hx;clear hx;go_enter Tryz.func19,Tryz.ntmps19;go_wp2_with fail;refine(uR.out _ (HB0.out _)).mono ?_;rintro e w1 ⟨rfl,aj⟩;have q1:Below w.heap.size w w1:=(HB0.out _).trans (aj.mono (by simp));have hbx:w1.heap[w.heap.size]?=some (.cells #[.slice A1 L1 c1,.slice A2 L2 c2,.int .u8 k,.int .i64 n,.string s,.slice A3 l3 c3] 28 (0,0)):=(aj.block _ (by simp)).trans (heap_alloc_new w _);have x1:w1.cell? ⟨w.heap.size,1,none⟩=some (.slice A2 L2 c2):=zc hbx rfl;have hx:=HX.out;clear aj uR
 cases hd:p.vs.all zmG
 ·rw[hd] at hx;have HF:=zh (show zle p=false by rw[hx];rfl);clear hx;go_wp2_with fail;go_ret;exact⟨by rw[HF.out];rfl,q1⟩
 rw[hd,Bool.true_and] at hx;have bF:=zh hx;have ax:=zh hbx;clear hx HX hd hbx;go_wp2_with fail
 go_loopw [24] (fun i wr=>∃ j:Nat,j<=L2/\i=.int .i64 j/\Below w1.heap.size w1 wr/\Hid ((p.prs.take j).all zoE=true)) (fun i _=>L2-(intOf i).toNat)
 case atStart=>exact⟨0,Nat.zero_le _,rfl,Below.refl _ _,zh (by simp)⟩
 case round =>
  obtain⟨j,hj,rfl,hb,HA⟩:=hrel;have hq:Below w.heap.size w wr:=q1.trans (hb.mono q1.size);by_cases hlt:j<L2
  ·have hlt':j<p.prs.length:=by rw[HL2.out];exact hlt
   obtain⟨a,r,B1,d1,B2,d2,rfl,_,Hr,⟨z0,z1,z2,z3,z4,z5⟩,hrr⟩:=(HR.out.procs.later hq).nd hlt';have HRR:=zh hrr;have HT:=zh (show(p.prs.take (j+1)).all zoE=zoE r by rw[zso hlt' HA.out,Hr.out]);have HN:=zh (show zoE r=false->zle p=false from fun h=>by rw[bF.out,zsp hlt' (by rw[Hr.out];exact h)];rfl);have wW:=zh (show zoE r=(zmD r.s&&decide (r.ps.length<=8)&&r.ps.all zmG&&zlZ r.b) from rfl);have hd1:=zlE hrr.lp;clear hrr;have uR:=zh (show ∀ w',Below wr.heap.size wr w'->Calls Tryz.prog 31 #[.slice B1 r.ps.length d1] w' fun e w''=>e=.returned (.bool (r.ps.all zmG))/\Below w'.heap.size w' w'' from fun w' h=>znP r.ps B1 d1 S w' (HRR.out.row.later h) HRR.out.lp HRR.out.lc);have mO:=zh (show ∀ w',Below wr.heap.size wr w'->NV w' Any r.b (nv r.b.k r.b.n r.b.s B2 r.b.ks.length d2) from fun w' h=>(HRR.out.body.later h).any)
   obtain⟨rs,hrs⟩:∃ s,r.s=s:=⟨_,rfl⟩
   obtain⟨rl,hrl⟩:∃ l,r.ps.length=l:=⟨_,rfl⟩
   obtain⟨bk,hbk⟩:∃ k,r.b.k=k:=⟨_,rfl⟩
   obtain⟨bn,hbn⟩:∃ k,r.b.n=k:=⟨_,rfl⟩
   obtain⟨bs,hbs⟩:∃ k,r.b.s=k:=⟨_,rfl⟩
   obtain⟨bl,hbl⟩:∃ k,r.b.ks.length=k:=⟨_,rfl⟩
   have hpb:=wW.out;have zn:=uR.out;have hbd:=mO.out;rw[hrs] at z0 hpb;rw[hrl] at z1 hpb zn hd1;rw[hbk] at z2 hbd;rw[hbn] at z3 hbd;rw[hbs] at z4 hbd;rw[hbl] at z5 hbd;clear wW uR mO HRR hrs hrl hbk hbn hbs hbl;have wW:=zh hpb;have uR:=zh zn;have mO:=zh hbd;clear hpb zn hbd;go_wp2_with fail;refine(zpz rs _).mono ?_;rintro e w2 ⟨rfl,aB⟩;have b2:Below wr.heap.size wr w2:=((Below.refl _ _).alloc (Nat.le_refl _) _).trans (aB.mono (by simp));have hbx:w2.heap[wr.heap.size]?=some (.cells #[.string rs,.slice B1 rl d1,.int .u8 bk,.int .i64 bn,.string bs,.slice B2 bl d2] 51 (0,0)):=(aB.block _ (by simp)).trans (heap_alloc_new wr _);have u1:w2.cell? ⟨wr.heap.size,1,none⟩=some (.slice B1 rl d1):=zc hbx rfl;have hpb:=wW.out;clear aB
   cases hnm:zmD rs
   ·rw[hnm] at hpb;have HF:=zh (HN.out (by rw[hpb];rfl));clear hpb;go_wp2_with fail;go_ret;exact⟨by rw[HF.out];rfl,hq.trans (b2.mono hq.size)⟩
   rw[hnm,Bool.true_and] at hpb;by_cases h8:8<rl
   ·have HF:=zh (HN.out (by rw[hpb];simp;intro h;omega));have h8':(8:Int)<(rl:Int):=by omega
    clear hpb;go_wp2_with fail;go_ret;exact⟨by rw[HF.out];rfl,hq.trans (b2.mono hq.size)⟩
   rw[decide_eq_true (show rl<=8 by omega),Bool.true_and] at hpb;have h8':(rl:Int)<=8:=by omega
   have o9:=zh hpb;have HBX2:=zh hbx;clear hpb wW h8 hbx;go_wp2_with fail;refine(uR.out _ b2).mono ?_;rintro e w3 ⟨rfl,dH⟩;have b3:=b2.trans (dH.mono b2.size);have hbx:w3.heap[wr.heap.size]?=some (.cells #[.string rs,.slice B1 rl d1,.int .u8 bk,.int .i64 bn,.string bs,.slice B2 bl d2] 51 (0,0)):=(dH.block _ (zku HBX2.out)).trans HBX2.out;have u2:w3.cell? ⟨wr.heap.size,2,none⟩=some (.int .u8 bk):=zc hbx rfl;have u3:w3.cell? ⟨wr.heap.size,3,none⟩=some (.int .i64 bn):=zc hbx rfl;have u4:w3.cell? ⟨wr.heap.size,4,none⟩=some (.string bs):=zc hbx rfl;have u5:w3.cell? ⟨wr.heap.size,5,none⟩=some (.slice B2 bl d2):=zc hbx rfl;have hpb:=o9.out;clear dH u1 hbx
   cases hdd:r.ps.all zmG
   ·rw[hdd] at hpb;have HF:=zh (HN.out (by rw[hpb];rfl));clear hpb;go_wp2_with fail;go_ret;exact⟨by rw[HF.out];rfl,hq.trans (b3.mono hq.size)⟩
   rw[hdd,Bool.true_and] at hpb;have HPD:=zh hpb;clear hpb o9 hdd;go_wp2_with fail;refine(zoS r.b _ _ (mO.out _ b3)).mono ?_;rintro e w4 ⟨rfl,wJ⟩;have b4:=b3.trans (wJ.mono b3.size);have hpb:=HPD.out;clear wJ u2 u3 u4 u5
   cases hbb:zlZ r.b
   ·rw[hbb] at hpb;have HF:=zh (HN.out hpb);clear hpb;go_wp2_with fail;go_ret;exact⟨by rw[HF.out];rfl,hq.trans (b4.mono hq.size)⟩
   ·rw[hbb] at hpb;have HG:=zh (show(p.prs.take (j+1)).all zoE=true by rw[HT.out];exact hpb);have AP:=zh (hb.trans (b4.mono hb.size));clear hpb;go_wp2_with fail
    go_roundw
    case rel=>exact⟨j+1,by omega,by go_num,AP.out,HG⟩
    case measure=>simp[intOf];omega
  ·obtain rfl:j=L2:=by omega
   have HF:=zh (show zle p=zlZ p.m by rw[bF.out];have:=HA.out;rw[List.take_of_length_le (by rw[HL2.out];omega)] at this;rw[this];rfl);have hbx:wr.heap[w.heap.size]?=some (.cells #[.slice A1 L1 c1,.slice A2 j c2,.int .u8 k,.int .i64 n,.string s,.slice A3 l3 c3] 28 (0,0)):=(hb.block _ (zku ax.out)).trans ax.out;have y2:wr.cell? ⟨w.heap.size,2,none⟩=some (.int .u8 k):=zc hbx rfl;have y3:wr.cell? ⟨w.heap.size,3,none⟩=some (.int .i64 n):=zc hbx rfl;have y4:wr.cell? ⟨w.heap.size,4,none⟩=some (.string s):=zc hbx rfl;have y5:wr.cell? ⟨w.heap.size,5,none⟩=some (.slice A3 l3 c3):=zc hbx rfl;go_wp2_with fail;refine(zoS p.m _ _ (HM.out.later hq).any).mono ?_;rintro e w2 ⟨rfl,aB⟩;go_wp2_with fail;go_ret;exact⟨by rw[HF.out];rfl,hq.trans (aB.mono hq.size)⟩
def zmp (vs:List VD) (s:ByteArray):Int:=if (zkA vs s).isSome then 22 else 0
def useE (vs:List VD) (s:ByteArray) (k:Int):Int:=match zkA vs s with
 | none=>6
 | some v=>if v.k=k then 0 else 7
theorem zol (vs:List VD) (A:Option Addr) (c:Nat) (s:ByteArray) (S:Nat->Prop) (w:World) (hrow:RowV w S A vs) (hl:vs.length<=LV) :
  Calls Tryz.prog 36 #[.slice A vs.length c,.string s] w fun e w'=>e=.returned (.int .i64 (zmp vs s))/\Below w.heap.size w w':=by
 have ah:=zh hrow;have HL:=zh hl;obtain⟨E,hE⟩:∃ E,zmp vs s=E:=⟨_,rfl⟩
 rw[hE];have HE:=zh hE;clear hrow hl hE;go_enter Tryz.func36,Tryz.ntmps36;go_wp2_with fail;refine(zn3 vs A c s S _ ah.out HL.out).mono ?_;rintro e w1 ⟨rfl,aj⟩
 cases hf:zkA vs s with
 | none =>
  have HN:=zh (show E=0 by rw[<-HE.out];simp[zmp,hf]);have HB:=zh (show Below w.heap.size w (w1.alloc (.cells #[.string ⟨#[]⟩,.int .u8 0,.int .i64 0] 48)) from aj.alloc aj.size _);clear hf aj;go_wp2_with fail;go_ret;exact⟨by rw[HN.out];rfl,HB.out⟩
 | some v =>
  have HN:=zh (show E=22 by rw[<-HE.out];simp[zmp,hf]);have HB:=zh (show Below w.heap.size w (w1.alloc (.cells #[.string v.s,.int .u8 v.k,.int .i64 v.n] 48)) from aj.alloc aj.size _);clear hf aj;go_wp2_with fail;go_ret;exact⟨by rw[HN.out];rfl,HB.out⟩
theorem zny (vs:List VD) (A:Option Addr) (c:Nat) (s:ByteArray) (k:Int) (S:Nat->Prop) (w:World) (hrow:RowV w S A vs) (hl:vs.length<=LV) :
  Calls Tryz.prog 96 #[.slice A vs.length c,.string s,.int .u8 k] w fun e w'=>e=.returned (.int .i64 (useE vs s k))/\Below w.heap.size w w':=by
 have ah:=zh hrow;have HL:=zh hl;obtain⟨E,hE⟩:∃ E,useE vs s k=E:=⟨_,rfl⟩
 rw[hE];have HE:=zh hE;clear hrow hl hE;go_enter Tryz.func96,Tryz.ntmps96;go_wp2_with fail;refine(zn3 vs A c s S _ ah.out HL.out).mono ?_;rintro e w1 ⟨rfl,aj⟩
 cases hf:zkA vs s with
 | none =>
  have HN:=zh (show E=6 by rw[<-HE.out];simp[useE,hf]);have HB:=zh (show Below w.heap.size w (w1.alloc (.cells #[.string ⟨#[]⟩,.int .u8 0,.int .i64 0] 48)) from aj.alloc aj.size _);clear hf aj;go_wp2_with fail;go_ret;exact⟨by rw[HN.out];rfl,HB.out⟩
 | some v =>
  obtain⟨vm,vk,vl⟩:=v;have HB2:=zh (show Below w.heap.size w (w1.alloc (.cells #[.string vm,.int .u8 vk,.int .i64 vl] 48)) from aj.alloc aj.size _);have HN:=zh (show E=if vk=k then 0 else 7 by rw[<-HE.out];simp[useE,hf]);clear hf aj;by_cases hk:vk=k
  ·have e1:(vk==k)=true:=by simpa using hk
   have e2:(vk != k)=false:=by simpa using hk
   have aT:=zh (show E=0 by rw[HN.out,if_pos hk]);clear hk;go_wp2_with fail;go_ret;exact⟨by rw[aT.out];rfl,HB2.out⟩
  ·have e1:(vk==k)=false:=by simpa using hk
   have e2:(vk != k)=true:=by simpa using hk
   have aT:=zh (show E=7 by rw[HN.out,if_neg hk]);clear hk;go_wp2_with fail;go_ret;exact⟨by rw[aT.out];rfl,HB2.out⟩
def idxP (ps:List PR) (s:ByteArray):Option Nat:=ps.findIdx? fun r=>r.s.toList==s.toList
def zlY (ps:List PR) (s:ByteArray):Int:=match idxP ps s with
 | some i=>i
 | none => -1
theorem ztJ (rs:ByteArray) (u1 u2 u3 u4 u5:Value) (s:ByteArray) (nb:Nat) (w:World) (hc:w.cell? ⟨nb,0,none⟩=some (.string s)) :
  Calls Tryz.prog 60 #[.agg #[.string rs,u1,u2,u3,u4,u5],.pointer (some ⟨nb,0,none⟩)] w fun e w'=>e=.returned (.bool (rs.toList==s.toList))/\Below w.heap.size w w':=by
 have hc':=zkm hc;go_enter Tryz.func60,Tryz.ntmps60;go_wp2_with fail;go_ret;exact⟨rfl,(Below.refl _ _).alloc (Nat.le_refl _) _⟩
theorem zoG (ps:List PR) (A:Option Addr) (c:Nat) (s:ByteArray) (nb:Nat) (S:Nat->Prop) (w:World) (hrow:RowP w S A ps) (hl:ps.length<=LV) (hc:w.cell? ⟨nb,0,none⟩=some (.string s)) :
  Calls Tryz.prog 59 #[.slice A ps.length c,.func (.func 60) #[] #[.pointer (some ⟨nb,0,none⟩)]] w fun e w'=>e=.returned (.int .i64 (zlY ps s))/\Below w.heap.size w w':=by
 have hl':=zlE hl;have ah:=zh hrow;have HC:=zh hc;obtain⟨R,hR⟩:∃ R,zlY ps s=R:=⟨_,rfl⟩
 rw[hR];have HR:=zh hR;clear hrow hl hc hR;go_enter Tryz.func59,Tryz.ntmps59;go_wp2_with fail
 go_loopw [8] (fun i wr=>∃ j:Nat,j<=ps.length/\i=.int .i64 j/\Below w.heap.size w wr/\Hid (∀ q (h:q<ps.length),q<j->(ps[q].s.toList==s.toList)=false)) (fun i _=>ps.length-(intOf i).toNat)
 case atStart=>exact⟨0,Nat.zero_le _,rfl,Below.refl _ _,zh fun q _ h=>by omega⟩
 case round =>
  obtain⟨j,hj,rfl,hbl,HJ⟩:=hrel;by_cases hlt:j<ps.length
  ·obtain⟨a,r,B1,f1,B2,f2,rfl,_,Hr,⟨q0,q1,q2,q3,q4,q5⟩,-⟩:=(ah.out.later hbl).nd hlt;obtain⟨b,hb⟩:∃ b,(r.s.toList==s.toList)=b:=⟨_,rfl⟩
   have HB:=zh hb;clear hb;go_wp2_with fail;refine(ztJ r.s _ _ _ _ _ s nb _ (zb hbl HC.out)).mono ?_;rintro e w1 ⟨rfl,aj⟩;rw[HB.out];have af:=zh (zka hbl aj);clear aj q0 q1 q2 q3 q4 q5
   cases b
   ·have HJ2:=zh (show ∀ q (h:q<ps.length),q<j+1->(ps[q].s.toList==s.toList)=false from fun q h hq=>by
     by_cases e:q<j
     ·exact HJ.out q h e
     ·obtain rfl:q=j:=by omega
      rw[Hr.out];exact HB.out)
    go_wp2_with fail
    go_roundw
    case rel=>exact⟨j+1,by omega,by go_num,af.out,HJ2⟩
    case measure=>simp[intOf];omega
   ·have HN:=zh (show R=j by
     rw[<-HR.out];have:idxP ps s=some j:=List.findIdx?_eq_some_iff_getElem.2 ⟨hlt,by rw[Hr.out];exact HB.out,fun q hq=>by rw[HJ.out q (by omega) hq];simp⟩;simp[zlY,this])
    go_wp2_with fail;go_ret;exact⟨by rw[HN.out];rfl,af.out⟩
  ·have HN:=zh (show R = -1 by
    rw[<-HR.out];have:idxP ps s=none:=List.findIdx?_eq_none_iff.2 fun r hr=>by
     obtain⟨q,hq,rfl⟩:=List.getElem_of_mem hr;exact HJ.out q hq (by omega)
    simp[zlY,this])
   have af:=zh hbl;clear hbl;go_wp2_with fail;go_ret;exact⟨by rw[HN.out];rfl,af.out⟩
theorem znv (p:PG) (S:Nat->Prop) (v:Value) (s:ByteArray) (w:World) (hv:PV w S p v):Calls Tryz.prog 37 #[v,.string s] w fun e w'=>e=.returned (.int .i64 (zlY p.prs s))/\Below w.heap.size w w':=by
 obtain⟨A1,c1,A2,c2,A3,c3,rfl,hr⟩:=hv;have HR:=zh hr;obtain⟨L1,hL1⟩:∃ L,p.vs.length=L:=⟨_,rfl⟩
 rw[hL1];clear hr hL1;go_enter Tryz.func37,Tryz.ntmps37;go_wp2_with fail;refine(zoG p.prs A2 c2 s (w.heap.size+1) S _ (HR.out.procs.later (zkc (zkc (Below.refl _ _) _) _)) HR.out.lp (by simp)).mono ?_;rintro e w1 ⟨rfl,aj⟩;have HB:=zh (zka (zkc (zkc (Below.refl w.heap.size w) _) _) aj);clear aj;go_wp2_with fail;go_ret;exact⟨rfl,HB.out⟩
end Go.Proofs.YtmbbaccjcekhkaaGreat
namespace Go.Proofs.YtmbbaccjcekhkaaGreat
open Go Go.RowKit
theorem znU:∀ (prs:List PR) (s:ByteArray) (i:Nat),prcI prs s=some i->zlY prs s=(i:Int)/\i<prs.length
 | [],_,_,h=>by simp[prcI] at h
 | q::qs,s,i,h=>by
  unfold prcI at h;unfold zlY idxP;rw[List.findIdx?_cons]
  split at h
  ·rename_i h0;injection h with h;subst h;rw[if_pos h0];exact⟨rfl,by simp⟩
  ·rename_i h0;rw[if_neg h0];obtain⟨j,hj,rfl⟩:=Option.map_eq_some_iff.1 h;have h5:=znU qs s j hj;unfold zlY idxP at h5
   cases hf:List.findIdx? (fun r=>r.s.toList==s.toList) qs with
   | none =>
    rw[hf] at h5;have h6:(-1:Int)=(j:Int):=h5.1;omega
   | some m =>
    rw[hf] at h5;have h6:(m:Int)=(j:Int):=h5.1;exact⟨by show((m+1:Nat):Int)=((j+1:Nat):Int);omega,by have:=h5.2;simp;omega⟩
def strA (l:List ByteArray):Array Value:=(l.map Value.string).toArray
theorem zvE:(Tryz.prog.info? 9).map (fun i=>(i.zero,i.size,i.bytes))=some (some (.string ⟨#[]⟩),1,16):=by kernel_rfl
theorem zuy (n:Nat):madeCells (Value.string ⟨#[]⟩).cells (n*1)=strA (List.replicate n ⟨#[]⟩):=by
 unfold strA;apply Array.ext';apply List.ext_getElem
 ·rw[Array.length_toList,size_madeCells];simp
 ·intro i h1 h2;have e:i % 1=0:=by omega
  simp[madeCells,Value.cells,e]
theorem zxz (n:Nat) (hn:n<=17592186044416) (w:World):(Instr.makeSlice 88 (.int .i64 (n:Int)) (.int .i64 (n:Int))).run Tryz.prog w=.ok (.slice (some ⟨w.heap.size,0,none⟩) n n) (w.alloc (.cells (strA (List.replicate n ⟨#[]⟩)) 9)):=by
 have h:=zvE;obtain⟨i,hi,hz⟩:=Option.map_eq_some_iff.1 h;injection hz with h1 h2;injection h2 with h2 h3;have:=znk (P:=Tryz.prog) 88 9 i (.string ⟨#[]⟩) Tryz.underlying88 hi h1 .i64 .i64 n n (Nat.le_refl _) (by rw[h3];omega) (by omega) w;rw[h2,zuy] at this;exact this
def argL (ks:List T) (j:Nat):List ByteArray:=(ks.take j).map (·.s)++List.replicate (ks.length-j) ⟨#[]⟩
theorem zvV (ks:List T):argL ks 0=List.replicate ks.length ⟨#[]⟩:=by simp[argL]
theorem zvd (ks:List T):argL ks ks.length=ks.map (·.s):=by simp[argL]
theorem zvc (ks:List T) {j:Nat} (hj:j<=ks.length):(argL ks j).length=ks.length:=by simp[argL];omega
theorem zvb (ks:List T) {j:Nat} (hj:j<ks.length):(strA (argL ks j)).setIfInBounds j (.string ks[j].s)=strA (argL ks (j+1)):=by
 unfold strA;rw[List.setIfInBounds_toArray,<-List.map_set];congr 2;unfold argL;refine List.ext_getElem (by simp;omega) fun i h1 h2=>?_;rw[List.getElem_set];simp only[List.length_append,List.length_map,List.length_take,List.length_replicate,List.length_set] at h1 h2;by_cases e:j=i
 ·subst e;rw[if_pos rfl,List.getElem_append_left (by simp;omega)];simp
 ·rw[if_neg e];by_cases hi:i<j
  ·rw[List.getElem_append_left (by simp;omega),List.getElem_append_left (by simp;omega)];simp
  ·rw[List.getElem_append_right (by simp;omega),List.getElem_append_right (by simp;omega)];simp
theorem zui {W:World} {b:Nat} {E:TypeId} {l:List ByteArray} (h:W.heap[b]?=some (.cells (strA l) E (0,0))):RowS W (some ⟨b,0,none⟩) l:=fun i hi=>by
 have ha:(⟨b,0,none⟩:Addr).add i=⟨b,i,none⟩:=by rw[Addr.add_lit,Nat.zero_add]
 refine⟨⟨b,0,none⟩,rfl,?_⟩;rw[ha];simp only[World.cell?,h];simp[strA,hi]
theorem RI.count {C:RC} (hC:C.Ok) {W:World} {r:RS} (h:RI C W r) {i:Nat} (hi:i<r.ent.length) (hn:r.ent.getD i 0+1<=r.n) :
  ∃ g c,C.ev=.slice (some ⟨g,0,none⟩) r.ent.length c/\W.cell? ⟨g,i,none⟩=some (.int .i64 (r.ent.getD i 0:Nat))/\W.frozen? ⟨g,i,none⟩=false /\
   RI C (W.setCell ⟨g,i,none⟩ (.int .i64 ((r.ent.getD i 0+1:Nat):Int))) { r with ent:=r.ent.set i (r.ent.getD i 0+1) }/\Kpt C.n0 C.kb W (W.setCell ⟨g,i,none⟩ (.int .i64 ((r.ent.getD i 0+1:Nat):Int))):=by
 obtain⟨e1,h2⟩:=h.ent;rcases h2 with h2|⟨g,cap,cur,hev,hb,hg,hcap,hlen,hsz,dO⟩
 ·have hn0:r.ent.length=0:=h2.2;omega
 ·have hcz:cur[i]?=some (.int .i64 (r.ent.getD i 0:Nat)):=by
   have h3:(zke (r.ent.map Int.ofNat))[i]?=some (.int .i64 (r.ent.getD i 0:Nat)):=by simp[zke,hi]
   rw[<-dO,List.getElem?_take] at h3
   split at h3
   ·simpa using h3
   ·cases h3
  have hci:i<cur.size:=by
   rcases Nat.lt_or_ge i cur.size with h|h
   ·exact h
   ·rw[Array.getElem?_eq_none h] at hcz;cases hcz
  have hrb:g≠C.rb:=fun e=>hC.ev.1 (by rw[hev,<-e];rfl);have hkb:¬ C.kb g:=hC.ev.2 g (by rw[hev];rfl);have hch:Chg (fun b=>b=g) W (W.setCell ⟨g,i,none⟩ (.int .i64 ((r.ent.getD i 0+1:Nat):Int))):=(Chg.refl (fun b=>b=g) W).setCell (p:=⟨g,i,none⟩) (.inl rfl) _;have hnn:=h.ks.hn;refine⟨g,cap,hev,zc hg hcz,zf hg,⟨h.ks.chg hch fun b _ e=>⟨by omega,.inr (.inr (.inr (by rw[hev,e];rfl)))⟩,?_,?_,by simp[h.el],?_,h.n,h.fb⟩,Kpt.chg hch fun b e=>⟨by omega,by rw[e];exact hkb⟩⟩
  ·rw[Below.heap_setCell _ _ _ _ (fun e=>hrb (by simpa using e.symm))];exact h.box
  ·have hs:=heap_setCell_same W g i _ _ (.int .i64 ((r.ent.getD i 0+1:Nat):Int)) hg;refine⟨by simp[zke],.inr ⟨g,cap,_,by rw[hev];simp,hb,hs,by simpa using hcap,by simpa using hlen,by simpa using hsz,?_⟩⟩;have e2:((cur.setIfInBounds i (.int .i64 ((r.ent.getD i 0+1:Nat):Int))).toList.take ((r.ent.set i (r.ent.getD i 0+1)).length*1))=(cur.toList.take (r.ent.length*1)).set i (.int .i64 ((r.ent.getD i 0+1:Nat):Int)):=by
    rw[Array.toList_setIfInBounds,List.length_set,List.take_set]
   rw[e2,dO];simp[zke,List.map_set]
  ·intro c hc;rcases List.mem_or_eq_of_mem_set hc with hc|rfl
   ·exact h.en c hc
   ·exact hn
theorem zuR:IsFn Tryz.prog 111 Tryz.f111:=⟨Tryz.func111,by kernel_rfl,by kernel_rfl⟩
def caR (prs:List PR) (F:Int) (g:Nat) (back:Bool) (i:Nat) (b:T) (r:RS):Out :=
 (zk9 (zkr prs F g back) (blkL back b) { r with ent:=r.ent.set i (r.ent.getD i 0+1) }).bind fun r=>(zkq F r).bind fun r=>zki r (zlt r.S)
def caO (prs:List PR) (F:Int) (g:Nat) (back:Bool) (i:Nat) (q:PR) (ss:List ByteArray) (r:RS):Out :=
 (zkq F r).bind fun r=>(zki r (zlh r.S q.ps ss)).bind (caR prs F g back i q.b)
theorem zn0 {G:List PR->T->Prop} {g:Nat} (hS:IStC G g) {C:RC} (hC:C.Ok) {W:World} {r:RS} (h:RI C W r) (t:T) (v:Value) (back:Bool) (hv:NV C.w Any t v) (i:Nat) (hi:prcI C.p.prs t.s=some i) (q:PR) (hq:C.p.prs[i]?=some q) (hG1:∀ u∈q.b.ks,G C.p.prs u)
  (aC:caO C.p.prs C.F g back i q (t.ks.map (·.s)) r ≠ .gas) :
  Calls Tryz.prog 83 #[.pointer (some ⟨C.rb,0,none⟩),v,.bool back] W (RunP C W (caO C.p.prs C.F g back i q (t.ks.map (·.s)) r)):=by
 have HV:=zh hv;have H:=zh h;have HS:=zh hS;have HC:=zh hC;obtain⟨hpi,hil⟩:=znU _ _ _ hi;obtain⟨A,c,rfl,-,hlk,hlc,hrow⟩:=hv.open_;have ah:=zh hrow;have hb0:=zkc (Below.refl W.heap.size W) (.cells #[.int .u8 t.k,.int .i64 t.n,.string t.s,.slice A t.ks.length c] 26);have k0:=heap_alloc_new W (.cells #[.int .u8 t.k,.int .i64 t.n,.string t.s,.slice A t.ks.length c] 26);obtain⟨x0,x1,x2,x3⟩:=box4 k0;have kT:=zh h.below;obtain⟨w1,hw1⟩:∃ x,W.alloc (.cells #[.int .u8 t.k,.int .i64 t.n,.string t.s,.slice A t.ks.length c] 26)=x:=⟨_,rfl⟩
 have hz1:w1.heap.size=W.heap.size+1:=by rw[<-hw1];simp
 rw[hw1] at hb0 k0 x0 x1 x2 x3;have hmk:=zxz t.ks.length (by unfold LK at hlk;omega);have hb1:=zkc hb0 (.cells (strA (List.replicate t.ks.length ⟨#[]⟩)) 9);have k1:=heap_alloc_new w1 (.cells (strA (List.replicate t.ks.length ⟨#[]⟩)) 9);have j0:=zkn k0 (.cells (strA (List.replicate t.ks.length ⟨#[]⟩)) 9);rw[hz1] at k1;rw[<-zvV] at hmk;have hz2:(w1.alloc (.cells (strA (argL t.ks 0)) 9)).heap.size=W.heap.size+2:=by simp[hz1]
 rw[<-zvV] at hb1 k1 j0;have HB1:=zh hb1;have K1:=zh k1;have J0:=zh j0;obtain⟨o,ho⟩:∃ o,caO C.p.prs C.F g back i q (t.ks.map (·.s)) r=o:=⟨_,rfl⟩
 have bU:=zh ho;have HO:=zh (show(zkq C.F r).bind (fun r=>(zki r (zlh r.S q.ps (t.ks.map (·.s)))).bind (caR C.p.prs C.F g back i q.b))=o from ho);rw[ho] at aC ⊢;have ed:=zh aC;have yn:=zh hpi;have vP:=zh hil;have HQ:=zh hq;have hlk2:t.ks.length<=17592186044416:=by unfold LK at hlk;omega
 have HZ2:=zh hz2;clear hv hb0 k0 h ho aC hrow hS hC hlk hpi hil hq hi hb1 k1 j0 hz2;go_enter Tryz.func83,Tryz.ntmps83;go_wp2_with fail;clear x0 x1 x2 x3 hw1 hmk;have xn:=zh (fun j (hj:j<t.ks.length)=>zvb t.ks hj);have HAN:=zh (fun j (hj:j<=t.ks.length)=>zvc t.ks hj)
 go_loopw [18] (fun x wr=>∃ j:Nat,j<=t.ks.length/\x=.int .i64 j/\Hid (Below W.heap.size W wr)/\Hid (wr.heap[W.heap.size]?=some (.cells #[.int .u8 t.k,.int .i64 t.n,.string t.s,.slice A t.ks.length c] 26 (0,0)))/\Hid (wr.heap[W.heap.size+1]?=some (.cells (strA (argL t.ks j)) 9 (0,0)))) (fun x _=>t.ks.length-(intOf x).toNat)
 case atStart=>exact⟨0,Nat.zero_le _,rfl,HB1,J0,K1⟩
 case round =>
  obtain⟨j,hj,rfl,af,HJ,HK⟩:=hrel;clear HB1 J0 K1;by_cases hlt:j<t.ks.length
  ·obtain⟨a,u,Au,cu,rfl,-,Hu,⟨p0,p1,p2,p3⟩,-⟩:=ah.out.nd hlt;have hbb:=zka kT.out af.out;have q0:=zb hbb p0;have q1:=zb hbb p1;have q2:=zb hbb p2;have q3:=zb hbb p3;have hj1:(j:Int)<(t.ks.length:Int):=by omega
   have hj0:(0:Int)<=(j:Int):=by omega
   have kz:=zkn HK.out (.cells #[.int .u8 u.k,.int .i64 u.n,.string u.s,.slice Au u.ks.length cu] 26);have jz:=zkn HJ.out (.cells #[.int .u8 u.k,.int .i64 u.n,.string u.s,.slice Au u.ks.length cu] 26);have hbz:=zkc af.out (.cells #[.int .u8 u.k,.int .i64 u.n,.string u.s,.slice Au u.ks.length cu] 26);have zc:∃ y,(strA (argL t.ks j))[j]?=some y:=⟨_,Array.getElem?_eq_getElem (by simp[strA,HAN.out j hj];exact hlt)⟩
   obtain⟨y,hy⟩:=zc;have zy:=zc kz hy;have zf:(wr.alloc (.cells #[.int .u8 u.k,.int .i64 u.n,.string u.s,.slice Au u.ks.length cu] 26)).frozen? ⟨W.heap.size+1,j,none⟩=false:=zf kz;have rD:=zh hbz;have HKZ:=zh kz;have HJZ:=zh jz;have hwlt:W.heap.size+1<wr.heap.size:=zku HK.out;clear hbb p0 p1 p2 p3 kz jz hbz hy;go_wp2_with fail
   go_roundw
   case rel =>
    have hch:=(Chg.refl (fun b=>b=W.heap.size+1) wr).setCell (p:=⟨W.heap.size+1,j,none⟩) (.inl rfl) (.string u.s);refine⟨j+1,by omega,by go_num,zh (zkc (af.out.trans (hch.below af.out.size fun b e=>by omega)) _),zh (zkn (hch.keep HJ.out (by omega)) _),zh ?_⟩;have:=heap_setCell_same _ (W.heap.size+1) j _ _ (.string u.s) HK.out;refine zkn ?_ _;rw[this,<-xn.out j hlt,Hu.out]
   case measure=>simp[intOf];omega
  ·obtain rfl:j=t.ks.length:=by omega
   rw[zvd] at HK;have hj1:¬ (t.ks.length:Int)<(t.ks.length:Int):=by omega
   have hrn:=H.out.n;have hel:=H.out.el;obtain⟨pa,q1,B1,d1,B2,d2,hA2,-,Hq1,⟨p0,p1,p2,p3,p4,p5⟩,hpr⟩:=HC.out.pg.procs.nd vP.out;obtain rfl:q=q1:=by
    have e:=HQ.out;rw[List.getElem?_eq_getElem vP.out,Hq1.out] at e;injection e with e;exact e.symm
   have HPRR:=zh hpr;have hbb:=zka kT.out af.out;have iA:=zh hbb;have ig:=zh (fun w' (hb:Below wr.heap.size wr w')=>znv C.p Any (pv C.A1 C.p.vs.length C.c1 C.A2 C.p.prs.length C.c2 C.p.m.k C.p.m.n C.p.m.s C.A3 C.p.m.ks.length C.c3) t.s w' ⟨_,_,_,_,_,_,rfl,HC.out.pg.later (zka iA.out hb)⟩);rw[yn.out] at ig;have HXB:=zh (zkf H.out.box af.out);rw[hA2] at ig;have mr:Hid (wr.cell? ⟨C.rb,0,none⟩=some (.slice C.A1 C.p.vs.length C.c1)/\wr.cell? ⟨C.rb,1,none⟩=some (.slice (some pa) C.p.prs.length C.c2)/\wr.cell? ⟨C.rb,2,none⟩=some (.int .u8 C.p.m.k)/\wr.cell? ⟨C.rb,3,none⟩=some (.int .i64 C.p.m.n)/\wr.cell? ⟨C.rb,4,none⟩=some (.string C.p.m.s)/\wr.cell? ⟨C.rb,5,none⟩=some (.slice C.A3 C.p.m.ks.length C.c3)) :=
    zh ⟨zc HXB.out rfl,by rw[<-hA2];exact zc HXB.out rfl,zc HXB.out rfl,zc HXB.out rfl,zc HXB.out rfl,zc HXB.out rfl⟩
   have uK:=zh (show(i:Int)<(C.p.prs.length:Int) by have:=vP.out;omega);obtain⟨rb,hrb⟩:∃ b,C.rb=b:=⟨_,rfl⟩
   obtain⟨z1,hz1⟩:∃ b,C.A1=b:=⟨_,rfl⟩
   obtain⟨z2,hz2⟩:∃ b,C.p.vs.length=b:=⟨_,rfl⟩
   obtain⟨z3,hz3⟩:∃ b,C.c1=b:=⟨_,rfl⟩
   obtain⟨z5,rJ⟩:∃ b,C.p.prs.length=b:=⟨_,rfl⟩
   obtain⟨z6,gU⟩:∃ b,C.c2=b:=⟨_,rfl⟩
   obtain⟨z7,lY⟩:∃ b,C.p.m.k=b:=⟨_,rfl⟩
   obtain⟨z8,yP⟩:∃ b,C.p.m.n=b:=⟨_,rfl⟩
   obtain⟨z9,xz⟩:∃ b,C.p.m.s=b:=⟨_,rfl⟩
   obtain⟨z10,rP⟩:∃ b,C.A3=b:=⟨_,rfl⟩
   obtain⟨z11,rO⟩:∃ b,C.p.m.ks.length=b:=⟨_,rfl⟩
   obtain⟨z12,rM⟩:∃ b,C.c3=b:=⟨_,rfl⟩
   rw[hz1,hz2,hz3,rJ,gU,lY,yP,xz,rP,rO,rM] at ig;rw[hrb,hz1,hz2,hz3,rJ,gU,lY,yP,xz,rP,rO,rM] at mr;have aG:=zh (show ∀ w',Below wr.heap.size wr w'->(fun w':World=>w'.cell? ⟨rb,0,none⟩=some (.slice z1 z2 z3)/\w'.cell? ⟨rb,1,none⟩=some (.slice (some pa) z5 z6)/\w'.cell? ⟨rb,2,none⟩=some (.int .u8 z7)/\w'.cell? ⟨rb,3,none⟩=some (.int .i64 z8)/\w'.cell? ⟨rb,4,none⟩=some (.string z9)/\w'.cell? ⟨rb,5,none⟩=some (.slice z10 z11 z12)/\w'.cell? ⟨W.heap.size,2,none⟩=some (.string t.s)) w' from fun w' hb=>by
    obtain⟨y0,y1,y2,y3,y4,y5⟩:=mr.out;exact⟨zb hb y0,zb hb y1,zb hb y2,zb hb y3,zb hb y4,zb hb y5,zb hb (zc HJ.out rfl)⟩)
   have iU:=zh (aG.out _ (Below.refl _ _).drew);have o9:=zh (show C.w.cell? (pa.add (i*6))=_/\_/\_/\_/\_/\_ from ⟨p0,p1,p2,p3,p4,p5⟩);clear p0 p1 p2 p3 p4 p5 hpr hbb hz1 hz2 hz3 gU lY yP xz rP rO rM hel hrn hj1;have zX:=zh rJ;rw[rJ] at uK;clear rJ;have ag:=zh hrb;clear hrb hA2;rw[ag.out];have hj1:¬ (t.ks.length:Int)<(t.ks.length:Int):=by omega
   go_upto_region 7 with fail
   go_region_held3 (fun w':World=>w'.cell? ⟨rb,0,none⟩=some (.slice z1 z2 z3)/\w'.cell? ⟨rb,1,none⟩=some (.slice (some pa) z5 z6)/\w'.cell? ⟨rb,2,none⟩=some (.int .u8 z7)/\w'.cell? ⟨rb,3,none⟩=some (.int .i64 z8)/\w'.cell? ⟨rb,4,none⟩=some (.string z9)/\w'.cell? ⟨rb,5,none⟩=some (.slice z10 z11 z12)/\w'.cell? ⟨W.heap.size,2,none⟩=some (.string t.s))
    (first|with_reducible exact dY.out|with_reducible exact iU.out)
    (first
     | (go_at_call 37;refine(ig.out _ (Below.refl _ _).drew).mono ?_;rintro e y1 ⟨rfl,fF⟩;have b1:=zka (Below.refl wr.heap.size wr).drew fF;have dY:=zh (aG.out _ b1))
     | fail)
   have hb1:=zka iA.out b1;have p0:=zb hb1 o9.out.1;have p1:=zb hb1 o9.out.2.1;have p2:=zb hb1 o9.out.2.2.1;have p3:=zb hb1 o9.out.2.2.2.1;have p4:=zb hb1 o9.out.2.2.2.2.1;have p5:=zb hb1 o9.out.2.2.2.2.2;obtain⟨-,e1,-⟩:=dY.out;have hi1:=uK.out;have hi0:(0:Int)<=(i:Int):=by omega
   have iq:=zkc (zka af.out b1) (.cells #[.string q.s,.slice B1 q.ps.length d1,.int .u8 q.b.k,.int .i64 q.b.n,.string q.b.s,.slice B2 q.b.ks.length d2] 51);have k0:=zkn (zkf HJ.out b1) (.cells #[.string q.s,.slice B1 q.ps.length d1,.int .u8 q.b.k,.int .i64 q.b.n,.string q.b.s,.slice B2 q.b.ks.length d2] 51);have k1:=zkn (zkf HK.out b1) (.cells #[.string q.s,.slice B1 q.ps.length d1,.int .u8 q.b.k,.int .i64 q.b.n,.string q.b.s,.slice B2 q.b.ks.length d2] 51);have k2:=heap_alloc_new y1 (.cells #[.string q.s,.slice B1 q.ps.length d1,.int .u8 q.b.k,.int .i64 q.b.n,.string q.b.s,.slice B2 q.b.ks.length d2] 51);obtain⟨pb,hpb⟩:∃ x,y1.heap.size=x:=⟨_,rfl⟩
   have hpl:W.heap.size<=pb:=by rw[<-hpb];exact(zka af.out b1).size
   obtain⟨w5,fP⟩:∃ x,y1.alloc (.cells #[.string q.s,.slice B1 q.ps.length d1,.int .u8 q.b.k,.int .i64 q.b.n,.string q.b.s,.slice B2 q.b.ks.length d2] 51)=x:=⟨_,rfl⟩
   rw[fP] at iq k0 k1;rw[hpb,fP] at k2;have dF:=zh (Kpt.of_below (n0:=C.n0) (kb:=C.kb) iq);obtain⟨xR,h5⟩:=H.out.plus HC.out iq;have l0:=zku k0;have l1:=zku k1;have l2:=zku k2;obtain⟨hi,hhi⟩:∃ x,w5.heap.size=x:=⟨_,rfl⟩
   rw[hhi] at xR h5 l0 l1 l2;have rC:=zh xR;have K0:=zh k0;have K1:=zh k1;have K2:=zh k2;have HST:=zh (zme xR h5);rw[show(C.plus W.heap.size hi).rb=rb from ag.out] at HST;have ym:=zh hpl;obtain⟨ss,hss⟩:∃ ss,t.ks.map (·.s)=ss:=⟨_,rfl⟩
   have qY:=zh (show ss.length=t.ks.length by rw[<-hss];simp);rw[hss] at HO K1;clear hb1 b1 fF dY aG iU iq k0 k1 k2 xR h5 o9 hpl mr ig xn HAN HK HJ hss;go_upto_region 9 with fail;clear p0 p1 p2 p3 p4 p5 e1 fP hpb;go_wp2_with fail;refine HST.out.mono ?_;rintro e w6 ⟨dW,hb6,dD⟩;have gQ:=zh (dF.out.trans (Kpt.less (C:=C) dW));have di:=zh (show Below C.w.heap.size C.w w6 from hb6);have dM:match zkq C.F r with
    | .gas=>True
    | .err x=>e=zlT x
    | .ok r=>(∃ u,e=.returned u)/\RI (C.plus W.heap.size hi) w6 r:=dD
   have uJ:=zh dW;clear HST dW hb6 dD
   cases hy:zkq C.F r with
   | gas=>exact absurd (by rw[<-HO.out,hy];rfl) ed.out
   | err x =>
    rw[hy] at dM;subst dM;refine⟨rfl,gQ.out,di.out,?_⟩
    try rw[bU.out]
    rw[<-HO.out,hy];rfl
   | ok r1 =>
    rw[hy] at dM;obtain⟨⟨u3,rfl⟩,hr1⟩:=dM;have iK:=zh hr1;have iV:=zh (show(zki r1 (zlh r1.S q.ps ss)).bind (caR C.p.prs C.F g back i q.b)=o by rw[<-HO.out,hy];rfl);have jH:=zh (show FB r.n r1.S/\r1.n=r.n+1/\r1.ent=r.ent by obtain⟨rfl,-⟩:=zkY hy;exact⟨H.out.fb,rfl,rfl⟩);have j2:=uJ.out.blk (.inr (.inr ⟨ym.out,l2⟩)) K2.out;have hSS:(fun w':World=>w'.cell? ⟨rb,6,none⟩=some (.pointer (some ⟨C.sb,0,none⟩))/\w'.cell? ⟨pb,1,none⟩=some (.slice B1 q.ps.length d1)) w6.drew/\(fun _:World=>True) w6.drew:=⟨⟨by rw[<-ag.out];exact hr1.cells.1,zc j2 rfl⟩,trivial⟩
    clear hr1 hy j2;go_upto_region 10 with fail;refine zkd (fun w':World=>w'.cell? ⟨rb,6,none⟩=some (.pointer (some ⟨C.sb,0,none⟩))/\w'.cell? ⟨pb,1,none⟩=some (.slice B1 q.ps.length d1)) (fun _:World=>True) 9 (by kernel_rfl) ?_;refine zT 0 hSS ?_;(try simp only[zQ]);refine zT 1 hSS ?_;(try simp only[zQ]);refine zT 2 hSS ?_;(try simp only[zQ]);refine zT 3 hSS ?_;(try simp only[zQ]);refine zT 4 hSS ?_;(try simp only[zQ]);refine zT 5 hSS ?_;(try simp only[zQ]);refine zT 6 hSS ?_;(try simp only[zQ]);refine zT 7 hSS ?_;(try simp only[zQ]);obtain⟨R,hR⟩:∃ R,zlh r1.S q.ps ss=R:=⟨_,rfl⟩
    have HRR:=zh hR;have hbd:Below w6.heap.size w6 w6.drew:=(Below.refl _ _).drew;have hpq:q.ps.length<=1000:=HC.out.ps q (List.mem_of_getElem? HQ.out);have hen:=(iK.out.later hbd).ks.enter q.ps ss B1 (some ⟨W.heap.size+1,0,none⟩) d1 t.ks.length (HPRR.out.row.later (zka di.out hbd)) ((zui (uJ.out.blk (.inr (.inr ⟨Nat.le_succ _,l1⟩)) K1.out)).later hbd) (by omega) (by rw[qY.out];exact hlk2);rw[qY.out] at hen;have had:Calls Tryz.prog 111 [.pointer (some ⟨C.sb,0,none⟩),.slice B1 q.ps.length d1,.slice (some ⟨W.heap.size+1,0,none⟩) t.ks.length t.ks.length].toArray w6.drew fun e w'=>∃ v,e=.returned v/\(v=.int .i64 R.1/\RI (C.plus W.heap.size hi) w' { r1 with S:=R.2 }/\Kpt C.n0 (C.plus W.heap.size hi).kb w6 w') :=
     hen.mono fun e w' ⟨h1,h2,h3⟩=>by
      have hs:=RI.store (C:=C.plus W.heap.size hi) (iK.out.later hbd) (hR▸h2) h3 (by rw[jH.out.2.1,<-hR];exact jH.out.1.enter _ _ hpq);exact⟨_,h1,by rw[hR],hs.1,(Kpt.of_below hbd).trans hs.2⟩
    refine zo 8 fun K hK=>?_;refine zlG (by rfl) (.func 111) [.tmp 50,.tmp 52,.tmp 53] _ (by rfl) 111 _ zuR (by rfl) _ (by rfl) _ had ?_;rintro v7 w7 ⟨rfl,rY,wD⟩;have uI:=zh (uJ.out.trans wD);have j2:=uI.out.blk (.inr (.inr ⟨ym.out,l2⟩)) K2.out;have rq:=zh rY;have tV:(fun w':World=>w'.cell? ⟨rb,6,none⟩=some (.pointer (some ⟨C.sb,0,none⟩))/\w'.cell? ⟨pb,1,none⟩=some (.slice B1 q.ps.length d1)) w7:=⟨by rw[<-ag.out];exact rY.cells.1,zc j2 rfl⟩
    refine hK.out _ _ ⟨tV,trivial⟩ ?_;have HS7:=zh tV;have uV:=zh rY.below;clear hK K had rY wD j2 tV hSS hen;(try simp only[zQ]);have qF:=zh (dF.out.trans (Kpt.less (C:=C) uI.out));rw[hR] at iV;have had:=zlu ⟨rb,0,none⟩ R.1 w7;refine zp 9 fun K hK=>?_;refine zlq (by rfl) (.func 80) [.tmp 46,.tmp 54] _ (by rfl) 80 _ zmy (by rfl) _ (by rfl) (fun v w'=>w'=w7/\R.1=0) (had.mono ?_) ?_
    ·rintro e y1 ⟨rfl,hv1⟩;rcases hv1 with⟨h0,u0,rfl⟩|⟨h0,rfl⟩
     ·exact .inl ⟨_,rfl,rfl,h0⟩
     ·refine .inr ⟨_,rfl,?_⟩;refine⟨rfl,qF.out,uV.out,?_⟩
      try rw[bU.out]
      rw[<-iV.out,show zki r1 R=.err R.1 by unfold zki;rw[if_pos h0]];rfl
    rintro v8 w8 ⟨rfl,h0⟩;have gH:=zh (show caR C.p.prs C.F g back i q.b { r1 with S:=R.2 }=o by rw[<-iV.out,show zki r1 R=.ok { r1 with S:=R.2 } by unfold zki;rw[if_neg (by simpa using h0)]];rfl);refine hK.out _ _ HS7.out ?_;clear hK K had h0;(try simp only[zQ]);refine zd ?_;obtain⟨r2,hr2⟩:∃ x,({ r1 with S:=R.2 }:RS)=x:=⟨_,rfl⟩
    rw[hr2] at rq gH;have he2:r2.ent.length=C.p.prs.length:=rq.out.el;have hi2:i<r2.ent.length:=by rw[he2];exact vP.out
    have hn2:r2.ent.getD i 0+1<=r2.n:=by
     rw[<-hr2];simp only;rw[jH.out.2.2,jH.out.2.1,List.getD_eq_getElem?_getD,List.getElem?_eq_getElem (by rw[H.out.el];exact vP.out)];have:=H.out.en _ (List.getElem_mem (l:=r.ent) (n:=i) (by rw[H.out.el];exact vP.out));simp only[Option.getD_some];omega
    obtain⟨eg,ec,hev,hcz,hcf,hrc,hkc⟩:=rq.out.count rC.out hi2 hn2;have hev':C.ev=.slice (some ⟨eg,0,none⟩) r2.ent.length ec:=hev;obtain⟨-,-,-,e9,-⟩:=rq.out.cells;have e9':w8.cell? ⟨rb,9,none⟩=some (.slice (some ⟨eg,0,none⟩) z5 ec):=by
     rw[<-ag.out,<-zX.out,<-he2,<-hev'];exact e9
    have hnn:=rq.out.n;have yR:IntKind.i64.wrap ((r2.ent.getD i 0:Nat)+1:Int)=((r2.ent.getD i 0+1:Nat):Int):=by rw[IntWalk.i64_in _ (by omega)];omega
    have kQ:=zh (show(runO C.p.prs C.F g back q.b { r2 with ent:=r2.ent.set i (r2.ent.getD i 0+1) }).bind (fun r=>(zkq C.F r).bind fun r=>zki r (zlt r.S))=o from gH.out);obtain⟨e0,he0⟩:∃ e,r2.ent.getD i 0=e:=⟨_,rfl⟩
    rw[he0] at hcz hrc hkc yR kQ;obtain⟨w9,bH⟩:∃ x,w8.setCell ⟨eg,i,none⟩ (.int .i64 ((e0+1:Nat):Int))=x:=⟨_,rfl⟩
    rw[bH] at hrc hkc;obtain⟨r3,hr3⟩:∃ x,({ r2 with ent:=r2.ent.set i (e0+1) }:RS)=x:=⟨_,rfl⟩
    rw[hr3] at hrc kQ;have uz:=zh hrc;have uH:=zh (uI.out.trans hkc);have jD:=zh (dF.out.trans (Kpt.less (C:=C) uH.out));have dV:=zh (show Below C.w.heap.size C.w w9 from hrc.below);have j2:=uH.out.blk (.inr (.inr ⟨ym.out,l2⟩)) K2.out;have hgu:runO C.p.prs C.F g back q.b r3 ≠ .gas:=fun e=>ed.out (by rw[<-kQ.out,e];rfl);have az:=zh (zlz HS.out rC.out uz.out q.b _ back HPRR.out.body hG1 hgu);rw[show(C.plus W.heap.size hi).rb=rb from ag.out] at az;have HJ2:=zh j2;have hi1:=uK.out;have hi0:(0:Int)<=(i:Int):=by omega
    rw[show((e0+1:Nat):Int)=(e0:Int)+1 by omega] at yR bH;clear hr2 he2 hi2 hn2 hev hev' e9 hnn he0 hr3 hrc hkc j2 hgu hG1 gH HS7 hbd hpq hR;go_upto_region 12 with fail;clear bH hcz hcf e9' yR;have q2:w9.cell? ⟨pb,2,none⟩=some (.int .u8 q.b.k):=zc HJ2.out rfl;have q3:w9.cell? ⟨pb,3,none⟩=some (.int .i64 q.b.n):=zc HJ2.out rfl;have q4:w9.cell? ⟨pb,4,none⟩=some (.string q.b.s):=zc HJ2.out rfl;have q5:w9.cell? ⟨pb,5,none⟩=some (.slice B2 q.b.ks.length d2):=zc HJ2.out rfl;go_wp2_with fail;refine az.out.mono ?_;rintro e bW ⟨hk10,hb10,ho10⟩;have HK510:=zh (uH.out.trans hk10);have HK10:=zh (dF.out.trans (Kpt.less (C:=C) HK510.out));have oK:=zh (show Below C.w.heap.size C.w bW from hb10);have kL:match runO C.p.prs C.F g back q.b r3 with
     | .gas=>True
     | .err x=>e=zlT x
     | .ok r=>(∃ u,e=.returned u)/\RI (C.plus W.heap.size hi) bW r:=ho10
    clear q2 q3 q4 q5 hk10 hb10 ho10 az
    cases hx:runO C.p.prs C.F g back q.b r3 with
    | gas=>exact absurd (by rw[<-kQ.out,hx];rfl) ed.out
    | err x =>
     rw[hx] at kL;subst kL;refine⟨rfl,HK10.out,oK.out,?_⟩
     try rw[bU.out]
     rw[<-kQ.out,hx];rfl
    | ok r4 =>
     rw[hx] at kL;obtain⟨⟨u9,rfl⟩,hr4⟩:=kL;have HST:=zh (zme rC.out hr4);rw[show(C.plus W.heap.size hi).rb=rb from ag.out] at HST;have gP:=zh (show((zkq C.F r4).bind fun r=>zki r (zlt r.S))=o by rw[<-kQ.out,hx];rfl);have HR10:=zh hr4;clear hx hr4;go_wp2_with fail;refine HST.out.mono ?_;rintro e bq ⟨jg,lG,kY⟩;have HK511:=zh (HK510.out.trans jg);have kD:=zh (dF.out.trans (Kpt.less (C:=C) HK511.out));have kI:=zh (show Below C.w.heap.size C.w bq from lG);have kK:match zkq C.F r4 with
      | .gas=>True
      | .err x=>e=zlT x
      | .ok r=>(∃ u,e=.returned u)/\RI (C.plus W.heap.size hi) bq r:=kY
     clear jg lG kY HST
     cases hy:zkq C.F r4 with
     | gas=>exact absurd (by rw[<-gP.out,hy];rfl) ed.out
     | err x =>
      rw[hy] at kK;subst kK;refine⟨rfl,kD.out,kI.out,?_⟩
      try rw[bU.out]
      rw[<-gP.out,hy];rfl
     | ok r5 =>
      rw[hy] at kK;obtain⟨⟨u9,rfl⟩,kW⟩:=kK;have lQ:=zh kW;have jG:=zh (show FB r4.n r5.S/\r5.n=r4.n+1 by obtain⟨rfl,-⟩:=zkY hy;exact⟨HR10.out.fb,rfl⟩);obtain⟨Rc,mh⟩:∃ R,zlt r5.S=R:=⟨_,rfl⟩
      have jy:=zh (show zki r5 Rc=o by rw[<-gP.out,hy,<-mh];rfl);have y6:bq.cell? ⟨rb,6,none⟩=some (.pointer (some ⟨C.sb,0,none⟩)):=by rw[<-ag.out];exact kW.cells.1
      clear kW hy;go_wp2_with fail;refine(lQ.out.ks.leave).mono ?_;rintro e jU ⟨rfl,h2,h3⟩;have hs:=RI.store (C:=C.plus W.heap.size hi) lQ.out h2 h3 (by rw[jG.out.2];exact jG.out.1.leave);rw[mh] at hs ⊢;have oh:=zh hs.1;have HK512:=zh (HK511.out.trans hs.2);have iQ:=zh hs.1.below;have HK12:=zh (dF.out.trans (Kpt.less (C:=C) HK512.out));clear hs h2 h3 y6;go_wp2_with fail;refine(zlu ⟨rb,0,none⟩ Rc.1 jU).mono ?_;rintro e y1 ⟨rfl,hv1⟩;rcases hv1 with⟨h0,u0,rfl⟩|⟨h0,rfl⟩
      ·have iL:=zh (show o=.ok { r5 with S:=Rc.2 } by rw[<-jy.out];unfold zki;rw[if_neg (by simpa using h0)]);have HR13:=zh oh.out.less;clear h0;go_wp2_with fail;go_end0;refine⟨HK12.out,iQ.out,?_⟩
       try rw[bU.out]
       rw[iL.out];exact⟨⟨_,rfl⟩,HR13.out⟩
      ·refine⟨rfl,HK12.out,iQ.out,?_⟩
       try rw[bU.out]
       rw[<-jy.out,show zki r5 Rc=.err Rc.1 by unfold zki;rw[if_pos h0]]
theorem zqp {G:List PR->T->Prop} {g:Nat} (hS:IStC G g) {C:RC} (hC:C.Ok) {W:World} {r:RS} (h:RI C W r) (t:T) (v:Value) (back:Bool) (hv:NV C.w Any t v) (hk0:t.k=50) (i:Nat) (hi:prcI C.p.prs t.s=some i) (q:PR) (hq:C.p.prs[i]?=some q) (hG1:∀ u∈q.b.ks,G C.p.prs u)
  (o:Out) (ho:caO C.p.prs C.F g back i q (t.ks.map (·.s)) r=o) (hog:o ≠ .gas) :
  Calls Tryz.prog 51 #[.pointer (some ⟨C.rb,0,none⟩),v,.bool back] W (RunP C W o):=by
 have aC:=hog
 cases back
 ·skip
  obtain⟨k,n,s,ks⟩:=t;obtain rfl:k=50:=hk0;obtain⟨A,c,rfl,-,hlk,hlc,-⟩:=hv.open_;have hb0:=zkc (Below.refl W.heap.size W) (.cells #[.int .u8 50,.int .i64 n,.string s,.slice A ks.length c] 26);obtain⟨x0,x1,x2,x3⟩:=box4 (heap_alloc_new W (.cells #[.int .u8 50,.int .i64 n,.string s,.slice A ks.length c] 26));have aQ:=zh (Kpt.of_below (n0:=C.n0) (kb:=C.kb) hb0);have bN:=zh (show Calls Tryz.prog 83 #[.pointer (some ⟨C.rb,0,none⟩),.agg #[.int .u8 50,.int .i64 n,.string s,.slice A ks.length c],.bool false] (W.alloc (.cells #[.int .u8 50,.int .i64 n,.string s,.slice A ks.length c] 26)) (RunP C _ o) from ho▸(zn0 hS hC (h.later hb0) _ _ false hv i hi q hq hG1 (ho▸hog)));clear hv hb0 h aC hG1 ho hi hq;go_enter Tryz.func51,Tryz.ntmps51;go_wp2_with fail;refine bN.out.mono ?_;rintro e w1 ⟨hk1,hb1,ho1⟩
  cases o with
  | gas=>exact absurd rfl hog
  | err x =>
   subst ho1;exact⟨rfl,aQ.out.trans hk1,hb1,rfl⟩
  | ok r1 =>
   obtain⟨⟨u,rfl⟩,hr1⟩:=ho1;have HR:=zh hr1;have aH:=zh (aQ.out.trans hk1);have HB1:=zh hb1;clear x0 x1 x2 x3 hr1 hk1 hb1;go_wp2_with fail;go_end0;exact⟨aH.out,HB1.out,⟨_,rfl⟩,HR.out⟩
 ·skip
  obtain⟨k,n,s,ks⟩:=t;obtain rfl:k=50:=hk0;obtain⟨A,c,rfl,-,hlk,hlc,-⟩:=hv.open_;have hb0:=zkc (Below.refl W.heap.size W) (.cells #[.int .u8 50,.int .i64 n,.string s,.slice A ks.length c] 26);obtain⟨x0,x1,x2,x3⟩:=box4 (heap_alloc_new W (.cells #[.int .u8 50,.int .i64 n,.string s,.slice A ks.length c] 26));have aQ:=zh (Kpt.of_below (n0:=C.n0) (kb:=C.kb) hb0);have bN:=zh (show Calls Tryz.prog 83 #[.pointer (some ⟨C.rb,0,none⟩),.agg #[.int .u8 50,.int .i64 n,.string s,.slice A ks.length c],.bool true] (W.alloc (.cells #[.int .u8 50,.int .i64 n,.string s,.slice A ks.length c] 26)) (RunP C _ o) from ho▸(zn0 hS hC (h.later hb0) _ _ true hv i hi q hq hG1 (ho▸hog)));clear hv hb0 h aC hG1 ho hi hq;go_enter Tryz.func51,Tryz.ntmps51;go_wp2_with fail;refine bN.out.mono ?_;rintro e w1 ⟨hk1,hb1,ho1⟩
  cases o with
  | gas=>exact absurd rfl hog
  | err x =>
   subst ho1;exact⟨rfl,aQ.out.trans hk1,hb1,rfl⟩
  | ok r1 =>
   obtain⟨⟨u,rfl⟩,hr1⟩:=ho1;have HR:=zh hr1;have aH:=zh (aQ.out.trans hk1);have HB1:=zh hb1;clear x0 x1 x2 x3 hr1 hk1 hb1;go_wp2_with fail;go_end0;exact⟨aH.out,HB1.out,⟨_,rfl⟩,HR.out⟩
theorem zqo {G:List PR->T->Prop} {g:Nat} (hS:IStC G g) {C:RC} (hC:C.Ok) {W:World} {r:RS} (h:RI C W r) (t:T) (v:Value) (back:Bool) (hv:NV C.w Any t v) (hk0:t.k=51) (i:Nat) (hi:prcI C.p.prs t.s=some i) (q:PR) (hq:C.p.prs[i]?=some q) (hG1:∀ u∈q.b.ks,G C.p.prs u)
  (o:Out) (ho:caO C.p.prs C.F g (!back) i q (t.ks.map (·.s)) r=o) (hog:o ≠ .gas) :
  Calls Tryz.prog 51 #[.pointer (some ⟨C.rb,0,none⟩),v,.bool back] W (RunP C W o):=by
 have aC:=hog
 cases back
 ·skip
  change caO C.p.prs C.F g true i q (t.ks.map (·.s)) r=o at ho;obtain⟨k,n,s,ks⟩:=t;obtain rfl:k=51:=hk0;obtain⟨A,c,rfl,-,hlk,hlc,-⟩:=hv.open_;have hb0:=zkc (Below.refl W.heap.size W) (.cells #[.int .u8 51,.int .i64 n,.string s,.slice A ks.length c] 26);obtain⟨x0,x1,x2,x3⟩:=box4 (heap_alloc_new W (.cells #[.int .u8 51,.int .i64 n,.string s,.slice A ks.length c] 26));have aQ:=zh (Kpt.of_below (n0:=C.n0) (kb:=C.kb) hb0);have bN:=zh (show Calls Tryz.prog 83 #[.pointer (some ⟨C.rb,0,none⟩),.agg #[.int .u8 51,.int .i64 n,.string s,.slice A ks.length c],.bool true] (W.alloc (.cells #[.int .u8 51,.int .i64 n,.string s,.slice A ks.length c] 26)) (RunP C _ o) from ho▸(zn0 hS hC (h.later hb0) _ _ true hv i hi q hq hG1 (ho▸hog)));clear hv hb0 h aC hG1 ho hi hq;go_enter Tryz.func51,Tryz.ntmps51;go_wp2_with fail;refine bN.out.mono ?_;rintro e w1 ⟨hk1,hb1,ho1⟩
  cases o with
  | gas=>exact absurd rfl hog
  | err x =>
   subst ho1;exact⟨rfl,aQ.out.trans hk1,hb1,rfl⟩
  | ok r1 =>
   obtain⟨⟨u,rfl⟩,hr1⟩:=ho1;have HR:=zh hr1;have aH:=zh (aQ.out.trans hk1);have HB1:=zh hb1;clear x0 x1 x2 x3 hr1 hk1 hb1;go_wp2_with fail;go_end0;exact⟨aH.out,HB1.out,⟨_,rfl⟩,HR.out⟩
 ·skip
  change caO C.p.prs C.F g false i q (t.ks.map (·.s)) r=o at ho;obtain⟨k,n,s,ks⟩:=t;obtain rfl:k=51:=hk0;obtain⟨A,c,rfl,-,hlk,hlc,-⟩:=hv.open_;have hb0:=zkc (Below.refl W.heap.size W) (.cells #[.int .u8 51,.int .i64 n,.string s,.slice A ks.length c] 26);obtain⟨x0,x1,x2,x3⟩:=box4 (heap_alloc_new W (.cells #[.int .u8 51,.int .i64 n,.string s,.slice A ks.length c] 26));have aQ:=zh (Kpt.of_below (n0:=C.n0) (kb:=C.kb) hb0);have bN:=zh (show Calls Tryz.prog 83 #[.pointer (some ⟨C.rb,0,none⟩),.agg #[.int .u8 51,.int .i64 n,.string s,.slice A ks.length c],.bool false] (W.alloc (.cells #[.int .u8 51,.int .i64 n,.string s,.slice A ks.length c] 26)) (RunP C _ o) from ho▸(zn0 hS hC (h.later hb0) _ _ false hv i hi q hq hG1 (ho▸hog)));clear hv hb0 h aC hG1 ho hi hq;go_enter Tryz.func51,Tryz.ntmps51;go_wp2_with fail;refine bN.out.mono ?_;rintro e w1 ⟨hk1,hb1,ho1⟩
  cases o with
  | gas=>exact absurd rfl hog
  | err x =>
   subst ho1;exact⟨rfl,aQ.out.trans hk1,hb1,rfl⟩
  | ok r1 =>
   obtain⟨⟨u,rfl⟩,hr1⟩:=ho1;have HR:=zh hr1;have aH:=zh (aQ.out.trans hk1);have HB1:=zh hb1;clear x0 x1 x2 x3 hr1 hk1 hb1;go_wp2_with fail;go_end0;exact⟨aH.out,HB1.out,⟨_,rfl⟩,HR.out⟩
structure GC (G:List PR->T->Prop):Prop where
 two:∀ prs t,G prs t->(t.k=52\/t.k=53)->t.ks.length=4/\(∀ u∈(kid t 1).ks,G prs u)/\∀ u∈(kid t 2).ks,G prs u
 loc:∀ prs t,G prs t->t.k=54->t.ks.length=3/\∀ u∈(kid t 1).ks,G prs u
 stk:∀ prs t,G prs t->t.k=55->t.ks.length=1/\∀ u∈(kid t 0).ks,G prs u
 cal:∀ prs t,G prs t->(t.k=50\/t.k=51)->∃ i q,prcI prs t.s=some i/\prs[i]?=some q/\∀ u∈q.b.ks,G prs u
theorem getD_some {prs:List PR} {i:Nat} {q:PR} (h:prs[i]?=some q):prs.getD i ⟨⟨#[]⟩,[],nil0⟩=q:=by
 rw[List.getD_eq_getElem?_getD,h];rfl
theorem zq0 {G:List PR->T->Prop} (hG:GC G):∀ g,IStC G g
 | 0=>fun C hC W r h t v back hv vg hg=>absurd rfl hg
 | g+1=>fun C hC W r h t v back hv vg hg=>by
  have hS:=zq0 hG g;by_cases mi:t.k=52
  ·obtain⟨h1,h2,h3⟩:=hG.two _ _ vg (.inl mi);have e:zkr C.p.prs C.F (g+1) back t r=brO C.p.prs C.F g back t r:=by rw[zkr,if_pos mi];rfl
   rw[e] at hg ⊢;exact zv6 hS hC h t v back hv mi h1 h2 h3 _ rfl hg
  by_cases nP:t.k=53
  ·obtain⟨h1,h2,h3⟩:=hG.two _ _ vg (.inr nP);have e:zkr C.p.prs C.F (g+1) back t r=lpO C.p.prs C.F g back t r:=by rw[zkr,if_neg mi,if_pos nP];rfl
   rw[e] at hg ⊢;exact zsf hS hC h t v back hv nP h1 h2 h3 _ rfl hg
  by_cases gM:t.k=54
  ·obtain⟨h1,h2⟩:=hG.loc _ _ vg gM;have e:zkr C.p.prs C.F (g+1) back t r=loO C.p.prs C.F g back t r:=by rw[zkr,if_neg mi,if_neg nP,if_pos gM];rfl
   rw[e] at hg ⊢;exact zrF hS hC h t v back hv gM h1 h2 _ rfl hg
  by_cases gY:t.k=55
  ·obtain⟨h1,h2⟩:=hG.stk _ _ vg gY;have e:zkr C.p.prs C.F (g+1) back t r=lsO C.p.prs C.F g back t r:=by rw[zkr,if_neg mi,if_neg nP,if_neg gM,if_pos gY];rfl
   rw[e] at hg ⊢;exact zv5 hS hC h t v back hv gY h1 h2 hg
  by_cases h5:t.k=50\/t.k=51
  ·obtain⟨i,q,hi,hq,hb⟩:=hG.cal _ _ vg h5;have e:zkr C.p.prs C.F (g+1) back t r=caO C.p.prs C.F g (back != decide (t.k=51)) i q (t.ks.map (·.s)) r:=by
    rw[zkr,if_neg mi,if_neg nP,if_neg gM,if_neg gY,if_pos h5,hi];dsimp only;rw[getD_some hq];rfl
   rw[e] at hg ⊢;rcases h5 with h50|mo
   ·have e2:(back != decide (t.k=51))=back:=by rw[show decide (t.k=51)=false by simp[h50]];cases back<;>rfl
    rw[e2] at hg ⊢;exact zqp hS hC h t v back hv h50 i hi q hq hb _ rfl hg
   ·have e2:(back != decide (t.k=51)) = !back:=by rw[show decide (t.k=51)=true by simp[mo]];cases back<;>rfl
    rw[e2] at hg ⊢;exact zqo hS hC h t v back hv mo i hi q hq hb _ rfl hg
  ·have e:zkr C.p.prs C.F (g+1) back t r=basO C.F back t r:=by
    rw[zkr,if_neg mi,if_neg nP,if_neg gM,if_neg gY,if_neg h5];rfl
   rw[e];exact zuj hC h t v back hv ⟨mi,nP,gM,gY,fun h=>h5 (.inl h),fun h=>h5 (.inr h)⟩
end Go.Proofs.YtmbbaccjcekhkaaGreat
