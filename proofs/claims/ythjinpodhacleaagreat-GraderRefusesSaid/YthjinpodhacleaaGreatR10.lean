/-
  Texts of the proof, put together without their remarks: Il, Iv, Id, It, Ik, Im, Iz, Ia, Gf, Nz.
-/
import Derived.Test.YthjinpodhacleaaGreatR9
import Derived.Tactics
import Derived.Tactics2
import Derived.Defers
set_option linter.unusedSimpArgs false
set_option linter.unusedVariables false
set_option maxHeartbeats 8000000
set_option maxRecDepth 100000
namespace Go.Proofs.YthjinpodhacleaaGreat
open Tryz
section
open Go Go.RowKit
theorem zut:IsFn prog 154 f154:=⟨func154,by kernel_rfl,by kernel_rfl⟩
theorem zmf:IsFn prog 136 f136:=⟨func136,by kernel_rfl,by kernel_rfl⟩
theorem zuy:IsFn prog 137 f137:=⟨func137,by kernel_rfl,by kernel_rfl⟩
theorem zsa:IsFn prog 138 f138:=⟨func138,by kernel_rfl,by kernel_rfl⟩
def loR(prs:List PR)(F:Int)(g:Nat)(back:Bool)(t t2:T)(r:RS):Out :=
 (zk1 (zku prs F g back) (blkL back (kid t 1)) r).bind fun r=>(zkz F r).bind fun r=>valO t2 r fun x r=>zkm r (zlf r.S t.s x)
def loO(prs:List PR)(F:Int)(g:Nat)(back:Bool)(t:T)(r:RS):Out :=
 (zkz F r).bind fun r=>valO (fstT back t) r fun x r=>(zkm r (zl4 r.S ⟨t.s,1,0⟩ x)).bind (loR prs F g back t (lstT back t))
theorem zt5{G:List PR->T->Prop}{g:Nat}(hS:IStC G g){C:RC}(hC:C.Ok){W:World}{r:RS}(h:RI C W r)(t:T)(v:Value)(back:Bool)(hv:NV C.w Any t v)(hk:t.ks.length=3)(hG1:∀u∈(kid t 1).ks,G C.p.prs u)
  (aF:loO C.p.prs C.F g back t r ≠ .gas) :
  Calls prog 134 #[.pointer (some ⟨C.rb,0,none⟩),v,.bool back] W (RunP C W (loO C.p.prs C.F g back t r)):=by
 obtain⟨A,c,rfl,-,hlk,hlc,hrow⟩:=hv.open_;have ae:=zh hrow;have HS:=zh hS;have HV:=zh hv;have hb0:=zkb (zs W) (.cells #[.int .u8 t.k,.int .i64 t.n,.string t.s,.slice A t.ks.length c] 28);obtain⟨x0,x1,x2,x3⟩:=box4 (heap_alloc_new W (.cells #[.int .u8 t.k,.int .i64 t.n,.string t.s,.slice A t.ks.length c] 28));have HB0:=zh hb0;have H:=zh h;have HC:=zh hC;have HX:=zh (heap_alloc_new W (.cells #[.int .u8 t.k,.int .i64 t.n,.string t.s,.slice A t.ks.length c] 28));have nQ:=zh (fun w' (hb:Below W.heap.size W w')=>zpR t _ back C.w w' (zka h.below hb) hv (by omega));have jf:=zh hk;clear hrow hS hb0 h hv hk hC hlk;go_enter func134,ntmps134;go_wp2_with fail;refine(nQ.out _ HB0.out).mono ?_;rintro e w2 ⟨v1,v2,rfl,n1,n2,b2⟩;obtain⟨t1,ht1⟩:=zX (fstT back t);obtain⟨t2,ht2⟩:=zX (lstT back t);have HT1:=zh ht1;have HT2:=zh ht2;rw[ht1]at n1;rw[ht2]at n2;obtain⟨A1,c1,rfl,-⟩:=n1.open_
 obtain⟨A2,c2,rfl,-⟩:=n2.open_;have fE:=zh n1;have aG:=zh n2;have b3:=zkb (zkb (zka HB0.out b2) (.cells #[.int .u8 t1.k,.int .i64 t1.n,.string t1.s,.slice A1 t1.ks.length c1] 28)) (.cells #[.int .u8 t2.k,.int .i64 t2.n,.string t2.s,.slice A2 t2.ks.length c2] 28);have k0:=zkd (zkd (zkc HX.out b2) (.cells #[.int .u8 t1.k,.int .i64 t1.n,.string t1.s,.slice A1 t1.ks.length c1] 28)) (.cells #[.int .u8 t2.k,.int .i64 t2.n,.string t2.s,.slice A2 t2.ks.length c2] 28);have k1:=zkd (heap_alloc_new w2 (.cells #[.int .u8 t1.k,.int .i64 t1.n,.string t1.s,.slice A1 t1.ks.length c1] 28)) (.cells #[.int .u8 t2.k,.int .i64 t2.n,.string t2.s,.slice A2 t2.ks.length c2] 28);have k2:=heap_alloc_new (w2.alloc (.cells #[.int .u8 t1.k,.int .i64 t1.n,.string t1.s,.slice A1 t1.ks.length c1] 28)) (.cells #[.int .u8 t2.k,.int .i64 t2.n,.string t2.s,.slice A2 t2.ks.length c2] 28)
 simp only[World.size_alloc]at k2;obtain⟨w3,hw3⟩:=zX ((w2.alloc (.cells #[.int .u8 t1.k,.int .i64 t1.n,.string t1.s,.slice A1 t1.ks.length c1] 28)).alloc (.cells #[.int .u8 t2.k,.int .i64 t2.n,.string t2.s,.slice A2 t2.ks.length c2] 28));rw[hw3]at b3 k0 k1 k2;have hz2:=zka HB0.out b2;have hzz:=hz2.size;obtain⟨dz,h3⟩:=H.out.plus HC.out b3;have bV:=zh (Kpt.of_below (n0:=C.n0) (kb:=C.kb) b3);have l0:=zkf k0;have l1:=zkf k1;have l2:=zkf k2;obtain⟨hi,hhi⟩:=zX (w3.heap.size);rw[hhi]at dz h3 l0 l1 l2;have aR:=zh dz;have H3:=zh h3;have K0:=zh k0;have K1:=zh k1;have K2:=zh k2;have iP:=zh (zlW dz h3)
 obtain⟨p1,⟨y0,y1,y2,y3⟩⟩:True/\(w3.cell? ⟨w2.heap.size,0,none⟩=some (.int .u8 t1.k)/\w3.cell? ⟨w2.heap.size,1,none⟩=some (.int .i64 t1.n)/\w3.cell? ⟨w2.heap.size,2,none⟩=some (.string t1.s)/\w3.cell? ⟨w2.heap.size,3,none⟩=some (.slice A1 t1.ks.length c1)):=⟨trivial,zc k1 rfl,zc k1 rfl,zc k1 rfl,zc k1 rfl⟩
 clear n1 n2 b2 b3 k0 k1 k2 hz2 dz h3 x0 x1 x2 x3 HX HB0 nQ p1 ht1 ht2;go_upto_region 2 with fail;clear hw3;obtain⟨o,ho⟩:=zX (loO C.p.prs C.F g back t r);have HO:=zh (show(zkz C.F r).bind (fun r=>valO t1 r fun x r=>(zkm r (zl4 r.S ⟨t.s,1,0⟩ x)).bind (loR C.p.prs C.F g back t t2))=o by rw[<-ho];unfold loO loR;rw[HT1.out,HT2.out]);rw[ho]at aF ⊢;have bu:=zh aF;have bQ:=zh ho;clear aF ho;go_wp2_with fail;refine iP.out.mono ?_;rintro e w4 ⟨hk4,hb4,eY⟩;have gP:=zh (bV.out.trans (Kpt.less (C:=C) hk4));have ax:=zh (show Below C.w.heap.size C.w w4 from hb4);have bz:match zkz C.F r with
  | .gas=>True
  | .err x=>e=zly x
  | .ok r=>(∃u,e=.returned u)/\RI (C.plus W.heap.size hi) w4 r:=eY
 have dQ:=zh hk4;clear y0 y1 y2 y3 iP hk4 hb4 eY
 cases hy:zkz C.F r with
 | gas=>exact absurd (by rw[<-HO.out,hy];rfl) bu.out
 | err x =>
  rw[hy]at bz;subst bz;refine⟨rfl,gP.out,ax.out,?_⟩;rw[<-HO.out,hy];rfl
 | ok r1 =>
  rw[hy]at bz;obtain⟨⟨u3,rfl⟩,hr1⟩:=bz;have HR4:=zh hr1;have iZ:=zh (show(valO t1 r1 fun x r=>(zkm r (zl4 r.S ⟨t.s,1,0⟩ x)).bind (loR C.p.prs C.F g back t t2))=o by rw[<-HO.out,hy];rfl);have gT:=zh (show FB r.n r1.S/\r1.n=r.n+1 by obtain⟨rfl,-⟩:=zlh hy;exact⟨H.out.fb,rfl⟩);have j0:=dQ.out.blk (.inr (.inr ⟨by omega,l0⟩)) K0.out;have j1:=dQ.out.blk (.inr (.inr ⟨by omega,l1⟩)) K1.out;have dO:=zh (fun w' (hb:Below w4.heap.size w4 w')=>zp4 (hr1.later hb) t1 _ fE.out);have aB:=zh (show ∀w',Below w4.heap.size w4 w'->(fun w':World=>zv w' C.rb 6 (.pointer (some ⟨C.sb,0,none⟩))/\zv w' W.heap.size 2 (.string t.s)/\zN4 w' w2.heap.size (.int .u8 t1.k) (.int .i64 t1.n) (.string t1.s) (.slice A1 t1.ks.length c1)) w' from fun w' hb=>⟨zb hb hr1.cells.1,zb hb (zc j0 rfl),zb hb (zc j1 rfl),zb hb (zc j1 rfl),zb hb (zc j1 rfl),zb hb (zc j1 rfl)⟩);have ig:=zh (aB.out _ zr.drew)
  clear hr1 hy j0 j1;go_upto_region 3 with fail;have hSS:zW (fun w':World=>zv w' C.rb 6 (.pointer (some ⟨C.sb,0,none⟩))/\zv w' W.heap.size 2 (.string t.s)/\zN4 w' w2.heap.size (.int .u8 t1.k) (.int .i64 t1.n) (.string t1.s) (.slice A1 t1.ks.length c1)) zU w4.drew:=⟨ig.out,trivial⟩
  refine zG hSS 12 ?_;refine zT 0 hSS ?_;refine zT 1 hSS ?_;refine zT 2 hSS ?_;refine zT 3 hSS ?_;refine zT 4 hSS ?_;refine zT 5 hSS ?_;refine zT 6 hSS ?_;refine zT 7 hSS ?_;refine zT 8 hSS ?_;refine zT 9 hSS ?_;have had:Calls prog 154 [.pointer (some ⟨C.rb,0,none⟩),nv t1.k t1.n t1.s A1 t1.ks.length c1].toArray w4.drew (ValP (C.plus W.heap.size hi) w4.drew t1 r1):=dO.out _ zr.drew;refine zo 10 fun K hK=>?_;refine zk5 (by rfl) (.func 154) [.tmp 24,.tmp 25] _ (by rfl) 154 _ zut (by rfl) _ (by rfl) (fun v w'=>Below w4.heap.size w4 w'/\∃x,v=.int .i64 x/\I64 x/\∀f,valO t1 r1 f=f x r1) (had.mono ?_) ?_
  ·rintro e y1 ⟨bG,hv1⟩;have b1:=zka (zs w4).drew bG;rcases hv1 with⟨x,rfl,hx⟩|⟨x,rfl,oO,hx⟩
   ·refine .inr ⟨_,rfl,?_⟩;refine⟨rfl,gP.out.trans (Kpt.of_below b1),zka ax.out b1,?_⟩
    try rw[bQ.out]
    rw[<-iZ.out,hx]
   ·exact .inl ⟨_,rfl,b1,x,rfl,oO,hx⟩
  rintro v5 w5 ⟨b5,x,rfl,hx,qF⟩;have aO:=zh b5;have uu:=zh hx;have iK:=zh (show(zkm r1 (zl4 r1.S ⟨t.s,1,0⟩ x)).bind (loR C.p.prs C.F g back t t2)=o by rw[<-iZ.out,qF]);refine hK.out _ _ ⟨aB.out _ b5,trivial⟩ ?_;clear hK K had b5 hx qF hSS dO;(try simp only[zQ]);obtain⟨R,hR⟩:=zX (zl4 r1.S ⟨t.s,1,0⟩ x);have HRR:=zh hR;have kQ:=gT.out.1.cur;have iB:=H.out.n;have had:Calls prog 137 [.pointer (some ⟨C.sb,0,none⟩),.agg #[.string t.s,.int .u8 1,.int .i64 0],.int .i64 x].toArray w5 fun e w'=>∃v,e=.returned v/\(v=.int .i64 R.1/\RI (C.plus W.heap.size hi) w' { r1 with S:=R.2 }/\Kpt C.n0 (C.plus W.heap.size hi).kb w5 w') :=
   ((HR4.out.later aO.out).ks.open_ ⟨t.s,1,0⟩ (by obtain⟨_,_,_,hf,-⟩:=HV.out.open_;exact⟨hf.2.2,⟨by simp only;omega,by simp only;omega⟩,⟨by simp only;omega,by simp only;omega⟩⟩) x uu.out (by omega)).mono fun e w' ⟨h1,h2,h3⟩=>⟨_,h1,by rw[hR],(RI.store (C:=C.plus W.heap.size hi) (HR4.out.later aO.out) (hR▸h2) h3 (by rw[gT.out.2,<-hR];exact gT.out.1.open_ _ _))⟩
  refine zo 11 fun K hK=>?_;refine zlc (by rfl) (.func 137) [.tmp 20,.tmp 23,.tmp 26] _ (by rfl) 137 _ zuy (by rfl) _ (by rfl) _ had ?_;rintro v6 w6 ⟨rfl,dx,bJ⟩;have fG:=zh (dQ.out.trans ((Kpt.of_below aO.out).trans bJ));have j0:=fG.out.blk (.inr (.inr ⟨by omega,l0⟩)) K0.out;have j1:=fG.out.blk (.inr (.inr ⟨by omega,l1⟩)) K1.out;have di:=zh dx;have ak:(fun w':World=>zv w' C.rb 6 (.pointer (some ⟨C.sb,0,none⟩))/\zv w' W.heap.size 2 (.string t.s)/\zN4 w' w2.heap.size (.int .u8 t1.k) (.int .i64 t1.n) (.string t1.s) (.slice A1 t1.ks.length c1)) w6:=⟨dx.cells.1,zc j0 rfl,zc j1 rfl,zc j1 rfl,zc j1 rfl,zc j1 rfl⟩
  refine hK.out _ _ ⟨ak,trivial⟩ ?_;have lh:=zh ak;have bC:=zh dx.below;clear hK K had dx bJ j0 j1 ak ig aB;(try simp only[zQ]);have eQ:=zh (bV.out.trans (Kpt.less (C:=C) fG.out));rw[hR]at iK;have had:=zk9 ⟨C.rb,0,none⟩ R.1 w6;refine zp 12 fun K hK=>?_;refine zk5 (by rfl) (.func 136) [.tmp 16,.tmp 27] _ (by rfl) 136 _ zmf (by rfl) _ (by rfl) (fun v w'=>w'=w6/\R.1=0) (had.mono ?_) ?_
  ·rintro e y1 ⟨rfl,hv1⟩;rcases hv1 with⟨h0,u0,rfl⟩|⟨h0,rfl⟩
   ·exact .inl ⟨_,rfl,rfl,h0⟩
   ·refine .inr ⟨_,rfl,?_⟩;refine⟨rfl,eQ.out,bC.out,?_⟩
    try rw[bQ.out]
    rw[<-iK.out,show zkm r1 R=.err R.1 by unfold zkm;rw[if_pos h0]];rfl
  rintro v7 w7 ⟨rfl,h0⟩;have qp:=zh (show loR C.p.prs C.F g back t t2 { r1 with S:=R.2 }=o by rw[<-iK.out,show zkm r1 R=.ok { r1 with S:=R.2 } by unfold zkm;rw[if_neg (by simpa using h0)]];rfl);refine hK.out _ _ lh.out ?_;clear hK K had h0;(try simp only[zQ]);refine zd ?_;obtain⟨r2,hr2⟩:=zX (({ r1 with S:=R.2 }:RS));rw[hr2]at di qp;have hI:1<t.ks.length:=by have:=jf.out;omega
  have hI1:(1:Int)<(t.ks.length:Int):=by omega
  obtain⟨a,u,Au,cu,rfl,-,hu,⟨p0,p1,p2,p3⟩,hnu⟩:=ae.out.nd hI;have gD:kid t 1=u:=by unfold kid;rw[List.getD_eq_getElem?_getD,List.getElem?_eq_getElem hI];exact hu.out
  have uZ:=zh (show ∀x∈u.ks,G C.p.prs x by rw[<-gD];exact hG1);have lq:=zh (show(runO C.p.prs C.F g back u r2).bind (fun r=>(zkz C.F r).bind fun r=>valO t2 r fun x r=>zkm r (zlf r.S t.s x))=o by rw[<-qp.out,<-gD];rfl);have hgu:runO C.p.prs C.F g back u r2 ≠ .gas:=fun e=>bu.out (by rw[<-lq.out,e];rfl);have av:=zh (zle HS.out aR.out di.out u _ back hnu uZ.out hgu);have ha:a.add (1*4)=⟨a.block,a.off+4,none⟩:=by unfold Addr.add;split<;>simp_all
  rw[ha]at p0 p1 p2 p3;have q0:=zb bC.out p0;have q1:=zb bC.out p1;have q2:=zb bC.out p2;have q3:=zb bC.out p3;have j0:=fG.out.blk (.inr (.inr ⟨by omega,l0⟩)) K0.out;have q4:=zc (i:=3) j0 rfl;clear gD hnu hu p0 p1 p2 p3 hgu ha j0 kQ iB;go_wp2_with fail;refine av.out.mono ?_;rintro e w8 ⟨lK,eZ,qG⟩;have nM:=zh (fG.out.trans lK);have wL:=zh (bV.out.trans (Kpt.less (C:=C) nM.out));have iT:=zh (show Below C.w.heap.size C.w w8 from eZ);have cK:match runO C.p.prs C.F g back u r2 with
   | .gas=>True
   | .err x=>e=zly x
   | .ok r=>(∃u,e=.returned u)/\RI (C.plus W.heap.size hi) w8 r:=qG
  clear q0 q1 q2 q3 q4 lK eZ qG av
  cases hx:runO C.p.prs C.F g back u r2 with
  | gas=>exact absurd (by rw[<-lq.out,hx];rfl) bu.out
  | err x =>
   rw[hx]at cK;subst cK;refine⟨rfl,wL.out,iT.out,?_⟩
   try rw[bQ.out]
   rw[<-lq.out,hx];rfl
  | ok r3 =>
   rw[hx]at cK;obtain⟨⟨u9,rfl⟩,hr3⟩:=cK;have HST:=zh (zlW aR.out hr3);have ku:=zh (show((zkz C.F r3).bind fun r=>valO t2 r fun x r=>zkm r (zlf r.S t.s x))=o by rw[<-lq.out,hx];rfl);have oD:=zh hr3;clear hx hr3;go_wp2_with fail;refine HST.out.mono ?_;rintro e w9 ⟨aL,aT,dL⟩;have iO:=zh (nM.out.trans aL);have iN:=zh (bV.out.trans (Kpt.less (C:=C) iO.out));have bE:=zh (show Below C.w.heap.size C.w w9 from aT);have gu:match zkz C.F r3 with
    | .gas=>True
    | .err x=>e=zly x
    | .ok r=>(∃u,e=.returned u)/\RI (C.plus W.heap.size hi) w9 r:=dL
   clear aL aT dL HST
   cases hy:zkz C.F r3 with
   | gas=>exact absurd (by rw[<-ku.out,hy];rfl) bu.out
   | err x =>
    rw[hy]at gu;subst gu;refine⟨rfl,iN.out,bE.out,?_⟩
    try rw[bQ.out]
    rw[<-ku.out,hy];rfl
   | ok r4 =>
    rw[hy]at gu;obtain⟨⟨u9,rfl⟩,hr4⟩:=gu;have oC:=zh hr4;have eF:=zh (show(valO t2 r4 fun x r=>zkm r (zlf r.S t.s x))=o by rw[<-ku.out,hy];rfl);have iQ:=zh (show FB r3.n r4.S/\r4.n=r3.n+1 by obtain⟨rfl,-⟩:=zlh hy;exact⟨oD.out.fb,rfl⟩);have j0:=iO.out.blk (.inr (.inr ⟨by omega,l0⟩)) K0.out;have j2:=iO.out.blk (.inr (.inr ⟨by omega,l2⟩)) K2.out;have dO:=zh (fun w' (hb:Below w9.heap.size w9 w')=>zp4 (hr4.later hb) t2 _ aG.out);have aB:=zh (show ∀w',Below w9.heap.size w9 w'->(fun w':World=>zv w' C.rb 6 (.pointer (some ⟨C.sb,0,none⟩))/\zv w' W.heap.size 2 (.string t.s)/\zN4 w' (w2.heap.size+1) (.int .u8 t2.k) (.int .i64 t2.n) (.string t2.s) (.slice A2 t2.ks.length c2)) w' from fun w' hb=>⟨zb hb hr4.cells.1,zb hb (zc j0 rfl),zb hb (zc j2 rfl),zb hb (zc j2 rfl),zb hb (zc j2 rfl),zb hb (zc j2 rfl)⟩);clear hr4 hy j0 j2;go_upto_region 6 with fail
    have hSS:zW (fun w':World=>zv w' C.rb 6 (.pointer (some ⟨C.sb,0,none⟩))/\zv w' W.heap.size 2 (.string t.s)/\zN4 w' (w2.heap.size+1) (.int .u8 t2.k) (.int .i64 t2.n) (.string t2.s) (.slice A2 t2.ks.length c2)) zU w9.drew:=⟨aB.out _ zr.drew,trivial⟩
    refine zG hSS 11 ?_;refine zT 0 hSS ?_;refine zT 1 hSS ?_;refine zT 2 hSS ?_;refine zT 3 hSS ?_;refine zT 4 hSS ?_;refine zT 5 hSS ?_;refine zT 6 hSS ?_;refine zT 7 hSS ?_;refine zT 8 hSS ?_;have had:Calls prog 154 [.pointer (some ⟨C.rb,0,none⟩),nv t2.k t2.n t2.s A2 t2.ks.length c2].toArray w9.drew (ValP (C.plus W.heap.size hi) w9.drew t2 r4):=dO.out _ zr.drew;refine zo 9 fun K hK=>?_;refine zk5 (by rfl) (.func 154) [.tmp 45,.tmp 46] _ (by rfl) 154 _ zut (by rfl) _ (by rfl) (fun v w'=>Below w9.heap.size w9 w'/\∃x,v=.int .i64 x/\I64 x/\∀f,valO t2 r4 f=f x r4) (had.mono ?_) ?_
    ·rintro e y1 ⟨bG,hv1⟩;have b1:=zka (zs w9).drew bG;rcases hv1 with⟨x,rfl,hx⟩|⟨x,rfl,oO,hx⟩
     ·refine .inr ⟨_,rfl,?_⟩;refine⟨rfl,iN.out.trans (Kpt.of_below b1),zka bE.out b1,?_⟩
      try rw[bQ.out]
      rw[<-eF.out,hx]
     ·exact .inl ⟨_,rfl,b1,x,rfl,oO,hx⟩
    rintro v10 aM ⟨b10,z,rfl,hx,qF⟩;have nX:=zh b10;obtain⟨Rc,lN⟩:=zX (zlf r4.S t.s z);have iL:=zh (show zkm r4 Rc=o by rw[<-eF.out,qF,lN]);refine hK.out _ _ ⟨aB.out _ b10,trivial⟩ ?_;clear hK K had b10 hx qF hSS dO;(try simp only[zQ]);have had:Calls prog 138 [.pointer (some ⟨C.sb,0,none⟩),.string t.s,.int .i64 z].toArray aM fun e w'=>∃v,e=.returned v/\(v=.int .i64 Rc.1/\RI (C.plus W.heap.size hi) w' { r4 with S:=Rc.2 }/\Kpt C.n0 (C.plus W.heap.size hi).kb aM w') :=
     ((oC.out.later nX.out).ks.close t.s z).mono fun e w' ⟨h1,h2,h3⟩=>⟨_,h1,by rw[lN],(RI.store (C:=C.plus W.heap.size hi) (oC.out.later nX.out) (lN▸h2) h3 (by rw[iQ.out.2,<-lN];exact iQ.out.1.close_ _ _))⟩
    refine zo 10 fun K hK=>?_;refine zlc (by rfl) (.func 138) [.tmp 42,.tmp 44,.tmp 47] _ (by rfl) 138 _ zsa (by rfl) _ (by rfl) _ had ?_;rintro v11 w11 ⟨rfl,gq,iC⟩;have fP:=zh (iO.out.trans ((Kpt.of_below nX.out).trans iC));have j0:=fP.out.blk (.inr (.inr ⟨by omega,l0⟩)) K0.out;have j2:=fP.out.blk (.inr (.inr ⟨by omega,l2⟩)) K2.out;have ll:=zh gq;have ak:(fun w':World=>zv w' C.rb 6 (.pointer (some ⟨C.sb,0,none⟩))/\zv w' W.heap.size 2 (.string t.s)/\zN4 w' (w2.heap.size+1) (.int .u8 t2.k) (.int .i64 t2.n) (.string t2.s) (.slice A2 t2.ks.length c2)) w11:=⟨gq.cells.1,zc j0 rfl,zc j2 rfl,zc j2 rfl,zc j2 rfl,zc j2 rfl⟩
    refine hK.out _ _ ⟨ak,trivial⟩ ?_;have lh:=zh ak;have jT:=zh gq.below;clear hK K had gq iC j0 j2 ak aB;(try simp only[zQ]);have jN:=zh (bV.out.trans (Kpt.less (C:=C) fP.out));have had:=zk9 ⟨C.rb,0,none⟩ Rc.1 w11;refine zp 11 fun K hK=>?_;refine zk5 (by rfl) (.func 136) [.tmp 38,.tmp 48] _ (by rfl) 136 _ zmf (by rfl) _ (by rfl) (fun v w'=>w'=w11/\Rc.1=0) (had.mono ?_) ?_
    ·rintro e y1 ⟨rfl,hv1⟩;rcases hv1 with⟨h0,u0,rfl⟩|⟨h0,rfl⟩
     ·exact .inl ⟨_,rfl,rfl,h0⟩
     ·refine .inr ⟨_,rfl,?_⟩;refine⟨rfl,jN.out,jT.out,?_⟩
      try rw[bQ.out]
      rw[<-iL.out,show zkm r4 Rc=.err Rc.1 by unfold zkm;rw[if_pos h0]]
    rintro v12 w12 ⟨rfl,h0⟩;have gL:=zh (show o=.ok { r4 with S:=Rc.2 } by rw[<-iL.out];unfold zkm;rw[if_neg (by simpa using h0)]);refine hK.out _ _ lh.out ?_;clear hK K had h0;(try simp only[zQ]);refine zd ?_;have nJ:=zh ll.out.less;go_wp2_with fail;go_end0;refine⟨jN.out,jT.out,?_⟩
    try rw[bQ.out]
    rw[gL.out];exact⟨⟨_,rfl⟩,nJ.out⟩
theorem zx3{G:List PR->T->Prop}{g:Nat}(hS:IStC G g){C:RC}(hC:C.Ok){W:World}{r:RS}(h:RI C W r)(t:T)(v:Value)(back:Bool)(hv:NV C.w Any t v)(hk0:t.k=52)(hk:t.ks.length=4)(hG1:∀u∈(kid t 1).ks,G C.p.prs u)(hG2:∀u∈(kid t 2).ks,G C.p.prs u)
  (o:Out)(ho:brO C.p.prs C.F g back t r=o)(hog:o ≠ .gas) :
  Calls prog 108 #[.pointer (some ⟨C.rb,0,none⟩),v,.bool back] W (RunP C W o):=by
 have aF:=hog;obtain⟨k,n,s,ks⟩:=t;obtain rfl:k=52:=hk0;obtain⟨A,c,rfl,-,hlk,hlc,-⟩:=hv.open_;have hb0:=zkb (zs W) (.cells #[.int .u8 52,.int .i64 n,.string s,.slice A ks.length c] 28);obtain⟨x0,x1,x2,x3⟩:=box4 (heap_alloc_new W (.cells #[.int .u8 52,.int .i64 n,.string s,.slice A ks.length c] 28));have aH:=zh (Kpt.of_below (n0:=C.n0) (kb:=C.kb) hb0);have aJ:=zh (show Calls prog 132 #[.pointer (some ⟨C.rb,0,none⟩),.agg #[.int .u8 52,.int .i64 n,.string s,.slice A ks.length c],.bool back] (W.alloc (.cells #[.int .u8 52,.int .i64 n,.string s,.slice A ks.length c] 28)) (RunP C _ o)from(ho▸(zsZ hS hC (h.later hb0) _ _ back hv hk hG1 hG2 (ho▸hog))));clear hv hb0 h aF hG1 ho hk;go_enter func108,ntmps108;go_wp2_with fail;refine aJ.out.mono ?_;rintro e w1 ⟨hk1,hb1,ho1⟩
 cases o with
 | gas=>exact absurd rfl hog
 | err x =>
  subst ho1;exact⟨rfl,aH.out.trans hk1,hb1,rfl⟩
 | ok r1 =>
  obtain⟨⟨u,rfl⟩,hr1⟩:=ho1;have HR:=zh hr1;have aD:=zh (aH.out.trans hk1);have HB1:=zh hb1;clear x0 x1 x2 x3 hr1 hk1 hb1;go_wp2_with fail;go_end0;exact⟨aD.out,HB1.out,⟨_,rfl⟩,HR.out⟩
theorem ztt{G:List PR->T->Prop}{g:Nat}(hS:IStC G g){C:RC}(hC:C.Ok){W:World}{r:RS}(h:RI C W r)(t:T)(v:Value)(back:Bool)(hv:NV C.w Any t v)(hk0:t.k=53)(hk:t.ks.length=4)(hG1:∀u∈(kid t 1).ks,G C.p.prs u)(hG2:∀u∈(kid t 2).ks,G C.p.prs u)
  (o:Out)(ho:lpO C.p.prs C.F g back t r=o)(hog:o ≠ .gas) :
  Calls prog 108 #[.pointer (some ⟨C.rb,0,none⟩),v,.bool back] W (RunP C W o):=by
 have aF:=hog;obtain⟨k,n,s,ks⟩:=t;obtain rfl:k=53:=hk0;obtain⟨A,c,rfl,-,hlk,hlc,-⟩:=hv.open_;have hb0:=zkb (zs W) (.cells #[.int .u8 53,.int .i64 n,.string s,.slice A ks.length c] 28);obtain⟨x0,x1,x2,x3⟩:=box4 (heap_alloc_new W (.cells #[.int .u8 53,.int .i64 n,.string s,.slice A ks.length c] 28));have aH:=zh (Kpt.of_below (n0:=C.n0) (kb:=C.kb) hb0);have aJ:=zh (show Calls prog 133 #[.pointer (some ⟨C.rb,0,none⟩),.agg #[.int .u8 53,.int .i64 n,.string s,.slice A ks.length c],.bool back] (W.alloc (.cells #[.int .u8 53,.int .i64 n,.string s,.slice A ks.length c] 28)) (RunP C _ o)from(ho▸(zwl hS hC (h.later hb0) _ _ back hv hk hG1 hG2 (ho▸hog))));clear hv hb0 h aF hG1 ho hk;go_enter func108,ntmps108;go_wp2_with fail;refine aJ.out.mono ?_;rintro e w1 ⟨hk1,hb1,ho1⟩
 cases o with
 | gas=>exact absurd rfl hog
 | err x =>
  subst ho1;exact⟨rfl,aH.out.trans hk1,hb1,rfl⟩
 | ok r1 =>
  obtain⟨⟨u,rfl⟩,hr1⟩:=ho1;have HR:=zh hr1;have aD:=zh (aH.out.trans hk1);have HB1:=zh hb1;clear x0 x1 x2 x3 hr1 hk1 hb1;go_wp2_with fail;go_end0;exact⟨aD.out,HB1.out,⟨_,rfl⟩,HR.out⟩
theorem zst{G:List PR->T->Prop}{g:Nat}(hS:IStC G g){C:RC}(hC:C.Ok){W:World}{r:RS}(h:RI C W r)(t:T)(v:Value)(back:Bool)(hv:NV C.w Any t v)(hk0:t.k=54)(hk:t.ks.length=3)(hG1:∀u∈(kid t 1).ks,G C.p.prs u)
  (o:Out)(ho:loO C.p.prs C.F g back t r=o)(hog:o ≠ .gas) :
  Calls prog 108 #[.pointer (some ⟨C.rb,0,none⟩),v,.bool back] W (RunP C W o):=by
 have aF:=hog;obtain⟨k,n,s,ks⟩:=t;obtain rfl:k=54:=hk0;obtain⟨A,c,rfl,-,hlk,hlc,-⟩:=hv.open_;have hb0:=zkb (zs W) (.cells #[.int .u8 54,.int .i64 n,.string s,.slice A ks.length c] 28);obtain⟨x0,x1,x2,x3⟩:=box4 (heap_alloc_new W (.cells #[.int .u8 54,.int .i64 n,.string s,.slice A ks.length c] 28));have aH:=zh (Kpt.of_below (n0:=C.n0) (kb:=C.kb) hb0);have aJ:=zh (show Calls prog 134 #[.pointer (some ⟨C.rb,0,none⟩),.agg #[.int .u8 54,.int .i64 n,.string s,.slice A ks.length c],.bool back] (W.alloc (.cells #[.int .u8 54,.int .i64 n,.string s,.slice A ks.length c] 28)) (RunP C _ o)from(ho▸(zt5 hS hC (h.later hb0) _ _ back hv hk hG1 (ho▸hog))));clear hv hb0 h aF hG1 ho hk;go_enter func108,ntmps108;go_wp2_with fail;refine aJ.out.mono ?_;rintro e w1 ⟨hk1,hb1,ho1⟩
 cases o with
 | gas=>exact absurd rfl hog
 | err x =>
  subst ho1;exact⟨rfl,aH.out.trans hk1,hb1,rfl⟩
 | ok r1 =>
  obtain⟨⟨u,rfl⟩,hr1⟩:=ho1;have HR:=zh hr1;have aD:=zh (aH.out.trans hk1);have HB1:=zh hb1;clear x0 x1 x2 x3 hr1 hk1 hb1;go_wp2_with fail;go_end0;exact⟨aD.out,HB1.out,⟨_,rfl⟩,HR.out⟩
theorem zKA:IsFn prog 141 f141:=⟨func141,by kernel_rfl,by kernel_rfl⟩
theorem zyt:IsFn prog 140 f140:=⟨func140,by kernel_rfl,by kernel_rfl⟩
def basO(F:Int)(back:Bool)(t:T)(r:RS):Out:=(zkz F r).bind fun r=>zkm r (if back=true then zoK r.S t else doE r.S t)
theorem zvS{C:RC}(hC:C.Ok){W:World}{r:RS}(h:RI C W r)(t:T)(v:Value)(back:Bool)(hv:NV C.w Any t v)(hk:t.k≠52/\t.k≠53/\t.k≠54/\t.k≠55/\t.k≠50/\t.k≠51) :
  Calls prog 108 #[.pointer (some ⟨C.rb,0,none⟩),v,.bool back] W (RunP C W (basO C.F back t r)):=by
 have HV:=zh hv;have H:=zh h;obtain⟨A,c,rfl,-,hlk,hlc,-⟩:=hv.open_;have e0:(t.k==52)=false:=by simpa using hk.1
 have e1:(t.k==53)=false:=by simpa using hk.2.1
 have e2:(t.k==54)=false:=by simpa using hk.2.2.1
 have e3:(t.k==55)=false:=by simpa using hk.2.2.2.1
 have e4:(t.k==50)=false:=by simpa using hk.2.2.2.2.1
 have e5:(t.k==51)=false:=by simpa using hk.2.2.2.2.2
 have hb0:=zkb (zs W) (.cells #[.int .u8 t.k,.int .i64 t.n,.string t.s,.slice A t.ks.length c] 28);obtain⟨bA,h1⟩:=h.plus hC hb0;have k0:=heap_alloc_new W (.cells #[.int .u8 t.k,.int .i64 t.n,.string t.s,.slice A t.ks.length c] 28);obtain⟨x0,x1,x2,x3⟩:=box4 k0;have bV:=zh (Kpt.of_below (n0:=C.n0) (kb:=C.kb) hb0);obtain⟨w3,hw3⟩:=zX (W.alloc (.cells #[.int .u8 t.k,.int .i64 t.n,.string t.s,.slice A t.ks.length c] 28));rw[hw3]at bA h1 k0 x0 x1 x2 x3 bV;have l0:=zkf k0;have K0:=zh k0;obtain⟨hi,hhi⟩:=zX (w3.heap.size);rw[hhi]at bA h1 l0;have iP:=zh (zlW bA h1);obtain⟨o,ho⟩:=zX (basO C.F back t r);have bQ:=zh ho;have HO:=zh (show(zkz C.F r).bind (fun r=>zkm r (if back=true then zoK r.S t else doE r.S t))=o from ho);rw[ho];clear hv hb0 bA h1 k0 h hk ho;go_enter func108,ntmps108;go_wp2_with fail;refine iP.out.mono ?_;rintro e w4 ⟨hk4,hb4,eY⟩
 have gP:=zh (bV.out.trans (Kpt.less (C:=C) hk4));have ax:=zh (show Below C.w.heap.size C.w w4 from hb4);have bz:match zkz C.F r with
  | .gas=>True
  | .err x=>e=zly x
  | .ok r=>(∃u,e=.returned u)/\RI (C.plus W.heap.size hi) w4 r:=eY
 have dQ:=zh hk4;clear x0 x1 x2 x3 iP hk4 hb4 eY hw3
 cases hy:zkz C.F r with
 | gas=>exact absurd hy (zkr _ _).1
 | err x =>
  rw[hy]at bz;subst bz;refine⟨rfl,gP.out,ax.out,?_⟩
  try rw[bQ.out]
  rw[<-HO.out,hy];rfl
 | ok r1 =>
  rw[hy]at bz;obtain⟨⟨u3,rfl⟩,hr1⟩:=bz;have HR4:=zh hr1;have iZ:=zh (show zkm r1 (if back=true then zoK r1.S t else doE r1.S t)=o by rw[<-HO.out,hy];rfl);have gT:=zh (show FB r.n r1.S/\r1.n=r.n+1 by obtain⟨rfl,-⟩:=zlh hy;exact⟨H.out.fb,rfl⟩);have j0:=dQ.out.blk (.inr (.inr ⟨zl,l0⟩)) K0.out;have hSS:zW (fun w':World=>zv w' C.rb 6 (.pointer (some ⟨C.sb,0,none⟩))/\zN4 w' W.heap.size (.int .u8 t.k) (.int .i64 t.n) (.string t.s) (.slice A t.ks.length c)) zU w4.drew:=⟨⟨hr1.cells.1,zc j0 rfl,zc j0 rfl,zc j0 rfl,zc j0 rfl⟩,trivial⟩
  clear hr1 hy j0
  cases back
  ·skip
   go_upto_region 5 with fail;refine zG hSS 7 ?_;refine zT 0 hSS ?_;refine zT 1 hSS ?_;refine zT 2 hSS ?_;refine zT 3 hSS ?_;refine zT 4 hSS ?_;refine zT 5 hSS ?_;obtain⟨R,hR⟩:=zX (doE r1.S t);have iK:=zh (show zkm r1 R=o by rw[<-hR];exact iZ.out);have hbd:Below w4.heap.size w4 w4.drew:=zr.drew;have had:Calls prog 141 [.pointer (some ⟨C.sb,0,none⟩),.agg #[.int .u8 t.k,.int .i64 t.n,.string t.s,.slice A t.ks.length c]].toArray w4.drew fun e w'=>∃v,e=.returned v/\(v=.int .i64 R.1/\RI (C.plus W.heap.size hi) w' { r1 with S:=R.2 }/\Kpt C.n0 (C.plus W.heap.size hi).kb w4 w') :=
    ((HR4.out.later hbd).ks.do_ t _ (HV.out.later (zka ax.out hbd))).mono fun e w' ⟨h1,h2,h3⟩=>by
     have hs:=RI.store (C:=C.plus W.heap.size hi) (HR4.out.later hbd) h2 h3 (by rw[gT.out.2];exact gT.out.1.do_ _);rw[hR]at h1 hs;exact⟨_,h1,rfl,hs.1,(Kpt.of_below hbd).trans hs.2⟩
   refine zo 6 fun K hK=>?_;refine zlc (by rfl) (.func 141) [.tmp 23,.tmp 24] _ (by rfl) 141 _ zKA (by rfl) _ (by rfl) _ had ?_;rintro v6 w6 ⟨rfl,dx,bJ⟩;have eQ:=zh (gP.out.trans (Kpt.less (C:=C) bJ));have j0:=(dQ.out.trans bJ).blk (.inr (.inr ⟨zl,l0⟩)) K0.out;have ak:(fun w':World=>zv w' C.rb 6 (.pointer (some ⟨C.sb,0,none⟩))/\zN4 w' W.heap.size (.int .u8 t.k) (.int .i64 t.n) (.string t.s) (.slice A t.ks.length c)) w6:=⟨dx.cells.1,zc j0 rfl,zc j0 rfl,zc j0 rfl,zc j0 rfl⟩
   have di:=zh dx.less;have bC:=zh dx.below;refine hK.out _ _ ⟨ak,trivial⟩ ?_;have lh:=zh ak;clear hK K had dx bJ j0 ak hSS;(try simp only[zQ]);have had:=zk9 ⟨C.rb,0,none⟩ R.1 w6;refine zp 7 fun K hK=>?_;refine zk5 (by rfl) (.func 136) [.tmp 19,.tmp 25] _ (by rfl) 136 _ zmf (by rfl) _ (by rfl) (fun v w'=>w'=w6/\R.1=0) (had.mono ?_) ?_
   ·rintro e y1 ⟨rfl,hv1⟩;rcases hv1 with⟨h0,u0,rfl⟩|⟨h0,rfl⟩
    ·exact .inl ⟨_,rfl,rfl,h0⟩
    ·refine .inr ⟨_,rfl,?_⟩;refine⟨rfl,eQ.out,bC.out,?_⟩
     try rw[bQ.out]
     rw[<-iK.out,show zkm r1 R=.err R.1 by unfold zkm;rw[if_pos h0]]
   rintro v12 w12 ⟨rfl,h0⟩;have gL:=zh (show o=.ok { r1 with S:=R.2 } by rw[<-iK.out];unfold zkm;rw[if_neg (by simpa using h0)]);refine hK.out _ _ lh.out ?_;clear hK K had h0;(try simp only[zQ]);refine zd ?_;go_wp2_with fail;go_end0;refine⟨eQ.out,bC.out,?_⟩
   try rw[bQ.out]
   rw[gL.out];exact⟨⟨_,rfl⟩,di.out⟩
  ·skip
   go_upto_region 4 with fail;refine zkk (fun w':World=>zv w' C.rb 6 (.pointer (some ⟨C.sb,0,none⟩))/\zN4 w' W.heap.size (.int .u8 t.k) (.int .i64 t.n) (.string t.s) (.slice A t.ks.length c)) zU 7 (by kernel_rfl) ?_;refine zT 0 hSS ?_;refine zT 1 hSS ?_;refine zT 2 hSS ?_;refine zT 3 hSS ?_;refine zT 4 hSS ?_;refine zT 5 hSS ?_;obtain⟨R,hR⟩:=zX (zoK r1.S t);have iK:=zh (show zkm r1 R=o by rw[<-hR];exact iZ.out);have hbd:Below w4.heap.size w4 w4.drew:=zr.drew;have had:Calls prog 140 [.pointer (some ⟨C.sb,0,none⟩),.agg #[.int .u8 t.k,.int .i64 t.n,.string t.s,.slice A t.ks.length c]].toArray w4.drew fun e w'=>∃v,e=.returned v/\(v=.int .i64 R.1/\RI (C.plus W.heap.size hi) w' { r1 with S:=R.2 }/\Kpt C.n0 (C.plus W.heap.size hi).kb w4 w') :=
    ((HR4.out.later hbd).ks.undo t _ (HV.out.later (zka ax.out hbd))).mono fun e w' ⟨h1,h2,h3⟩=>by
     have hs:=RI.store (C:=C.plus W.heap.size hi) (HR4.out.later hbd) h2 h3 (by rw[gT.out.2];exact gT.out.1.undo _);rw[hR]at h1 hs;exact⟨_,h1,rfl,hs.1,(Kpt.of_below hbd).trans hs.2⟩
   refine zo 6 fun K hK=>?_;refine zlc (by rfl) (.func 140) [.tmp 15,.tmp 16] _ (by rfl) 140 _ zyt (by rfl) _ (by rfl) _ had ?_;rintro v6 w6 ⟨rfl,dx,bJ⟩;have eQ:=zh (gP.out.trans (Kpt.less (C:=C) bJ));have j0:=(dQ.out.trans bJ).blk (.inr (.inr ⟨zl,l0⟩)) K0.out;have ak:(fun w':World=>zv w' C.rb 6 (.pointer (some ⟨C.sb,0,none⟩))/\zN4 w' W.heap.size (.int .u8 t.k) (.int .i64 t.n) (.string t.s) (.slice A t.ks.length c)) w6:=⟨dx.cells.1,zc j0 rfl,zc j0 rfl,zc j0 rfl,zc j0 rfl⟩
   have di:=zh dx.less;have bC:=zh dx.below;refine hK.out _ _ ⟨ak,trivial⟩ ?_;have lh:=zh ak;clear hK K had dx bJ j0 ak hSS;(try simp only[zQ]);have had:=zk9 ⟨C.rb,0,none⟩ R.1 w6;refine zp 7 fun K hK=>?_;refine zk5 (by rfl) (.func 136) [.tmp 11,.tmp 17] _ (by rfl) 136 _ zmf (by rfl) _ (by rfl) (fun v w'=>w'=w6/\R.1=0) (had.mono ?_) ?_
   ·rintro e y1 ⟨rfl,hv1⟩;rcases hv1 with⟨h0,u0,rfl⟩|⟨h0,rfl⟩
    ·exact .inl ⟨_,rfl,rfl,h0⟩
    ·refine .inr ⟨_,rfl,?_⟩;refine⟨rfl,eQ.out,bC.out,?_⟩
     try rw[bQ.out]
     rw[<-iK.out,show zkm r1 R=.err R.1 by unfold zkm;rw[if_pos h0]]
   rintro v12 w12 ⟨rfl,h0⟩;have gL:=zh (show o=.ok { r1 with S:=R.2 } by rw[<-iK.out];unfold zkm;rw[if_neg (by simpa using h0)]);refine hK.out _ _ lh.out ?_;clear hK K had h0;(try simp only[zQ]);refine zd ?_;go_wp2_with fail;go_end0;refine⟨eQ.out,bC.out,?_⟩
   try rw[bQ.out]
   rw[gL.out];exact⟨⟨_,rfl⟩,di.out⟩
def lsR(prs:List PR)(F:Int)(g:Nat)(back:Bool)(t:T)(r:RS):Out :=
 (zk1 (zku prs F g back) (blkL back (kid t 0)) r).bind fun r=>(zkz F r).bind fun r=>zkm r (zlf r.S t.s 0)
def lsO(prs:List PR)(F:Int)(g:Nat)(back:Bool)(t:T)(r:RS):Out :=
 (zkz F r).bind fun r=>(zkm r (zl4 r.S ⟨t.s,3,0⟩ 0)).bind (lsR prs F g back t)
theorem zx2{G:List PR->T->Prop}{g:Nat}(hS:IStC G g){C:RC}(hC:C.Ok){W:World}{r:RS}(h:RI C W r)(t:T)(v:Value)(back:Bool)(hv:NV C.w Any t v)(hk0:t.k=55)(hk:t.ks.length=1)(hG1:∀u∈(kid t 0).ks,G C.p.prs u)
  (aF:lsO C.p.prs C.F g back t r ≠ .gas) :
  Calls prog 108 #[.pointer (some ⟨C.rb,0,none⟩),v,.bool back] W (RunP C W (lsO C.p.prs C.F g back t r)):=by
 have HV:=zh hv;have H:=zh h;have HS:=zh hS;have jf:=zh hk;obtain⟨A,c,rfl,-,hlk,hlc,hrow⟩:=hv.open_;have ae:=zh hrow;have hb0:=zkb (zs W) (.cells #[.int .u8 t.k,.int .i64 t.n,.string t.s,.slice A t.ks.length c] 28);obtain⟨bA,h1⟩:=h.plus hC hb0;have k0:=heap_alloc_new W (.cells #[.int .u8 t.k,.int .i64 t.n,.string t.s,.slice A t.ks.length c] 28);obtain⟨x0,x1,x2,x3⟩:=box4 k0;have bV:=zh (Kpt.of_below (n0:=C.n0) (kb:=C.kb) hb0);obtain⟨w3,hw3⟩:=zX (W.alloc (.cells #[.int .u8 t.k,.int .i64 t.n,.string t.s,.slice A t.ks.length c] 28));rw[hw3]at bA h1 k0 x0 x1 x2 x3 bV;have l0:=zkf k0;have K0:=zh k0;obtain⟨hi,hhi⟩:=zX (w3.heap.size);rw[hhi]at bA h1 l0;have mf:=zh bA;have iP:=zh (zlW bA h1);obtain⟨o,ho⟩:=zX (lsO C.p.prs C.F g back t r);have bQ:=zh ho;have HO:=zh (show(zkz C.F r).bind (fun r=>(zkm r (zl4 r.S ⟨t.s,3,0⟩ 0)).bind (lsR C.p.prs C.F g back t))=o from ho)
 rw[ho]at aF ⊢;have bu:=zh aF;rw[hk0]at hw3;have hw3':=hw3;clear hv hb0 bA h1 k0 h hk ho aF hrow hS hlk;have HKK:=zh hk0;rw[hk0]at x0;rw[hk0];clear hk0;go_enter func108,ntmps108;go_wp2_with fail;refine iP.out.mono ?_;rintro e w4 ⟨hk4,hb4,eY⟩;have gP:=zh (bV.out.trans (Kpt.less (C:=C) hk4));have ax:=zh (show Below C.w.heap.size C.w w4 from hb4);have bz:match zkz C.F r with
  | .gas=>True
  | .err x=>e=zly x
  | .ok r=>(∃u,e=.returned u)/\RI (C.plus W.heap.size hi) w4 r:=eY
 have dQ:=zh hk4;clear x0 x1 x2 x3 iP hk4 hb4 eY hw3 hw3'
 cases hy:zkz C.F r with
 | gas=>exact absurd hy (zkr _ _).1
 | err x =>
  rw[hy]at bz;subst bz;refine⟨rfl,gP.out,ax.out,?_⟩
  try rw[bQ.out]
  rw[<-HO.out,hy];rfl
 | ok r1 =>
  rw[hy]at bz;obtain⟨⟨u3,rfl⟩,hr1⟩:=bz;have HR4:=zh hr1;have iZ:=zh (show(zkm r1 (zl4 r1.S ⟨t.s,3,0⟩ 0)).bind (lsR C.p.prs C.F g back t)=o by rw[<-HO.out,hy];rfl);have gT:=zh (show FB r.n r1.S/\r1.n=r.n+1 by obtain⟨rfl,-⟩:=zlh hy;exact⟨H.out.fb,rfl⟩);have j0:=dQ.out.blk (.inr (.inr ⟨zl,l0⟩)) K0.out;have hSS:zW (fun w':World=>zv w' C.rb 6 (.pointer (some ⟨C.sb,0,none⟩))/\zv w' W.heap.size 2 (.string t.s)) zU w4.drew:=⟨⟨hr1.cells.1,zc j0 rfl⟩,trivial⟩
  clear hr1 hy j0;go_upto_region 14 with fail;refine zG hSS 9 ?_;refine zT 0 hSS ?_;refine zT 1 hSS ?_;refine zT 2 hSS ?_;refine zT 3 hSS ?_;refine zT 4 hSS ?_;refine zT 5 hSS ?_;refine zT 6 hSS ?_;refine zT 7 hSS ?_;obtain⟨R,hR⟩:=zX (zl4 r1.S ⟨t.s,3,0⟩ 0);have HRR:=zh hR;have kQ:=gT.out.1.cur;have iB:=H.out.n;have hbd:Below w4.heap.size w4 w4.drew:=zr.drew;have had:Calls prog 137 [.pointer (some ⟨C.sb,0,none⟩),.agg #[.string t.s,.int .u8 3,.int .i64 0],.int .i64 0].toArray w4.drew fun e w'=>∃v,e=.returned v/\(v=.int .i64 R.1/\RI (C.plus W.heap.size hi) w' { r1 with S:=R.2 }/\Kpt C.n0 (C.plus W.heap.size hi).kb w4 w') :=
   ((HR4.out.later hbd).ks.open_ ⟨t.s,3,0⟩ (by obtain⟨_,_,_,hf,-⟩:=HV.out.open_;exact⟨hf.2.2,⟨by simp only;omega,by simp only;omega⟩,⟨by simp only;omega,by simp only;omega⟩⟩) 0 zero_I64 (by omega)).mono fun e w' ⟨h1,h2,h3⟩=>by
    have hs:=RI.store (C:=C.plus W.heap.size hi) (HR4.out.later hbd) (hR▸h2) h3 (by rw[gT.out.2,<-hR];exact gT.out.1.open_ _ _);exact⟨_,h1,by rw[hR],hs.1,(Kpt.of_below hbd).trans hs.2⟩
  refine zo 8 fun K hK=>?_;refine zlc (by rfl) (.func 137) [.tmp 53,.tmp 56,.const (.int .i64 0)] _ (by rfl) 137 _ zuy (by rfl) _ (by rfl) _ had ?_;rintro v6 w6 ⟨rfl,dx,bJ⟩;have fG:=zh (dQ.out.trans bJ);have j0:=fG.out.blk (.inr (.inr ⟨zl,l0⟩)) K0.out;have di:=zh dx;have ak:(fun w':World=>zv w' C.rb 6 (.pointer (some ⟨C.sb,0,none⟩))/\zv w' W.heap.size 2 (.string t.s)) w6:=⟨dx.cells.1,zc j0 rfl⟩
  refine hK.out _ _ ⟨ak,trivial⟩ ?_;have lh:=zh ak;have bC:=zh dx.below;clear hK K had dx bJ j0 ak hSS;(try simp only[zQ]);have eQ:=zh (bV.out.trans (Kpt.less (C:=C) fG.out));rw[hR]at iZ;have had:=zk9 ⟨C.rb,0,none⟩ R.1 w6;refine zp 9 fun K hK=>?_;refine zk5 (by rfl) (.func 136) [.tmp 49,.tmp 57] _ (by rfl) 136 _ zmf (by rfl) _ (by rfl) (fun v w'=>w'=w6/\R.1=0) (had.mono ?_) ?_
  ·rintro e y1 ⟨rfl,hv1⟩;rcases hv1 with⟨h0,u0,rfl⟩|⟨h0,rfl⟩
   ·exact .inl ⟨_,rfl,rfl,h0⟩
   ·refine .inr ⟨_,rfl,?_⟩;refine⟨rfl,eQ.out,bC.out,?_⟩
    try rw[bQ.out]
    rw[<-iZ.out,show zkm r1 R=.err R.1 by unfold zkm;rw[if_pos h0]];rfl
  rintro v7 w7 ⟨rfl,h0⟩;have qp:=zh (show lsR C.p.prs C.F g back t { r1 with S:=R.2 }=o by rw[<-iZ.out,show zkm r1 R=.ok { r1 with S:=R.2 } by unfold zkm;rw[if_neg (by simpa using h0)]];rfl);refine hK.out _ _ lh.out ?_;clear hK K had h0;(try simp only[zQ]);refine zd ?_;obtain⟨r2,hr2⟩:=zX (({ r1 with S:=R.2 }:RS));rw[hr2]at di qp;have hI:0<t.ks.length:=by have:=jf.out;omega
  have hI1:(0:Int)<(t.ks.length:Int):=by omega
  obtain⟨a,u,Au,cu,rfl,-,hu,⟨p0,p1,p2,p3⟩,hnu⟩:=ae.out.nd hI;have gD:kid t 0=u:=by unfold kid;rw[List.getD_eq_getElem?_getD,List.getElem?_eq_getElem hI];exact hu.out
  have uZ:=zh (show ∀x∈u.ks,G C.p.prs x by rw[<-gD];exact hG1);have lq:=zh (show(runO C.p.prs C.F g back u r2).bind (fun r=>(zkz C.F r).bind fun r=>zkm r (zlf r.S t.s 0))=o by rw[<-qp.out,<-gD];rfl);have hgu:runO C.p.prs C.F g back u r2 ≠ .gas:=fun e=>bu.out (by rw[<-lq.out,e];rfl);have av:=zh (zle HS.out mf.out di.out u _ back hnu uZ.out hgu);have ha:a.add (0*4)=a:=by unfold Addr.add;simp
  rw[ha]at p0 p1 p2 p3;have q0:=zb bC.out p0;have q1:=zb bC.out p1;have q2:=zb bC.out p2;have q3:=zb bC.out p3;have j0:=fG.out.blk (.inr (.inr ⟨zl,l0⟩)) K0.out;have q4:=zc (i:=3) j0 rfl;clear gD hnu hu p0 p1 p2 p3 hgu ha j0 kQ iB hG1;go_wp2_with fail;refine av.out.mono ?_;rintro e w8 ⟨lK,eZ,qG⟩;have nM:=zh (fG.out.trans lK);have wL:=zh (bV.out.trans (Kpt.less (C:=C) nM.out));have iT:=zh (show Below C.w.heap.size C.w w8 from eZ);have cK:match runO C.p.prs C.F g back u r2 with
   | .gas=>True
   | .err x=>e=zly x
   | .ok r=>(∃u,e=.returned u)/\RI (C.plus W.heap.size hi) w8 r:=qG
  clear q0 q1 q2 q3 q4 lK eZ qG av
  cases hx:runO C.p.prs C.F g back u r2 with
  | gas=>exact absurd (by rw[<-lq.out,hx];rfl) bu.out
  | err x =>
   rw[hx]at cK;subst cK;refine⟨rfl,wL.out,iT.out,?_⟩
   try rw[bQ.out]
   rw[<-lq.out,hx];rfl
  | ok r3 =>
   rw[hx]at cK;obtain⟨⟨u9,rfl⟩,hr3⟩:=cK;have HST:=zh (zlW mf.out hr3);have ku:=zh (show((zkz C.F r3).bind fun r=>zkm r (zlf r.S t.s 0))=o by rw[<-lq.out,hx];rfl);have oD:=zh hr3;clear hx hr3;go_wp2_with fail;refine HST.out.mono ?_;rintro e w9 ⟨aL,aT,dL⟩;have iO:=zh (nM.out.trans aL);have iN:=zh (bV.out.trans (Kpt.less (C:=C) iO.out));have bE:=zh (show Below C.w.heap.size C.w w9 from aT);have gu:match zkz C.F r3 with
    | .gas=>True
    | .err x=>e=zly x
    | .ok r=>(∃u,e=.returned u)/\RI (C.plus W.heap.size hi) w9 r:=dL
   clear aL aT dL HST
   cases hy:zkz C.F r3 with
   | gas=>exact absurd (by rw[<-ku.out,hy];rfl) bu.out
   | err x =>
    rw[hy]at gu;subst gu;refine⟨rfl,iN.out,bE.out,?_⟩
    try rw[bQ.out]
    rw[<-ku.out,hy];rfl
   | ok r4 =>
    rw[hy]at gu;obtain⟨⟨u9,rfl⟩,hr4⟩:=gu;have oC:=zh hr4;have iQ:=zh (show FB r3.n r4.S/\r4.n=r3.n+1 by obtain⟨rfl,-⟩:=zlh hy;exact⟨oD.out.fb,rfl⟩);obtain⟨Rc,lN⟩:=zX (zlf r4.S t.s 0);have iL:=zh (show zkm r4 Rc=o by rw[<-ku.out,hy,<-lN];rfl);have j0:=iO.out.blk (.inr (.inr ⟨zl,l0⟩)) K0.out;have hSS:zW (fun w':World=>zv w' C.rb 6 (.pointer (some ⟨C.sb,0,none⟩))/\zv w' W.heap.size 2 (.string t.s)) zU w9.drew:=⟨⟨hr4.cells.1,zc j0 rfl⟩,trivial⟩
    clear hr4 hy j0;go_upto_region 17 with fail;refine zG hSS 8 ?_;refine zT 0 hSS ?_;refine zT 1 hSS ?_;refine zT 2 hSS ?_;refine zT 3 hSS ?_;refine zT 4 hSS ?_;refine zT 5 hSS ?_;refine zT 6 hSS ?_;have tq:Below w9.heap.size w9 w9.drew:=zr.drew;have had:Calls prog 138 [.pointer (some ⟨C.sb,0,none⟩),.string t.s,.int .i64 0].toArray w9.drew fun e w'=>∃v,e=.returned v/\(v=.int .i64 Rc.1/\RI (C.plus W.heap.size hi) w' { r4 with S:=Rc.2 }/\Kpt C.n0 (C.plus W.heap.size hi).kb w9 w') :=
     ((oC.out.later tq).ks.close t.s 0).mono fun e w' ⟨h1,h2,h3⟩=>by
      have hs:=RI.store (C:=C.plus W.heap.size hi) (oC.out.later tq) (lN▸h2) h3 (by rw[iQ.out.2,<-lN];exact iQ.out.1.close_ _ _);exact⟨_,h1,by rw[lN],hs.1,(Kpt.of_below tq).trans hs.2⟩
    refine zo 7 fun K hK=>?_;refine zlc (by rfl) (.func 138) [.tmp 72,.tmp 74,.const (.int .i64 0)] _ (by rfl) 138 _ zsa (by rfl) _ (by rfl) _ had ?_;rintro v11 w11 ⟨rfl,gq,iC⟩;have fP:=zh (iO.out.trans iC);have j0:=fP.out.blk (.inr (.inr ⟨zl,l0⟩)) K0.out;have ll:=zh gq;have ak:(fun w':World=>zv w' C.rb 6 (.pointer (some ⟨C.sb,0,none⟩))/\zv w' W.heap.size 2 (.string t.s)) w11:=⟨gq.cells.1,zc j0 rfl⟩
    refine hK.out _ _ ⟨ak,trivial⟩ ?_;have lh:=zh ak;have jT:=zh gq.below;clear hK K had gq iC j0 ak hSS;(try simp only[zQ]);have jN:=zh (bV.out.trans (Kpt.less (C:=C) fP.out));have had:=zk9 ⟨C.rb,0,none⟩ Rc.1 w11;refine zp 8 fun K hK=>?_;refine zk5 (by rfl) (.func 136) [.tmp 68,.tmp 75] _ (by rfl) 136 _ zmf (by rfl) _ (by rfl) (fun v w'=>w'=w11/\Rc.1=0) (had.mono ?_) ?_
    ·rintro e y1 ⟨rfl,hv1⟩;rcases hv1 with⟨h0,u0,rfl⟩|⟨h0,rfl⟩
     ·exact .inl ⟨_,rfl,rfl,h0⟩
     ·refine .inr ⟨_,rfl,?_⟩;refine⟨rfl,jN.out,jT.out,?_⟩
      try rw[bQ.out]
      rw[<-iL.out,show zkm r4 Rc=.err Rc.1 by unfold zkm;rw[if_pos h0]]
    rintro v12 w12 ⟨rfl,h0⟩;have gL:=zh (show o=.ok { r4 with S:=Rc.2 } by rw[<-iL.out];unfold zkm;rw[if_neg (by simpa using h0)]);refine hK.out _ _ lh.out ?_;clear hK K had h0;(try simp only[zQ]);refine zd ?_;have nJ:=zh ll.out.less;go_wp2_with fail;go_end0;refine⟨jN.out,jT.out,?_⟩
    try rw[bQ.out]
    rw[gL.out];exact⟨⟨_,rfl⟩,nJ.out⟩
theorem zpz:∀(prs:List PR) (s:ByteArray) (i:Nat),prcI prs s=some i->zlA prs s=(i:Int)/\i<prs.length
 | [],_,_,h=>by simp[prcI]at h
 | q::qs,s,i,h=>by
  unfold prcI at h;unfold zlA idxP;rw[List.findIdx?_cons]
  split at h
  ·rename_i h0;injection h with h;subst h;rw[if_pos h0];exact⟨rfl,by simp⟩
  ·rename_i h0;rw[if_neg h0];obtain⟨j,hj,rfl⟩:=Option.map_eq_some_iff.1 h;have h5:=zpz qs s j hj;unfold zlA idxP at h5
   cases hf:List.findIdx? (fun r=>r.s.toList==s.toList) qs with
   | none =>
    rw[hf]at h5;have h6:(-1:Int)=(j:Int):=h5.1;omega
   | some m =>
    rw[hf]at h5;have h6:(m:Int)=(j:Int):=h5.1;exact⟨by show((m+1:Nat):Int)=((j+1:Nat):Int);omega,by have:=h5.2;simp;omega⟩
def strA(l:List ByteArray):Array Value:=(l.map Value.string).toArray
theorem zzl:(prog.info? 9).map (fun i=>(i.zero,i.size,i.bytes))=some (some (.string ⟨#[]⟩),1,16):=by kernel_rfl
theorem zwk(n:Nat):madeCells (Value.string ⟨#[]⟩).cells (n*1)=strA (List.replicate n ⟨#[]⟩):=by
 unfold strA;apply Array.ext';apply List.ext_getElem
 ·rw[Array.length_toList,size_madeCells];simp
 ·intro i h1 h2;have e:i % 1=0:=by omega
  simp[madeCells,Value.cells,e]
theorem zzZ(n:Nat)(hn:n<=17592186044416)(w:World):(Instr.makeSlice 196 (.int .i64 (n:Int)) (.int .i64 (n:Int))).run prog w=.ok (.slice (some ⟨w.heap.size,0,none⟩) n n) (w.alloc (.cells (strA (List.replicate n ⟨#[]⟩)) 9)):=by
 have h:=zzl;obtain⟨i,hi,hz⟩:=Option.map_eq_some_iff.1 h;injection hz with h1 h2;injection h2 with h2 h3;have:=zk6 (P:=prog) 196 9 i (.string ⟨#[]⟩) underlying196 hi h1 .i64 .i64 n n zl (by rw[h3];omega) (by omega) w;rw[h2,zwk]at this;exact this
def argL(ks:List T)(j:Nat):List ByteArray:=(ks.take j).map (·.s)++List.replicate (ks.length-j) ⟨#[]⟩
theorem zxL(ks:List T):argL ks 0=List.replicate ks.length ⟨#[]⟩:=by simp[argL]
theorem zw7(ks:List T):argL ks ks.length=ks.map (·.s):=by simp[argL]
theorem zw6(ks:List T){j:Nat}(hj:j<=ks.length):(argL ks j).length=ks.length:=by simp[argL];omega
theorem zw5(ks:List T){j:Nat}(hj:j<ks.length):(strA (argL ks j)).setIfInBounds j (.string ks[j].s)=strA (argL ks (j+1)):=by
 unfold strA;rw[List.setIfInBounds_toArray,<-List.map_set];congr 2;unfold argL;refine List.ext_getElem (by simp;omega) fun i h1 h2=>?_;rw[List.getElem_set];simp only[List.length_append,List.length_map,List.length_take,List.length_replicate,List.length_set]at h1 h2;by_cases e:j=i
 ·subst e;rw[if_pos rfl,List.getElem_append_left (by simp;omega)];simp
 ·rw[if_neg e];by_cases hi:i<j
  ·rw[List.getElem_append_left (by simp;omega),List.getElem_append_left (by simp;omega)];simp
  ·rw[List.getElem_append_right (by simp;omega),List.getElem_append_right (by simp;omega)];simp
theorem zvR{W:World}{b:Nat}{E:TypeId}{l:List ByteArray}(h:W.heap[b]?=some (.cells (strA l) E (0,0))):RowS W (some ⟨b,0,none⟩) l:=fun i hi=>by
 have ha:(⟨b,0,none⟩:Addr).add i=⟨b,i,none⟩:=by rw[Addr.add_lit,Nat.zero_add]
 refine⟨⟨b,0,none⟩,rfl,?_⟩;rw[ha];simp only[World.cell?,h];simp[strA,hi]
theorem RI.count{C:RC}(hC:C.Ok){W:World}{r:RS}(h:RI C W r){i:Nat}(hi:i<r.ent.length)(hn:r.ent.getD i 0+1<=r.n) :
  ∃g c,C.ev=.slice (some ⟨g,0,none⟩) r.ent.length c/\W.cell? ⟨g,i,none⟩=some (.int .i64 (r.ent.getD i 0:Nat))/\W.frozen? ⟨g,i,none⟩=false /\
   RI C (W.setCell ⟨g,i,none⟩ (.int .i64 ((r.ent.getD i 0+1:Nat):Int))) { r with ent:=r.ent.set i (r.ent.getD i 0+1) }/\Kpt C.n0 C.kb W (W.setCell ⟨g,i,none⟩ (.int .i64 ((r.ent.getD i 0+1:Nat):Int))):=by
 obtain⟨e1,h2⟩:=h.ent;rcases h2 with h2|⟨g,cap,cur,hev,hb,hg,hcap,hlen,hsz,kQ⟩
 ·have hn0:r.ent.length=0:=h2.2;omega
 ·have hcz:cur[i]?=some (.int .i64 (r.ent.getD i 0:Nat)):=by
   have h3:(zki (r.ent.map Int.ofNat))[i]?=some (.int .i64 (r.ent.getD i 0:Nat)):=by simp[zki,hi]
   rw[<-kQ,List.getElem?_take]at h3
   split at h3
   ·simpa using h3
   ·cases h3
  have hci:i<cur.size:=by
   rcases Nat.lt_or_ge i cur.size with h|h
   ·exact h
   ·rw[Array.getElem?_eq_none h]at hcz;cases hcz
  have hrb:g≠C.rb:=fun e=>hC.ev.1 (by rw[hev,<-e];rfl);have hkb:¬ C.kb g:=hC.ev.2 g (by rw[hev];rfl);have hch:Chg (fun b=>b=g) W (W.setCell ⟨g,i,none⟩ (.int .i64 ((r.ent.getD i 0+1:Nat):Int))):=(Chg.refl (fun b=>b=g) W).setCell (p:=⟨g,i,none⟩) (.inl rfl) _;have hnn:=h.ks.hn;refine⟨g,cap,hev,zc hg hcz,zf hg,⟨h.ks.chg hch fun b _ e=>⟨by omega,.inr (.inr (.inr (by rw[hev,e];rfl)))⟩,?_,?_,by simp[h.el],?_,h.n,h.fb⟩,Kpt.chg hch fun b e=>⟨by omega,by rw[e];exact hkb⟩⟩
  ·rw[Below.heap_setCell _ _ _ _ (fun e=>hrb (by simpa using e.symm))];exact h.box
  ·have hs:=heap_setCell_same W g i _ _ (.int .i64 ((r.ent.getD i 0+1:Nat):Int)) hg;refine⟨by simp[zki],.inr ⟨g,cap,_,by rw[hev];simp,hb,hs,by simpa using hcap,by simpa using hlen,by simpa using hsz,?_⟩⟩;have e2:((cur.setIfInBounds i (.int .i64 ((r.ent.getD i 0+1:Nat):Int))).toList.take ((r.ent.set i (r.ent.getD i 0+1)).length*1))=(cur.toList.take (r.ent.length*1)).set i (.int .i64 ((r.ent.getD i 0+1:Nat):Int)):=by
    rw[Array.toList_setIfInBounds,List.length_set,List.take_set]
   rw[e2,kQ];simp[zki,List.map_set]
  ·intro c hc;rcases List.mem_or_eq_of_mem_set hc with hc|rfl
   ·exact h.en c hc
   ·exact hn
theorem zwI:IsFn prog 158 f158:=⟨func158,by kernel_rfl,by kernel_rfl⟩
def caR(prs:List PR)(F:Int)(g:Nat)(back:Bool)(i:Nat)(b:T)(r:RS):Out :=
 (zk1 (zku prs F g back) (blkL back b) { r with ent:=r.ent.set i (r.ent.getD i 0+1) }).bind fun r=>(zkz F r).bind fun r=>zkm r (zml r.S)
def caO(prs:List PR)(F:Int)(g:Nat)(back:Bool)(i:Nat)(q:PR)(ss:List ByteArray)(r:RS):Out :=
 (zkz F r).bind fun r=>(zkm r (zl8 r.S q.ps ss)).bind (caR prs F g back i q.b)
theorem zn0{G:List PR->T->Prop}{g:Nat}(hS:IStC G g){C:RC}(hC:C.Ok){W:World}{r:RS}(h:RI C W r)(t:T)(v:Value)(back:Bool)(hv:NV C.w Any t v)(i:Nat)(hi:prcI C.p.prs t.s=some i)(q:PR)(hq:C.p.prs[i]?=some q)(hG1:∀u∈q.b.ks,G C.p.prs u)
  (aF:caO C.p.prs C.F g back i q (t.ks.map (·.s)) r ≠ .gas) :
  Calls prog 139 #[.pointer (some ⟨C.rb,0,none⟩),v,.bool back] W (RunP C W (caO C.p.prs C.F g back i q (t.ks.map (·.s)) r)):=by
 have HV:=zh hv;have H:=zh h;have HS:=zh hS;have HC:=zh hC;obtain⟨hpi,hil⟩:=zpz _ _ _ hi;obtain⟨A,c,rfl,-,hlk,hlc,hrow⟩:=hv.open_;have ae:=zh hrow;have hb0:=zkb (zs W) (.cells #[.int .u8 t.k,.int .i64 t.n,.string t.s,.slice A t.ks.length c] 28);have k0:=heap_alloc_new W (.cells #[.int .u8 t.k,.int .i64 t.n,.string t.s,.slice A t.ks.length c] 28);obtain⟨x0,x1,x2,x3⟩:=box4 k0;have kF:=zh h.below;obtain⟨w1,hw1⟩:=zX (W.alloc (.cells #[.int .u8 t.k,.int .i64 t.n,.string t.s,.slice A t.ks.length c] 28));have hz1:w1.heap.size=W.heap.size+1:=by rw[<-hw1];simp
 rw[hw1]at hb0 k0 x0 x1 x2 x3;have hmk:=zzZ t.ks.length (by unfold LK at hlk;omega);have hb1:=zkb hb0 (.cells (strA (List.replicate t.ks.length ⟨#[]⟩)) 9);have k1:=heap_alloc_new w1 (.cells (strA (List.replicate t.ks.length ⟨#[]⟩)) 9);have j0:=zkd k0 (.cells (strA (List.replicate t.ks.length ⟨#[]⟩)) 9);rw[hz1]at k1;rw[<-zxL]at hmk;have hz2:(w1.alloc (.cells (strA (argL t.ks 0)) 9)).heap.size=W.heap.size+2:=by simp[hz1]
 rw[<-zxL]at hb1 k1 j0;have HB1:=zh hb1;have K1:=zh k1;have J0:=zh j0;obtain⟨o,ho⟩:=zX (caO C.p.prs C.F g back i q (t.ks.map (·.s)) r);have bQ:=zh ho;have HO:=zh (show(zkz C.F r).bind (fun r=>(zkm r (zl8 r.S q.ps (t.ks.map (·.s)))).bind (caR C.p.prs C.F g back i q.b))=o from ho);rw[ho]at aF ⊢;have bu:=zh aF;have HPI:=zh hpi;have wN:=zh hil;have HQ:=zh hq;have hlk2:t.ks.length<=17592186044416:=by unfold LK at hlk;omega
 have HZ2:=zh hz2;clear hv hb0 k0 h ho aF hrow hS hC hlk hpi hil hq hi hb1 k1 j0 hz2;go_enter func139,ntmps139;go_wp2_with fail;clear x0 x1 x2 x3 hw1 hmk;have jU:=zh (fun j (hj:j<t.ks.length)=>zw5 t.ks hj);have HAN:=zh (fun j (hj:j<=t.ks.length)=>zw6 t.ks hj)
 go_loopw [18] (fun x wr=>∃j:Nat,j<=t.ks.length/\x=.int .i64 j/\Hid (Below W.heap.size W wr)/\Hid (wr.heap[W.heap.size]?=some (.cells #[.int .u8 t.k,.int .i64 t.n,.string t.s,.slice A t.ks.length c] 28 (0,0)))/\Hid (wr.heap[W.heap.size+1]?=some (.cells (strA (argL t.ks j)) 9 (0,0)))) (fun x _=>t.ks.length-(intOf x).toNat)
 case atStart=>exact⟨0,Nat.zero_le _,rfl,HB1,J0,K1⟩
 case round =>
  obtain⟨j,hj,rfl,af,HJ,HK⟩:=hrel;clear HB1 J0 K1;by_cases hlt:j<t.ks.length
  ·obtain⟨a,u,Au,cu,rfl,-,Hu,⟨p0,p1,p2,p3⟩,-⟩:=ae.out.nd hlt;have hbb:=zka kF.out af.out;have q0:=zb hbb p0;have q1:=zb hbb p1;have q2:=zb hbb p2;have q3:=zb hbb p3;have hj1:(j:Int)<(t.ks.length:Int):=by omega
   have hj0:(0:Int)<=(j:Int):=by omega
   have kz:=zkd HK.out (.cells #[.int .u8 u.k,.int .i64 u.n,.string u.s,.slice Au u.ks.length cu] 28);have jz:=zkd HJ.out (.cells #[.int .u8 u.k,.int .i64 u.n,.string u.s,.slice Au u.ks.length cu] 28);have hbz:=zkb af.out (.cells #[.int .u8 u.k,.int .i64 u.n,.string u.s,.slice Au u.ks.length cu] 28);have zc:∃y,(strA (argL t.ks j))[j]?=some y:=⟨_,Array.getElem?_eq_getElem (by simp[strA,HAN.out j hj];exact hlt)⟩
   obtain⟨y,hy⟩:=zc;have zy:=zc kz hy;have zf:(wr.alloc (.cells #[.int .u8 u.k,.int .i64 u.n,.string u.s,.slice Au u.ks.length cu] 28)).frozen? ⟨W.heap.size+1,j,none⟩=false:=zf kz;have zH:=zh hbz;have HKZ:=zh kz;have HJZ:=zh jz;have hwlt:W.heap.size+1<wr.heap.size:=zkf HK.out;clear hbb p0 p1 p2 p3 kz jz hbz hy;go_wp2_with fail
   go_roundw
   case rel =>
    have hch:=(Chg.refl (fun b=>b=W.heap.size+1) wr).setCell (p:=⟨W.heap.size+1,j,none⟩) (.inl rfl) (.string u.s);refine⟨j+1,by omega,by go_num,zh (zkb (af.out.trans (hch.below af.out.size fun b e=>by omega)) _),zh (zkd (hch.keep HJ.out (by omega)) _),zh ?_⟩;have:=heap_setCell_same _ (W.heap.size+1) j _ _ (.string u.s) HK.out;refine zkd ?_ _;rw[this,<-jU.out j hlt,Hu.out]
   case measure=>simp[intOf];omega
  ·obtain rfl:j=t.ks.length:=by omega
   rw[zw7]at HK;have hj1:¬ (t.ks.length:Int)<(t.ks.length:Int):=by omega
   have hrn:=H.out.n;have hel:=H.out.el;obtain⟨pa,q1,B1,d1,B2,d2,hA2,-,Hq1,⟨p0,p1,p2,p3,p4,p5⟩,hpr⟩:=HC.out.pg.procs.nd wN.out;obtain rfl:q=q1:=by
    have e:=HQ.out;rw[List.getElem?_eq_getElem wN.out,Hq1.out]at e;injection e with e;exact e.symm
   have HPRR:=zh hpr;have hbb:=zka kF.out af.out;have dE:=zh hbb;have cz:=zh (fun w' (hb:Below wr.heap.size wr w')=>zni C.p Any (pv C.A1 C.p.vs.length C.c1 C.A2 C.p.prs.length C.c2 C.p.m.k C.p.m.n C.p.m.s C.A3 C.p.m.ks.length C.c3) t.s w' ⟨_,_,_,_,_,_,rfl,HC.out.pg.later (zka dE.out hb)⟩);rw[HPI.out]at cz;have HXB:=zh (zkc H.out.box af.out);rw[hA2]at cz;have lT:Hid (wr.cell? ⟨C.rb,0,none⟩=some (.slice C.A1 C.p.vs.length C.c1)/\wr.cell? ⟨C.rb,1,none⟩=some (.slice (some pa) C.p.prs.length C.c2)/\wr.cell? ⟨C.rb,2,none⟩=some (.int .u8 C.p.m.k)/\wr.cell? ⟨C.rb,3,none⟩=some (.int .i64 C.p.m.n)/\wr.cell? ⟨C.rb,4,none⟩=some (.string C.p.m.s)/\wr.cell? ⟨C.rb,5,none⟩=some (.slice C.A3 C.p.m.ks.length C.c3)) :=
    zh ⟨zc HXB.out rfl,by rw[<-hA2];exact zc HXB.out rfl,zc HXB.out rfl,zc HXB.out rfl,zc HXB.out rfl,zc HXB.out rfl⟩
   have uX:=zh (show(i:Int)<(C.p.prs.length:Int) by have:=wN.out;omega);obtain⟨rb,hrb⟩:=zX (C.rb);obtain⟨z1,hz1⟩:=zX (C.A1);obtain⟨z2,hz2⟩:=zX (C.p.vs.length);obtain⟨z3,hz3⟩:=zX (C.c1);obtain⟨z5,qE⟩:=zX (C.p.prs.length);obtain⟨z6,eU⟩:=zX (C.c2);obtain⟨z7,lI⟩:=zX (C.p.m.k);obtain⟨z8,Ar⟩:=zX (C.p.m.n);obtain⟨z9,oh⟩:=zX (C.p.m.s);obtain⟨z10,mD⟩:=zX (C.A3);obtain⟨z11,rJ⟩:=zX (C.p.m.ks.length);obtain⟨z12,rH⟩:=zX (C.c3);rw[hz1,hz2,hz3,qE,eU,lI,Ar,oh,mD,rJ,rH]at cz;rw[hrb,hz1,hz2,hz3,qE,eU,lI,Ar,oh,mD,rJ,rH]at lT;have aB:=zh (show ∀w',Below wr.heap.size wr w'->(fun w':World=>zv w' rb 0 (.slice z1 z2 z3)/\zv w' rb 1 (.slice (some pa) z5 z6)/\zv w' rb 2 (.int .u8 z7)/\zv w' rb 3 (.int .i64 z8)/\zv w' rb 4 (.string z9)/\zv w' rb 5 (.slice z10 z11 z12)/\zv w' W.heap.size 2 (.string t.s)) w' from fun w' hb=>by
    obtain⟨y0,y1,y2,y3,y4,y5⟩:=lT.out;exact⟨zb hb y0,zb hb y1,zb hb y2,zb hb y3,zb hb y4,zb hb y5,zb hb (zc HJ.out rfl)⟩)
   have ig:=zh (aB.out _ zr.drew);have oG:=zh (show C.w.cell? (pa.add (i*6))=_/\_/\_/\_/\_/\_ from⟨p0,p1,p2,p3,p4,p5⟩);clear p0 p1 p2 p3 p4 p5 hpr hbb hz1 hz2 hz3 eU lI Ar oh mD rJ rH hel hrn hj1;have uo:=zh qE;rw[qE]at uX;clear qE;have dJ:=zh hrb;clear hrb hA2;rw[dJ.out];have hj1:¬ (t.ks.length:Int)<(t.ks.length:Int):=by omega
   go_upto_region 7 with fail
   go_region_held3 (fun w':World=>zv w' rb 0 (.slice z1 z2 z3)/\zv w' rb 1 (.slice (some pa) z5 z6)/\zv w' rb 2 (.int .u8 z7)/\zv w' rb 3 (.int .i64 z8)/\zv w' rb 4 (.string z9)/\zv w' rb 5 (.slice z10 z11 z12)/\zv w' W.heap.size 2 (.string t.s))
    (first|with_reducible exact bL.out|with_reducible exact ig.out)
    (first
     | (go_at_call 57;refine(cz.out _ zr.drew).mono ?_;rintro e y1 ⟨rfl,bG⟩;have b1:=zka (zs wr).drew bG;have bL:=zh (aB.out _ b1))
     | fail)
   have hb1:=zka dE.out b1;have p0:=zb hb1 oG.out.1;have p1:=zb hb1 oG.out.2.1;have p2:=zb hb1 oG.out.2.2.1;have p3:=zb hb1 oG.out.2.2.2.1;have p4:=zb hb1 oG.out.2.2.2.2.1;have p5:=zb hb1 oG.out.2.2.2.2.2;obtain⟨-,e1,-⟩:=bL.out;have hi1:=uX.out;have hi0:(0:Int)<=(i:Int):=by omega
   have dU:=zkb (zka af.out b1) (.cells #[.string q.s,.slice B1 q.ps.length d1,.int .u8 q.b.k,.int .i64 q.b.n,.string q.b.s,.slice B2 q.b.ks.length d2] 100);have k0:=zkd (zkc HJ.out b1) (.cells #[.string q.s,.slice B1 q.ps.length d1,.int .u8 q.b.k,.int .i64 q.b.n,.string q.b.s,.slice B2 q.b.ks.length d2] 100);have k1:=zkd (zkc HK.out b1) (.cells #[.string q.s,.slice B1 q.ps.length d1,.int .u8 q.b.k,.int .i64 q.b.n,.string q.b.s,.slice B2 q.b.ks.length d2] 100);have k2:=heap_alloc_new y1 (.cells #[.string q.s,.slice B1 q.ps.length d1,.int .u8 q.b.k,.int .i64 q.b.n,.string q.b.s,.slice B2 q.b.ks.length d2] 100);obtain⟨pb,hpb⟩:=zX (y1.heap.size);have hpl:W.heap.size<=pb:=by rw[<-hpb];exact(zka af.out b1).size
   obtain⟨w5,mF⟩:=zX (y1.alloc (.cells #[.string q.s,.slice B1 q.ps.length d1,.int .u8 q.b.k,.int .i64 q.b.n,.string q.b.s,.slice B2 q.b.ks.length d2] 100));rw[mF]at dU k0 k1;rw[hpb,mF]at k2;have bV:=zh (Kpt.of_below (n0:=C.n0) (kb:=C.kb) dU);obtain⟨yS,h5⟩:=H.out.plus HC.out dU;have l0:=zkf k0;have l1:=zkf k1;have l2:=zkf k2;obtain⟨hi,hhi⟩:=zX (w5.heap.size);rw[hhi]at yS h5 l0 l1 l2;have bX:=zh yS;have K0:=zh k0;have K1:=zh k1;have K2:=zh k2;have HST:=zh (zlW yS h5);rw[show(C.plus W.heap.size hi).rb=rb from dJ.out]at HST;have qU:=zh hpl;obtain⟨ss,hss⟩:=zX (t.ks.map (·.s));have HSL:=zh (show ss.length=t.ks.length by rw[<-hss];simp);rw[hss]at HO K1;clear hb1 b1 bG bL aB ig dU k0 k1 k2 yS h5 oG hpl lT cz jU HAN HK HJ hss;go_upto_region 9 with fail;clear p0 p1 p2 p3 p4 p5 e1 mF hpb;go_wp2_with fail;refine HST.out.mono ?_;rintro e w6 ⟨bJ,hb6,jW⟩
   have eQ:=zh (bV.out.trans (Kpt.less (C:=C) bJ));have bC:=zh (show Below C.w.heap.size C.w w6 from hb6);have cZ:match zkz C.F r with
    | .gas=>True
    | .err x=>e=zly x
    | .ok r=>(∃u,e=.returned u)/\RI (C.plus W.heap.size hi) w6 r:=jW
   have uU:=zh bJ;clear HST bJ hb6 jW
   cases hy:zkz C.F r with
   | gas=>exact absurd (by rw[<-HO.out,hy];rfl) bu.out
   | err x =>
    rw[hy]at cZ;subst cZ;refine⟨rfl,eQ.out,bC.out,?_⟩
    try rw[bQ.out]
    rw[<-HO.out,hy];rfl
   | ok r1 =>
    rw[hy]at cZ;obtain⟨⟨u3,rfl⟩,hr1⟩:=cZ;have di:=zh hr1;have qp:=zh (show(zkm r1 (zl8 r1.S q.ps ss)).bind (caR C.p.prs C.F g back i q.b)=o by rw[<-HO.out,hy];rfl);have gT:=zh (show FB r.n r1.S/\r1.n=r.n+1/\r1.ent=r.ent by obtain⟨rfl,-⟩:=zlh hy;exact⟨H.out.fb,rfl,rfl⟩);have j2:=uU.out.blk (.inr (.inr ⟨qU.out,l2⟩)) K2.out;have hSS:zW (fun w':World=>zv w' rb 6 (.pointer (some ⟨C.sb,0,none⟩))/\zv w' pb 1 (.slice B1 q.ps.length d1)) zU w6.drew:=⟨⟨by rw[<-dJ.out];exact hr1.cells.1,zc j2 rfl⟩,trivial⟩
    clear hr1 hy j2;go_upto_region 10 with fail;refine zG hSS 9 ?_;refine zT 0 hSS ?_;refine zT 1 hSS ?_;refine zT 2 hSS ?_;refine zT 3 hSS ?_;refine zT 4 hSS ?_;refine zT 5 hSS ?_;refine zT 6 hSS ?_;refine zT 7 hSS ?_;obtain⟨R,hR⟩:=zX (zl8 r1.S q.ps ss);have HRR:=zh hR;have hbd:Below w6.heap.size w6 w6.drew:=zr.drew;have hpq:q.ps.length<=1000:=HC.out.ps q (List.mem_of_getElem? HQ.out);have hen:=(di.out.later hbd).ks.enter q.ps ss B1 (some ⟨W.heap.size+1,0,none⟩) d1 t.ks.length (HPRR.out.row.later (zka bC.out hbd)) ((zvR (uU.out.blk (.inr (.inr ⟨Nat.le_succ _,l1⟩)) K1.out)).later hbd) (by omega) (by rw[HSL.out];exact hlk2);rw[HSL.out]at hen
    have had:Calls prog 158 [.pointer (some ⟨C.sb,0,none⟩),.slice B1 q.ps.length d1,.slice (some ⟨W.heap.size+1,0,none⟩) t.ks.length t.ks.length].toArray w6.drew fun e w'=>∃v,e=.returned v/\(v=.int .i64 R.1/\RI (C.plus W.heap.size hi) w' { r1 with S:=R.2 }/\Kpt C.n0 (C.plus W.heap.size hi).kb w6 w') :=
     hen.mono fun e w' ⟨h1,h2,h3⟩=>by
      have hs:=RI.store (C:=C.plus W.heap.size hi) (di.out.later hbd) (hR▸h2) h3 (by rw[gT.out.2.1,<-hR];exact gT.out.1.enter _ _ hpq);exact⟨_,h1,by rw[hR],hs.1,(Kpt.of_below hbd).trans hs.2⟩
    refine zo 8 fun K hK=>?_;refine zlc (by rfl) (.func 158) [.tmp 50,.tmp 52,.tmp 53] _ (by rfl) 158 _ zwI (by rfl) _ (by rfl) _ had ?_;rintro v7 w7 ⟨rfl,eX,mH⟩;have uT:=zh (uU.out.trans mH);have j2:=uT.out.blk (.inr (.inr ⟨qU.out,l2⟩)) K2.out;have eP:=zh eX;have tQ:(fun w':World=>zv w' rb 6 (.pointer (some ⟨C.sb,0,none⟩))/\zv w' pb 1 (.slice B1 q.ps.length d1)) w7:=⟨by rw[<-dJ.out];exact eX.cells.1,zc j2 rfl⟩
    refine hK.out _ _ ⟨tQ,trivial⟩ ?_;have HS7:=zh tQ;have kG:=zh eX.below;clear hK K had eX mH j2 tQ hSS hen;(try simp only[zQ]);have ym:=zh (bV.out.trans (Kpt.less (C:=C) uT.out));rw[hR]at qp;have had:=zk9 ⟨rb,0,none⟩ R.1 w7;refine zp 9 fun K hK=>?_;refine zk5 (by rfl) (.func 136) [.tmp 46,.tmp 54] _ (by rfl) 136 _ zmf (by rfl) _ (by rfl) (fun v w'=>w'=w7/\R.1=0) (had.mono ?_) ?_
    ·rintro e y1 ⟨rfl,hv1⟩;rcases hv1 with⟨h0,u0,rfl⟩|⟨h0,rfl⟩
     ·exact .inl ⟨_,rfl,rfl,h0⟩
     ·refine .inr ⟨_,rfl,?_⟩;refine⟨rfl,ym.out,kG.out,?_⟩
      try rw[bQ.out]
      rw[<-qp.out,show zkm r1 R=.err R.1 by unfold zkm;rw[if_pos h0]];rfl
    rintro v8 w8 ⟨rfl,h0⟩;have lq:=zh (show caR C.p.prs C.F g back i q.b { r1 with S:=R.2 }=o by rw[<-qp.out,show zkm r1 R=.ok { r1 with S:=R.2 } by unfold zkm;rw[if_neg (by simpa using h0)]];rfl);refine hK.out _ _ HS7.out ?_;clear hK K had h0;(try simp only[zQ]);refine zd ?_;obtain⟨r2,hr2⟩:=zX (({ r1 with S:=R.2 }:RS));rw[hr2]at eP lq;have he2:r2.ent.length=C.p.prs.length:=eP.out.el;have hi2:i<r2.ent.length:=by rw[he2];exact wN.out
    have hn2:r2.ent.getD i 0+1<=r2.n:=by
     rw[<-hr2];simp only;rw[gT.out.2.2,gT.out.2.1,List.getD_eq_getElem?_getD,List.getElem?_eq_getElem (by rw[H.out.el];exact wN.out)];have:=H.out.en _ (List.getElem_mem (l:=r.ent) (n:=i) (by rw[H.out.el];exact wN.out));simp only[Option.getD_some];omega
    obtain⟨eg,ec,hev,hcz,hcf,hrc,hkc⟩:=eP.out.count bX.out hi2 hn2;have hev':C.ev=.slice (some ⟨eg,0,none⟩) r2.ent.length ec:=hev;obtain⟨-,-,-,e9,-⟩:=eP.out.cells;have e9':w8.cell? ⟨rb,9,none⟩=some (.slice (some ⟨eg,0,none⟩) z5 ec):=by
     rw[<-dJ.out,<-uo.out,<-he2,<-hev'];exact e9
    have hnn:=eP.out.n;have Az:IntKind.i64.wrap ((r2.ent.getD i 0:Nat)+1:Int)=((r2.ent.getD i 0+1:Nat):Int):=by rw[IntWalk.i64_in _ (by omega)];omega
    have ku:=zh (show(runO C.p.prs C.F g back q.b { r2 with ent:=r2.ent.set i (r2.ent.getD i 0+1) }).bind (fun r=>(zkz C.F r).bind fun r=>zkm r (zml r.S))=o from lq.out);obtain⟨e0,he0⟩:=zX (r2.ent.getD i 0);rw[he0]at hcz hrc hkc Az ku;obtain⟨w9,dF⟩:=zX (w8.setCell ⟨eg,i,none⟩ (.int .i64 ((e0+1:Nat):Int)));rw[dF]at hrc hkc;obtain⟨r3,hr3⟩:=zX (({ r2 with ent:=r2.ent.set i (e0+1) }:RS));rw[hr3]at hrc ku;have oC:=zh hrc;have uS:=zh (uT.out.trans hkc);have iN:=zh (bV.out.trans (Kpt.less (C:=C) uS.out));have bE:=zh (show Below C.w.heap.size C.w w9 from hrc.below);have j2:=uS.out.blk (.inr (.inr ⟨qU.out,l2⟩)) K2.out;have hgu:runO C.p.prs C.F g back q.b r3 ≠ .gas:=fun e=>bu.out (by rw[<-ku.out,e];rfl);have av:=zh (zle HS.out bX.out oC.out q.b _ back HPRR.out.body hG1 hgu);rw[show(C.plus W.heap.size hi).rb=rb from dJ.out]at av;have HJ2:=zh j2
    have hi1:=uX.out;have hi0:(0:Int)<=(i:Int):=by omega
    rw[show((e0+1:Nat):Int)=(e0:Int)+1 by omega]at Az dF;clear hr2 he2 hi2 hn2 hev hev' e9 hnn he0 hr3 hrc hkc j2 hgu hG1 lq HS7 hbd hpq hR;go_upto_region 12 with fail;clear dF hcz hcf e9' Az;have q2:w9.cell? ⟨pb,2,none⟩=some (.int .u8 q.b.k):=zc HJ2.out rfl;have q3:w9.cell? ⟨pb,3,none⟩=some (.int .i64 q.b.n):=zc HJ2.out rfl;have q4:w9.cell? ⟨pb,4,none⟩=some (.string q.b.s):=zc HJ2.out rfl;have q5:w9.cell? ⟨pb,5,none⟩=some (.slice B2 q.b.ks.length d2):=zc HJ2.out rfl;go_wp2_with fail;refine av.out.mono ?_;rintro e aM ⟨hk10,dh,kJ⟩;have HK510:=zh (uS.out.trans hk10);have HK10:=zh (bV.out.trans (Kpt.less (C:=C) HK510.out));have nX:=zh (show Below C.w.heap.size C.w aM from dh);have jY:match runO C.p.prs C.F g back q.b r3 with
     | .gas=>True
     | .err x=>e=zly x
     | .ok r=>(∃u,e=.returned u)/\RI (C.plus W.heap.size hi) aM r:=kJ
    clear q2 q3 q4 q5 hk10 dh kJ av
    cases hx:runO C.p.prs C.F g back q.b r3 with
    | gas=>exact absurd (by rw[<-ku.out,hx];rfl) bu.out
    | err x =>
     rw[hx]at jY;subst jY;refine⟨rfl,HK10.out,nX.out,?_⟩
     try rw[bQ.out]
     rw[<-ku.out,hx];rfl
    | ok r4 =>
     rw[hx]at jY;obtain⟨⟨u9,rfl⟩,hr4⟩:=jY;have HST:=zh (zlW bX.out hr4);rw[show(C.plus W.heap.size hi).rb=rb from dJ.out]at HST;have eF:=zh (show((zkz C.F r4).bind fun r=>zkm r (zml r.S))=o by rw[<-ku.out,hx];rfl);have uI:=zh hr4;clear hx hr4;go_wp2_with fail;refine HST.out.mono ?_;rintro e w11 ⟨iC,p8,o9⟩;have HK511:=zh (HK510.out.trans iC);have jN:=zh (bV.out.trans (Kpt.less (C:=C) HK511.out));have jT:=zh (show Below C.w.heap.size C.w w11 from p8);have jX:match zkz C.F r4 with
      | .gas=>True
      | .err x=>e=zly x
      | .ok r=>(∃u,e=.returned u)/\RI (C.plus W.heap.size hi) w11 r:=o9
     clear iC p8 o9 HST
     cases hy:zkz C.F r4 with
     | gas=>exact absurd (by rw[<-eF.out,hy];rfl) bu.out
     | err x =>
      rw[hy]at jX;subst jX;refine⟨rfl,jN.out,jT.out,?_⟩
      try rw[bQ.out]
      rw[<-eF.out,hy];rfl
     | ok r5 =>
      rw[hy]at jX;obtain⟨⟨u9,rfl⟩,kI⟩:=jX;have ll:=zh kI;have iQ:=zh (show FB r4.n r5.S/\r5.n=r4.n+1 by obtain⟨rfl,-⟩:=zlh hy;exact⟨uI.out.fb,rfl⟩);obtain⟨Rc,lN⟩:=zX (zml r5.S);have iL:=zh (show zkm r5 Rc=o by rw[<-eF.out,hy,<-lN];rfl);have y6:w11.cell? ⟨rb,6,none⟩=some (.pointer (some ⟨C.sb,0,none⟩)):=by rw[<-dJ.out];exact kI.cells.1
      clear kI hy;go_wp2_with fail;refine(ll.out.ks.leave).mono ?_;rintro e w12 ⟨rfl,h2,h3⟩;have hs:=RI.store (C:=C.plus W.heap.size hi) ll.out h2 h3 (by rw[iQ.out.2];exact iQ.out.1.leave);rw[lN]at hs ⊢;have nJ:=zh hs.1;have HK512:=zh (HK511.out.trans hs.2);have gW:=zh hs.1.below;have nO:=zh (bV.out.trans (Kpt.less (C:=C) HK512.out));clear hs h2 h3 y6;go_wp2_with fail;refine(zk9 ⟨rb,0,none⟩ Rc.1 w12).mono ?_;rintro e y1 ⟨rfl,hv1⟩;rcases hv1 with⟨h0,u0,rfl⟩|⟨h0,rfl⟩
      ·have gL:=zh (show o=.ok { r5 with S:=Rc.2 } by rw[<-iL.out];unfold zkm;rw[if_neg (by simpa using h0)]);have HR13:=zh nJ.out.less;clear h0;go_wp2_with fail;go_end0;refine⟨nO.out,gW.out,?_⟩
       try rw[bQ.out]
       rw[gL.out];exact⟨⟨_,rfl⟩,HR13.out⟩
      ·refine⟨rfl,nO.out,gW.out,?_⟩
       try rw[bQ.out]
       rw[<-iL.out,show zkm r5 Rc=.err Rc.1 by unfold zkm;rw[if_pos h0]]
theorem zq1{G:List PR->T->Prop}{g:Nat}(hS:IStC G g){C:RC}(hC:C.Ok){W:World}{r:RS}(h:RI C W r)(t:T)(v:Value)(back:Bool)(hv:NV C.w Any t v)(hk0:t.k=50)(i:Nat)(hi:prcI C.p.prs t.s=some i)(q:PR)(hq:C.p.prs[i]?=some q)(hG1:∀u∈q.b.ks,G C.p.prs u)
  (o:Out)(ho:caO C.p.prs C.F g back i q (t.ks.map (·.s)) r=o)(hog:o ≠ .gas) :
  Calls prog 108 #[.pointer (some ⟨C.rb,0,none⟩),v,.bool back] W (RunP C W o):=by
 have aF:=hog
 cases back
 ·skip
  obtain⟨k,n,s,ks⟩:=t;obtain rfl:k=50:=hk0;obtain⟨A,c,rfl,-,hlk,hlc,-⟩:=hv.open_;have hb0:=zkb (zs W) (.cells #[.int .u8 50,.int .i64 n,.string s,.slice A ks.length c] 28);obtain⟨x0,x1,x2,x3⟩:=box4 (heap_alloc_new W (.cells #[.int .u8 50,.int .i64 n,.string s,.slice A ks.length c] 28));have aH:=zh (Kpt.of_below (n0:=C.n0) (kb:=C.kb) hb0);have aJ:=zh (show Calls prog 139 #[.pointer (some ⟨C.rb,0,none⟩),.agg #[.int .u8 50,.int .i64 n,.string s,.slice A ks.length c],.bool false] (W.alloc (.cells #[.int .u8 50,.int .i64 n,.string s,.slice A ks.length c] 28)) (RunP C _ o)from ho▸(zn0 hS hC (h.later hb0) _ _ false hv i hi q hq hG1 (ho▸hog)));clear hv hb0 h aF hG1 ho hi hq;go_enter func108,ntmps108;go_wp2_with fail;refine aJ.out.mono ?_;rintro e w1 ⟨hk1,hb1,ho1⟩
  cases o with
  | gas=>exact absurd rfl hog
  | err x =>
   subst ho1;exact⟨rfl,aH.out.trans hk1,hb1,rfl⟩
  | ok r1 =>
   obtain⟨⟨u,rfl⟩,hr1⟩:=ho1;have HR:=zh hr1;have aD:=zh (aH.out.trans hk1);have HB1:=zh hb1;clear x0 x1 x2 x3 hr1 hk1 hb1;go_wp2_with fail;go_end0;exact⟨aD.out,HB1.out,⟨_,rfl⟩,HR.out⟩
 ·skip
  obtain⟨k,n,s,ks⟩:=t;obtain rfl:k=50:=hk0;obtain⟨A,c,rfl,-,hlk,hlc,-⟩:=hv.open_;have hb0:=zkb (zs W) (.cells #[.int .u8 50,.int .i64 n,.string s,.slice A ks.length c] 28);obtain⟨x0,x1,x2,x3⟩:=box4 (heap_alloc_new W (.cells #[.int .u8 50,.int .i64 n,.string s,.slice A ks.length c] 28));have aH:=zh (Kpt.of_below (n0:=C.n0) (kb:=C.kb) hb0);have aJ:=zh (show Calls prog 139 #[.pointer (some ⟨C.rb,0,none⟩),.agg #[.int .u8 50,.int .i64 n,.string s,.slice A ks.length c],.bool true] (W.alloc (.cells #[.int .u8 50,.int .i64 n,.string s,.slice A ks.length c] 28)) (RunP C _ o)from ho▸(zn0 hS hC (h.later hb0) _ _ true hv i hi q hq hG1 (ho▸hog)));clear hv hb0 h aF hG1 ho hi hq;go_enter func108,ntmps108;go_wp2_with fail;refine aJ.out.mono ?_;rintro e w1 ⟨hk1,hb1,ho1⟩
  cases o with
  | gas=>exact absurd rfl hog
  | err x =>
   subst ho1;exact⟨rfl,aH.out.trans hk1,hb1,rfl⟩
  | ok r1 =>
   obtain⟨⟨u,rfl⟩,hr1⟩:=ho1;have HR:=zh hr1;have aD:=zh (aH.out.trans hk1);have HB1:=zh hb1;clear x0 x1 x2 x3 hr1 hk1 hb1;go_wp2_with fail;go_end0;exact⟨aD.out,HB1.out,⟨_,rfl⟩,HR.out⟩
theorem zq0{G:List PR->T->Prop}{g:Nat}(hS:IStC G g){C:RC}(hC:C.Ok){W:World}{r:RS}(h:RI C W r)(t:T)(v:Value)(back:Bool)(hv:NV C.w Any t v)(hk0:t.k=51)(i:Nat)(hi:prcI C.p.prs t.s=some i)(q:PR)(hq:C.p.prs[i]?=some q)(hG1:∀u∈q.b.ks,G C.p.prs u)
  (o:Out)(ho:caO C.p.prs C.F g (!back) i q (t.ks.map (·.s)) r=o)(hog:o ≠ .gas) :
  Calls prog 108 #[.pointer (some ⟨C.rb,0,none⟩),v,.bool back] W (RunP C W o):=by
 have aF:=hog
 cases back
 ·skip
  change caO C.p.prs C.F g true i q (t.ks.map (·.s)) r=o at ho;obtain⟨k,n,s,ks⟩:=t;obtain rfl:k=51:=hk0;obtain⟨A,c,rfl,-,hlk,hlc,-⟩:=hv.open_;have hb0:=zkb (zs W) (.cells #[.int .u8 51,.int .i64 n,.string s,.slice A ks.length c] 28);obtain⟨x0,x1,x2,x3⟩:=box4 (heap_alloc_new W (.cells #[.int .u8 51,.int .i64 n,.string s,.slice A ks.length c] 28));have aH:=zh (Kpt.of_below (n0:=C.n0) (kb:=C.kb) hb0);have aJ:=zh (show Calls prog 139 #[.pointer (some ⟨C.rb,0,none⟩),.agg #[.int .u8 51,.int .i64 n,.string s,.slice A ks.length c],.bool true] (W.alloc (.cells #[.int .u8 51,.int .i64 n,.string s,.slice A ks.length c] 28)) (RunP C _ o)from ho▸(zn0 hS hC (h.later hb0) _ _ true hv i hi q hq hG1 (ho▸hog)));clear hv hb0 h aF hG1 ho hi hq;go_enter func108,ntmps108;go_wp2_with fail;refine aJ.out.mono ?_;rintro e w1 ⟨hk1,hb1,ho1⟩
  cases o with
  | gas=>exact absurd rfl hog
  | err x =>
   subst ho1;exact⟨rfl,aH.out.trans hk1,hb1,rfl⟩
  | ok r1 =>
   obtain⟨⟨u,rfl⟩,hr1⟩:=ho1;have HR:=zh hr1;have aD:=zh (aH.out.trans hk1);have HB1:=zh hb1;clear x0 x1 x2 x3 hr1 hk1 hb1;go_wp2_with fail;go_end0;exact⟨aD.out,HB1.out,⟨_,rfl⟩,HR.out⟩
 ·skip
  change caO C.p.prs C.F g false i q (t.ks.map (·.s)) r=o at ho;obtain⟨k,n,s,ks⟩:=t;obtain rfl:k=51:=hk0;obtain⟨A,c,rfl,-,hlk,hlc,-⟩:=hv.open_;have hb0:=zkb (zs W) (.cells #[.int .u8 51,.int .i64 n,.string s,.slice A ks.length c] 28);obtain⟨x0,x1,x2,x3⟩:=box4 (heap_alloc_new W (.cells #[.int .u8 51,.int .i64 n,.string s,.slice A ks.length c] 28));have aH:=zh (Kpt.of_below (n0:=C.n0) (kb:=C.kb) hb0);have aJ:=zh (show Calls prog 139 #[.pointer (some ⟨C.rb,0,none⟩),.agg #[.int .u8 51,.int .i64 n,.string s,.slice A ks.length c],.bool false] (W.alloc (.cells #[.int .u8 51,.int .i64 n,.string s,.slice A ks.length c] 28)) (RunP C _ o)from ho▸(zn0 hS hC (h.later hb0) _ _ false hv i hi q hq hG1 (ho▸hog)));clear hv hb0 h aF hG1 ho hi hq;go_enter func108,ntmps108;go_wp2_with fail;refine aJ.out.mono ?_;rintro e w1 ⟨hk1,hb1,ho1⟩
  cases o with
  | gas=>exact absurd rfl hog
  | err x =>
   subst ho1;exact⟨rfl,aH.out.trans hk1,hb1,rfl⟩
  | ok r1 =>
   obtain⟨⟨u,rfl⟩,hr1⟩:=ho1;have HR:=zh hr1;have aD:=zh (aH.out.trans hk1);have HB1:=zh hb1;clear x0 x1 x2 x3 hr1 hk1 hb1;go_wp2_with fail;go_end0;exact⟨aD.out,HB1.out,⟨_,rfl⟩,HR.out⟩
structure GC(G:List PR->T->Prop):Prop where
 two:∀prs t,G prs t->(t.k=52\/t.k=53)->t.ks.length=4/\(∀u∈(kid t 1).ks,G prs u)/\∀u∈(kid t 2).ks,G prs u
 loc:∀prs t,G prs t->t.k=54->t.ks.length=3/\∀u∈(kid t 1).ks,G prs u
 stk:∀prs t,G prs t->t.k=55->t.ks.length=1/\∀u∈(kid t 0).ks,G prs u
 cal:∀prs t,G prs t->(t.k=50\/t.k=51)->∃i q,prcI prs t.s=some i/\prs[i]?=some q/\∀u∈q.b.ks,G prs u
theorem getD_some{prs:List PR}{i:Nat}{q:PR}(h:prs[i]?=some q):prs.getD i ⟨⟨#[]⟩,[],nil0⟩=q:=by
 rw[List.getD_eq_getElem?_getD,h];rfl
theorem zrO{G:List PR->T->Prop}(hG:GC G):∀g,IStC G g
 | 0=>fun C hC W r h t v back hv vY hg=>absurd rfl hg
 | g+1=>fun C hC W r h t v back hv vY hg=>by
  have hS:=zrO hG g;by_cases lQ:t.k=52
  ·obtain⟨h1,h2,h3⟩:=hG.two _ _ vY (.inl lQ);have e:zku C.p.prs C.F (g+1) back t r=brO C.p.prs C.F g back t r:=by rw[zku,if_pos lQ];rfl
   rw[e]at hg ⊢;exact zx3 hS hC h t v back hv lQ h1 h2 h3 _ rfl hg
  by_cases mX:t.k=53
  ·obtain⟨h1,h2,h3⟩:=hG.two _ _ vY (.inr mX);have e:zku C.p.prs C.F (g+1) back t r=lpO C.p.prs C.F g back t r:=by rw[zku,if_neg lQ,if_pos mX];rfl
   rw[e]at hg ⊢;exact ztt hS hC h t v back hv mX h1 h2 h3 _ rfl hg
  by_cases eG:t.k=54
  ·obtain⟨h1,h2⟩:=hG.loc _ _ vY eG;have e:zku C.p.prs C.F (g+1) back t r=loO C.p.prs C.F g back t r:=by rw[zku,if_neg lQ,if_neg mX,if_pos eG];rfl
   rw[e]at hg ⊢;exact zst hS hC h t v back hv eG h1 h2 _ rfl hg
  by_cases fw:t.k=55
  ·obtain⟨h1,h2⟩:=hG.stk _ _ vY fw;have e:zku C.p.prs C.F (g+1) back t r=lsO C.p.prs C.F g back t r:=by rw[zku,if_neg lQ,if_neg mX,if_neg eG,if_pos fw];rfl
   rw[e]at hg ⊢;exact zx2 hS hC h t v back hv fw h1 h2 hg
  by_cases h5:t.k=50\/t.k=51
  ·obtain⟨i,q,hi,hq,hb⟩:=hG.cal _ _ vY h5;have e:zku C.p.prs C.F (g+1) back t r=caO C.p.prs C.F g (back != decide (t.k=51)) i q (t.ks.map (·.s)) r:=by
    rw[zku,if_neg lQ,if_neg mX,if_neg eG,if_neg fw,if_pos h5,hi];dsimp only;rw[getD_some hq];rfl
   rw[e]at hg ⊢;rcases h5 with h50|lS
   ·have e2:(back != decide (t.k=51))=back:=by rw[show decide (t.k=51)=false by simp[h50]];cases back<;>rfl
    rw[e2]at hg ⊢;exact zq1 hS hC h t v back hv h50 i hi q hq hb _ rfl hg
   ·have e2:(back != decide (t.k=51)) = !back:=by rw[show decide (t.k=51)=true by simp[lS]];cases back<;>rfl
    rw[e2]at hg ⊢;exact zq0 hS hC h t v back hv lS i hi q hq hb _ rfl hg
  ·have e:zku C.p.prs C.F (g+1) back t r=basO C.F back t r:=by
    rw[zku,if_neg lQ,if_neg mX,if_neg eG,if_neg fw,if_neg h5];rfl
   rw[e];exact zvS hC h t v back hv ⟨lQ,mX,eG,fw,fun h=>h5 (.inl h),fun h=>h5 (.inr h)⟩
theorem zr7(jb:Nat)(w:World)(h:w.cell? ⟨jb,0,none⟩=some (.slice none 0 0)):Calls prog 105 #[.pointer (some ⟨jb,0,none⟩)] w fun e w'=>e=.returned (.int .i64 0)/\w'=w:=by
 go_enter func105,ntmps105;go_wp2_with fail;go_ret;exact⟨rfl,rfl⟩
theorem zzH:IsFn prog 105 f105:=⟨func105,by kernel_rfl,by kernel_rfl⟩
theorem zxQ{P:Program}{c:Code}{Q Q':Exit->Act->World->Prop}{a:Act}{w:World}(h:c.wp P Q a w)(hQ:∀e a' w',Q e a' w'->Q' e a' w'):c.wp P Q' a w :=
 fun b k cs=>let ⟨e,a',w',q,r⟩:=h b k cs;⟨e,a',w',hQ _ _ _ q,r⟩
theorem zye(C:World->Prop):∃Q:Exit->Act->World->Prop,(∀a' w',a'.defers=[]->C w'->Q .normal a' w')/\∀e a' w',Q e a' w'->e=.normal/\a'.defers=[]/\C w' :=
 ⟨fun e a' w'=>e=.normal/\a'.defers=[]/\C w',fun _ _ h1 h2=>⟨rfl,h1,h2⟩,fun _ _ _ h=>h⟩
theorem tAss(x:Int)(w:World):(Instr.typeAssert (.iface 175 (.agg #[.int .i64 x])) 20 175 true).run prog w=.ok (.tuple #[.agg #[.int .i64 x],.bool true]) w:=by kernel_rfl
theorem zw4(a b c:Value)(w:World) :
  CallsD prog 106 #[a,b,c] .returning w fun e u' w'=>e=.returned (.tuple #[])/\u'=.returning/\w'=w:=by
 refine callsD_of_wpS func106 rfl fun c₀ cs hu=>?_;apply wpS_seq;apply wpS_region;simp[wpOpsS,go_sem,recoverD,hu,ntmps106,Exit.thenS];apply wpS_seq;apply wpS_seq;apply wpS_region;simp[wpOpsS,go_sem,Exit.thenS];refine wpS_cond (t:=true) (by simp[Act.eval,Array.replicate]) ?_;simp only[if_true];refine wpS_of_wp (wp_ret ?_)
 cases c₀
 simp_all [bodyPostS,results,results106,Exit.thenS]
theorem zu4(a2 a5 a4 jb:Nat)(x y:Int)(w:World)(h2:w.cell? ⟨a2,0,none⟩=some (.pointer (some ⟨jb,0,none⟩)))(h5:w.cell? ⟨a5,0,none⟩=some (.int .i64 0))(hj:w.cell? ⟨jb,0,none⟩=some (.slice none 0 0))(h4:w.cell? ⟨a4,0,none⟩=some (.int .i64 y))(hf:w.frozen? ⟨a4,0,none⟩=false) :
  CallsD prog 106 #[.pointer (some ⟨a2,0,none⟩),.pointer (some ⟨a5,0,none⟩),.pointer (some ⟨a4,0,none⟩)] (.panicking [{ v:=.iface 175 (.agg #[.int .i64 x]),recovered:=false }]) w fun e u' w' =>
   e=.returned (.tuple #[])/\u'=.panicking [{ v:=.iface 175 (.agg #[.int .i64 x]),recovered:=true }]/\w'.cell? ⟨a4,0,none⟩=some (.int .i64 x)/\Chg (fun b=>b=a4) w w':=by
 refine callsD_of_wpS func106 rfl fun c₀ cs hu=>?_;apply wpS_seq;apply wpS_region;simp[wpOpsS,go_sem,recoverD,hu,ntmps106,Exit.thenS];apply wpS_seq;apply wpS_seq;apply wpS_region;simp[wpOpsS,go_sem,Exit.thenS];refine wpS_cond (t:=false) (by simp[Act.eval,Array.replicate]) ?_;simp only[Bool.false_eq_true,if_false];refine wpS_of_wp (wp_skip ?_);refine wpS_of_wp ?_;obtain⟨Q,vW,hQ2⟩:=zye (fun w'=>w'.cell? ⟨a4,0,none⟩=some (.int .i64 x)/\Chg (fun b=>b=a4) w w');refine zxQ (Q:=Q) ?_ ?_;rotate_left 1
 ·intro e a' w' hq;obtain⟨rfl,h1,h2⟩:=hQ2 _ _ _ hq
  cases c₀
  simp_all [bodyPostS,results,results106,Exit.thenS]
 have HQ:=zh vW;clear vW hQ2 hu;refine Eq.mp (congrArg (fun t=>Code.wp prog _ Q ⟨t,[]⟩ w) (?e:(#[.pointer (some ⟨a2,0,none⟩),.pointer (some ⟨a5,0,none⟩),.pointer (some ⟨a4,0,none⟩),.iface 175 (.agg #[.int .i64 x]),undef,undef,.iface 175 (.agg #[.int .i64 x]),.iface 175 (.agg #[.int .i64 x]),.bool false,undef,undef,undef,undef,undef,undef,undef,undef,undef,undef,undef,undef,undef,undef,undef,undef,undef]:Array Value)=_)) ?_
 case e=>kernel_rfl
 go_upto_region 2 with fail;have HS:=zh (show ∀w',Below w.heap.size w w'->(fun w':World=>zv w' a2 0 (.pointer (some ⟨jb,0,none⟩))/\zv w' a5 0 (.int .i64 0)) w' from fun w' hb=>⟨zb hb h2,zb hb h5⟩);have oK:=zh (fun w' (hb:Below w.heap.size w w')=>zr7 jb w' (zb hb hj));have hSS:zW (fun w':World=>zv w' a2 0 (.pointer (some ⟨jb,0,none⟩))/\zv w' a5 0 (.int .i64 0)) zU w.drew:=⟨HS.out _ zr.drew,trivial⟩
 refine wp_region_noPanic ?_;refine zG hSS 3 ?_;refine zT 0 hSS ?_;refine zT 2 hSS ?_;have had:Calls prog 105 [.pointer (some ⟨jb,0,none⟩)].toArray w.drew fun e w'=>∃v,e=.returned v/\(v=.int .i64 0/\w'=w.drew):=(oK.out _ zr.drew).mono fun e w' ⟨h1,h2⟩=>⟨_,h1,rfl,h2⟩
 refine zo 1 fun K hK=>?_;refine zke (by rfl) (.func 105) [.tmp 9] _ (by rfl) 105 _ zzH (by rfl) _ (by rfl) _ had ?_;rintro v1 w1 ⟨rfl,rfl⟩;refine hK.out _ _ hSS ?_;clear hK K had;(try simp only[zQ]);refine zp 3 fun K hK=>?_;(try simp only[zA,zB,zC]);go_simp;refine hK.out _ _ hSS.1 ?_;clear hK K;(try simp only[zQ]);refine zd ?_;refine NoPanic.normal ?_;clear hSS HS oK;have ht:=fun w=>tAss x w;obtain⟨w1,hw1⟩:=zX (w.drew);have hb1:Below w.heap.size w w1:=hw1▸zr.drew;have g4:=zb hb1 h4;have gf:w1.frozen? ⟨a4,0,none⟩=false:=hw1▸hf;have hlt:a4<w1.heap.size:=World.block_lt_of_cell? w1 _ g4;have z4:=zkj g4 (.cells #[.int .i64 x] 175);have HB1:=zh hb1;rw[hw1];clear h2 h5 hj h4 hf hw1 hb1;go_wp2_with fail;have hch:=(Chg.refl (fun b=>b=a4) w1).setCell (p:=⟨a4,0,none⟩) (.inl rfl) (.int .i64 x)
 exact HQ.out _ _ rfl ⟨zkj (by simp[go_sem,g4]) _,(Chg.of_below HB1.out).trans (hch.alloc _)⟩
def AttP(W:World)(R:World->Prop)(X:Int->World->Prop)(e:Ending)(w':World):Prop :=
 (e=.returned (.int .i64 0)/\∃w1,R w1/\Chg (fun b=>W.heap.size<=b/\b<W.heap.size+3) w1 w')\/∃x,e=.returned (.int .i64 x)/\∃w1,X x w1/\Chg (fun b=>W.heap.size<=b/\b<W.heap.size+3) w1 w'
theorem zrE(jb:Nat)(f:FuncId)(fn:Func)(hf:IsFn prog f fn)(caps:Array Value)(W:World)(hj:W.heap[jb]?=some (.cells #[.slice none 0 0,.bool false] 132 (0,0)))(R:World->Prop)(X:Int->World->Prop)
  (hact:∀W1,Below W.heap.size W W1->W1.heap.size=W.heap.size+3->Calls prog f caps W1 fun e w'=>(∀b,(W.heap.size<=b\/b=jb)->b<W1.heap.size->w'.heap[b]?=W1.heap[b]?)/\(((∃u,e=.returned u)/\R w')\/∃x,e=zly x/\X x w')) :
  Calls prog 74 #[.pointer (some ⟨jb,0,none⟩),.func (.func f) #[] caps] W (AttP W R X):=by
 have yI:∀(fn:Fn) (first cap:Array Value) (w:World),(Instr.makeFunc fn first cap).run prog w=.ok (.func fn first cap) w:=fun _ _ _ _=>rfl;have hnf:∀w:World,(binOp BinOp.eql 1 (.func (.func f) #[] caps) .nilFunc).run prog w=.ok (.bool false) w:=fun _=>by kernel_rfl
 have HJ:=zh hj;have hjl:=zkf hj;have HA:=zh hact;have hLE:=fun w' (hb:Below W.heap.size W w')=>zr7 jb w' (zb hb (zc hj rfl));have oK:=zh hLE;clear hj hact hLE
 go_enter_defers func74,ntmps74
 go_wp2_with fail;refine(oK.out _ (zkb (zkb zr _) _)).mono ?_;rintro e w1 ⟨rfl,rfl⟩;go_wp2_with fail;rw[zkG hf,Oper.upon_enter];have k0:=zkd (zkd (heap_alloc_new W (.cells #[.pointer (some ⟨jb,0,none⟩)] 129)) (.cells #[.int .i64 0] 35)) (.cells #[.int .i64 0] 3);have k1:=zkd (heap_alloc_new (W.alloc (.cells #[.pointer (some ⟨jb,0,none⟩)] 129)) (.cells #[.int .i64 0] 35)) (.cells #[.int .i64 0] 3);have k2:=heap_alloc_new ((W.alloc (.cells #[.pointer (some ⟨jb,0,none⟩)] 129)).alloc (.cells #[.int .i64 0] 35)) (.cells #[.int .i64 0] 3);have kj:=zkd (zkd (zkd HJ.out (.cells #[.pointer (some ⟨jb,0,none⟩)] 129)) (.cells #[.int .i64 0] 35)) (.cells #[.int .i64 0] 3);have hb3:=zkb (zkb (zkb (zs W) (.cells #[.pointer (some ⟨jb,0,none⟩)] 129)) (.cells #[.int .i64 0] 35)) (.cells #[.int .i64 0] 3);simp only[World.size_alloc]at k1 k2
 obtain⟨w3,hw3⟩:=zX (((W.alloc (.cells #[.pointer (some ⟨jb,0,none⟩)] 129)).alloc (.cells #[.int .i64 0] 35)).alloc (.cells #[.int .i64 0] 3));have hz3:w3.heap.size=W.heap.size+3:=by rw[<-hw3];simp
 rw[hw3]at k0 k1 k2 kj hb3 ⊢;clear hw3;refine(HA.out w3 hb3 hz3).mono ?_;rintro e w2 ⟨hk,h⟩;have q0:=(hk _ (.inl zl) (by omega)).trans k0;have q1:=(hk _ (.inl (Nat.le_succ _)) (by omega)).trans k1;have q2:=(hk _ (.inl (by omega)) (by omega)).trans k2;have qj:=(hk _ (.inr rfl) (by omega)).trans kj;clear k0 k1 k2 kj hk hb3;rcases h with⟨⟨u,rfl⟩,hR⟩|⟨x,rfl,hX⟩
 ·have c1:w2.cell? ⟨W.heap.size+1,0,none⟩=some (.int .i64 0):=zc q1 rfl;have f1:∀o,w2.frozen? ⟨W.heap.size+1,o,none⟩=false:=fun _=>zf q1;have HRR:=zh hR;clear q0 q2 qj oK HA hR;go_wp2_with fail;refine leaves_cons (f:=106) (args := #[.pointer (some ⟨W.heap.size,0,none⟩),.pointer (some ⟨W.heap.size+1+1,0,none⟩),.pointer (some ⟨W.heap.size+1,0,none⟩)]) (by simp) (by simp[go_sem]) ?_;refine(zw4 _ _ _ _).mono ?_;rintro e u' w'' ⟨rfl,rfl,rfl⟩;have hch:=(Chg.refl (fun b=>W.heap.size<=b/\b<W.heap.size+3) w2).setCell (p:=⟨W.heap.size+1,0,none⟩) (.inl ⟨Nat.le_succ _,by simp⟩) (.int .i64 0);have hc2:(w2.setCell ⟨W.heap.size+1,0,none⟩ (.int .i64 0)).cell? ⟨W.heap.size+1,0,none⟩=some (.int .i64 0):=by simp[go_sem,c1]
  have HP:AttP W R X (.returned (.int .i64 0)) (w2.setCell ⟨W.heap.size+1,0,none⟩ (.int .i64 0)):=.inl ⟨rfl,w2,HRR.out,hch⟩;simp[Leaves,settle,results,results74,go_sem,hc2,HP]
 ·have p0:w2.cell? ⟨W.heap.size,0,none⟩=some (.pointer (some ⟨jb,0,none⟩)):=zc q0 rfl;have p1:w2.cell? ⟨W.heap.size+1,0,none⟩=some (.int .i64 0):=zc q1 rfl;have p2:w2.cell? ⟨W.heap.size+1+1,0,none⟩=some (.int .i64 0):=zc q2 rfl;have pj:w2.cell? ⟨jb,0,none⟩=some (.slice none 0 0):=zc qj rfl;have f1:w2.frozen? ⟨W.heap.size+1,0,none⟩=false:=zf q1;refine leaves_cons (f:=106) (args := #[.pointer (some ⟨W.heap.size,0,none⟩),.pointer (some ⟨W.heap.size+1+1,0,none⟩),.pointer (some ⟨W.heap.size+1,0,none⟩)]) (by simp) (by simp[go_sem]) ?_;refine(zu4 _ _ _ jb x 0 _ p0 p2 pj p1 f1).mono ?_;rintro e u' w'' ⟨rfl,rfl,hc2,hch⟩;have HP:AttP W R X (.returned (.int .i64 x)) w'':=.inr ⟨x,rfl,w2,hX,hch.mono fun b _ e=>by omega⟩;simp[Leaves,settle,results,results74,go_sem,hc2,HP]
theorem ztL:∀(prs:List PR) (s:ByteArray),prcI prs s=idxP prs s
 | [],_=>rfl
 | q::qs,s=>by
  unfold prcI;rw[ztL qs s];unfold idxP;rw[List.findIdx?_cons]
def CalB(prs:List PR)(t:T):Prop:=∀u∈po t,(u.k=50\/u.k=51)->∃i,prcI prs u.s=some i
theorem zyn:∀(t:T),isE t=true->∀x∈po t,isE x=true:=by
 intro t
 induction t using T.ind with
 | _ k n s ks ih =>
  intro h x hx;simp only[po,List.mem_cons]at hx;rcases hx with rfl|hx
  ·exact h
  ·obtain⟨t,ht,hx⟩:=zmU.1 hx;exact ih t ht (zpK h t ht) x hx
theorem CalB.expr{prs:List PR}{t:T}(h:isE t=true):CalB prs t:=fun u hu hk=>by
 have:=zum u (zyn t h u hu);omega
theorem CalB.kid{prs:List PR}{k n:Int}{s:ByteArray}{ks:List T}(h:CalB prs (.nd k n s ks)){t:T}(ht:t∈ks):CalB prs t:=fun u hu=>h u (by simp only[po,List.mem_cons];exact .inr (zmU.2 ⟨t,ht,hu⟩))
theorem zoy{prs:List PR}{k:Int}{s:ByteArray}{vs:List VD}:∀ {ks:List T} {i:Nat},cntK prs k s i ks vs=0->∀t∈ks,∃vs',cntV prs t vs'=0
 | [],_,_,t,ht=>by cases ht
 | u::us,i,h,t,ht=>by
  rw[cntK]at h;obtain⟨h1,h2⟩:=Nat.add_eq_zero_iff.1 h;rcases List.mem_cons.1 ht with rfl|ht
  ·exact⟨_,h1⟩
  ·exact zoy h2 t ht
theorem ztW{e:Int}(h:one1 e=0):e=0:=by
 unfold one1 at h
 split at h
 ·assumption
 ·omega
theorem zxJ:∀(t:T) (prs:List PR) (vs:List VD),(isS t=true\/isB t=true\/isE t=true)->cntV prs t vs=0->CalB prs t:=by
 intro t
 induction t using T.ind with
 | _ k n s ks ih =>
  intro prs vs ht h;rcases ht with hs|hb|he
  ·rw[cntV]at h;intro u hu hk;simp only[po,List.mem_cons]at hu;by_cases hc:k=50\/k=51
   ·rcases hu with rfl|hu
    ·have h0:=ztW (e:=zll prs k s ks.length vs) (by omega);unfold zll at h0;rw[if_neg (by omega),if_neg (by omega),if_neg (by omega),if_neg (by omega),if_pos hc]at h0;rw[ztL]
     cases hi:idxP prs s with
     | none=>rw[hi]at h0;simp at h0
     | some i=>exact⟨i,hi⟩
    ·obtain⟨t,ht,hx⟩:=zmU.1 hu;have h57:t.k≠57:=by
      rcases zm7 hs with⟨_,h1⟩|⟨h1,_⟩|⟨h1,_⟩|⟨h1,_⟩
      ·exact h1 t ht
      all_goals omega
     rcases(zui hs).2 t ht with h1|h1
     ·exact CalB.expr h1 u hx hk
     ·exact absurd (zyo h1) h57
   ·rw[if_neg hc]at h;rcases hu with rfl|hu
    ·exact absurd hk hc
    ·obtain⟨t,ht,hx⟩:=zmU.1 hu;obtain⟨vs',hv⟩:=zoy (Nat.add_eq_zero_iff.1 h).2 t ht;rcases(zui hs).2 t ht with h1|h1
     ·exact CalB.expr h1 u hx hk
     ·exact ih t ht prs vs' (.inr (.inl h1)) hv u hx hk
  ·obtain⟨h57,hks⟩:=znU _ _ _ _ hb;rw[cntV,if_neg (by omega)]at h;intro u hu hk;simp only[po,List.mem_cons]at hu;rcases hu with rfl|hu
   ·simp only[T.k_nd]at hk;omega
   ·obtain⟨t,ht,hx⟩:=zmU.1 hu;obtain⟨vs',hv⟩:=zoy (Nat.add_eq_zero_iff.1 h).2 t ht;exact ih t ht prs vs' (.inl (hks t ht)) hv u hx hk
  ·exact CalB.expr he
def GP(prs:List PR)(t:T):Prop:=isS t=true/\CalB prs t/\∀q∈prs,isB q.b=true/\CalB prs q.b
theorem GP.block{prs:List PR}{b:T}(hb:isB b=true)(hc:CalB prs b)(hq:∀q∈prs,isB q.b=true/\CalB prs q.b):∀u∈b.ks,GP prs u:=by
 obtain⟨k,n,s,ks⟩:=b;exact fun u hu=>⟨(znU _ _ _ _ hb).2 u hu,hc.kid hu,hq⟩
theorem zzc:GC GP where
 two:=fun prs t h hk=>by
  obtain⟨k,n,s,ks⟩:=t;obtain⟨hs,hc,hq⟩:=h;simp only[T.k_nd]at hk;rcases zm7 hs with⟨h1,_⟩|⟨_,_,a,b,c,d,rfl,_,hb1,hb2,_⟩|⟨h1,_⟩|⟨h1,_⟩
  ·omega
  ·exact⟨rfl,GP.block hb1 (hc.kid (t:=b) (by simp)) hq,GP.block hb2 (hc.kid (t:=c) (by simp)) hq⟩
  ·omega
  ·omega
 loc:=fun prs t h hk=>by
  obtain⟨k,n,s,ks⟩:=t;obtain⟨hs,hc,hq⟩:=h;simp only[T.k_nd]at hk;rcases zm7 hs with⟨h1,_⟩|⟨h1,_⟩|⟨_,_,a,b,c,rfl,_,hb1,_⟩|⟨h1,_⟩
  ·omega
  ·omega
  ·exact⟨rfl,GP.block hb1 (hc.kid (t:=b) (by simp)) hq⟩
  ·omega
 stk:=fun prs t h hk=>by
  obtain⟨k,n,s,ks⟩:=t;obtain⟨hs,hc,hq⟩:=h;simp only[T.k_nd]at hk;rcases zm7 hs with⟨h1,_⟩|⟨h1,_⟩|⟨h1,_⟩|⟨_,_,b,rfl,hb1⟩
  ·omega
  ·omega
  ·omega
  ·exact⟨rfl,GP.block hb1 (hc.kid (t:=b) (by simp)) hq⟩
 cal:=fun prs t h hk=>by
  obtain⟨hs,hc,hq⟩:=h;have hm:t∈po t:=by obtain⟨k,n,s,ks⟩:=t;simp[po]
  obtain⟨i,hi⟩:=hc t hm hk;obtain⟨-,hl⟩:=zpz _ _ _ hi;exact⟨i,prs[i],hi,List.getElem?_eq_getElem hl,GP.block (hq _ (List.getElem_mem hl)).1 (hq _ (List.getElem_mem hl)).2 hq⟩
theorem zqh{ps:List PR}:∀ {j:Nat},j<=ps.length->prcN ps j=0->∀i (h:i<ps.length),i<j->prcE ps i ps[i]=0
 | 0,_,_,i,_,hi=>by omega
 | j+1,hj,h,i,hl,hi=>by
  rw[zoe (by omega)]at h;by_cases e:i=j
  ·subst e;omega
  ·exact zqh (j:=j) (by omega) (by omega) i hl (by omega)
theorem zp5{p:PG}(h:zkA p=true):isB p.m=true/\∀r∈p.prs,isB r.b=true:=by
 simp only[zkA,Bool.and_eq_true,decide_eq_true_eq,List.all_eq_true]at h;refine⟨?_,fun r hr=>?_⟩
 ·have:=h.2;simp only[zkY,Bool.and_eq_true]at this;exact this.2
 ·have:=h.1.2 r hr;simp only[zod,zkY,Bool.and_eq_true]at this;exact this.2.2
theorem zrB{p:PG}(hv:zkA p=true)(hc:chkN p=0):∀u∈p.m.ks,GP p.prs u:=by
 obtain⟨h1,h2⟩:=zp5 hv;unfold chkN at hc;refine GP.block h1 (zxJ _ _ p.vs (.inr (.inl h1)) (by omega)) fun q hq=>⟨h2 q hq,?_⟩
 obtain⟨i,hi,rfl⟩:=List.getElem_of_mem hq;have:=zqh zl (show prcN p.prs p.prs.length=0 by omega) i hi hi;unfold prcE at this;exact zxJ _ _ _ (.inr (.inl (h2 _ hq))) (show cntV p.prs p.prs[i].b p.prs[i].ps=0 by omega)
theorem zzC(M a b r s g:Nat)(h1:a<=b)(h2:s<=r)(hg:b*M+r<=g):a*M+s<=g:=by have:=Nat.mul_le_mul_right M h1;omega
theorem zrR{p:PG}{F:Int}{g:Nat}(hv:zkA p=true)(hg:F.toNat*2000+2000<=g)(back:Bool)(S:ST)(e:List Nat):Good 0 (runO p.prs F g back p.m ⟨S,0,e⟩):=by
 obtain⟨_,_,h3,_,h5⟩:=zlu hv;refine zlI _ _ fun u hu r hr=>zl7 (M:=2000) (fun q hq=>(h3 q hq).2.2) (by omega) g back u r ?_;have h6:=zpF (zlH hu);exact zzC 2000 (F.toNat-r.n) F.toNat 2000 _ g (by omega) (by omega) hg
def Nz(o:Out):Prop:=o ≠ .err 0
theorem Nz.bind{o:Out}{f:RS->Out}(h:Nz o)(hf:∀r,Nz (f r)):Nz (o.bind f):=by
 cases o with
 | gas=>exact fun e=>by cases e
 | err x=>exact h
 | ok r=>exact hf r
theorem Nz.ok(r:RS):Nz (.ok r):=fun e=>by cases e
theorem Nz.gas:Nz .gas:=fun e=>by cases e
theorem Nz.step(F:Int)(r:RS):Nz (zkz F r):=by
 unfold zkz
 split
 ·intro e;injection e with e;omega
 ·exact Nz.ok _
theorem Nz.store(r:RS)(R:Int×ST):Nz (zkm r R):=by
 unfold zkm
 split
 ·rename_i h;intro e;injection e with e;exact h e
 ·exact Nz.ok _
theorem Nz.val{t:T}{r:RS}{f:Int->RS->Out}(hf:∀x,Nz (f x r)):Nz (valO t r f):=by
 unfold valO
 split
 ·rename_i h;intro e;injection e with e;exact h e
 ·exact hf _
theorem Nz.holds{F:Int}{t:T}{r:RS}{f:Bool->RS->Out}(hf:∀b r,Nz (f b r)):Nz (zk8 F t r f):=(Nz.step F r).bind fun r=>Nz.val fun x=>hf _ _
theorem Nz.assert(F:Int)(t:T)(b:Bool)(r:RS):Nz (zkq F t b r):=Nz.holds fun b' r=>by
 split
 ·exact Nz.ok _
 ·intro e;injection e with e;omega
theorem Nz.body{f:T->RS->Out}:∀(l:List T) (r:RS),(∀t∈l,∀r,Nz (f t r))->Nz (zk1 f l r)
 | [],r,_=>Nz.ok r
 | t::ts,r,h=>(h t (List.mem_cons_self ..) r).bind fun r=>Nz.body ts r fun u hu=>h u (List.mem_cons_of_mem _ hu)
theorem Nz.loop{F:Int}{f:T->RS->Out}{entry test:T}{l1 l2:List T}(h1:∀t∈l1,∀r,Nz (f t r))(h2:∀t∈l2,∀r,Nz (f t r)):∀(m:Nat) (r:RS),Nz (zlT F f entry test l1 l2 m r)
 | 0,_=>Nz.gas
 | m+1,r=>by
  rw[zlT];refine(Nz.body l1 r h1).bind fun r=>Nz.holds fun b r=>?_
  split
  ·exact Nz.ok _
  ·exact(Nz.body l2 r h2).bind fun r=>(Nz.assert F entry false r).bind fun r=>Nz.loop h1 h2 m r
theorem znX{G:List PR->T->Prop}(hG:GC G){prs:List PR}{F:Int}:∀(g:Nat) (back:Bool) (t:T) (r:RS),G prs t->Nz (zku prs F g back t r)
 | 0,_,_,_,_=>Nz.gas
 | g+1,back,t,r,h=>by
  have hb:∀back (b:T) r,(∀u∈b.ks,G prs u)->Nz (zk1 (zku prs F g back) (blkL back b) r):=fun back b r hu=>Nz.body _ r fun u hm r=>znX hG g back u r (hu u (zlH hm));rw[zku]
  split
  ·rename_i hk;obtain⟨-,h1,h2⟩:=hG.two _ _ h (.inl hk);refine Nz.holds fun yes r=>Nz.bind ?_ fun r=>Nz.assert _ _ _ _
   split
   ·exact hb _ _ _ h1
   ·exact hb _ _ _ h2
  ·split
   ·rename_i hk;obtain⟨-,h1,h2⟩:=hG.two _ _ h (.inr hk);exact(Nz.assert _ _ _ _).bind fun r=>Nz.loop (fun u hm r=>znX hG g back u r (h1 u (zlH hm))) (fun u hm r=>znX hG g back u r (h2 u (zlH hm))) g r
   ·split
    ·rename_i hk;obtain⟨-,h1⟩:=hG.loc _ _ h hk;exact(Nz.step _ _).bind fun r=>Nz.val fun x=>(Nz.store _ _).bind fun r=>(hb _ _ _ h1).bind fun r=>(Nz.step _ _).bind fun r=>Nz.val fun x=>Nz.store _ _
    ·split
     ·rename_i hk;obtain⟨-,h1⟩:=hG.stk _ _ h hk;exact(Nz.step _ _).bind fun r=>(Nz.store _ _).bind fun r=>(hb _ _ _ h1).bind fun r=>(Nz.step _ _).bind fun r=>Nz.store _ _
     ·split
      ·rename_i hk;obtain⟨i,q,hi,hq,h1⟩:=hG.cal _ _ h hk;rw[hi];dsimp only;rw[getD_some hq];exact(Nz.step _ _).bind fun r=>(Nz.store _ _).bind fun r=>(hb _ _ _ h1).bind fun r=>(Nz.step _ _).bind fun r=>Nz.store _ _
      ·exact(Nz.step _ _).bind fun r=>Nz.store _ _
theorem ztA{G:List PR->T->Prop}(hG:GC G){prs:List PR}{F:Int}{g:Nat}{back:Bool}{b:T}{r:RS}(h:∀u∈b.ks,G prs u):Nz (runO prs F g back b r):=Nz.body _ r fun u hm r=>znX hG g back u r (h u (zlH hm))
theorem RI.chgK{C:RC}{lo hi:Nat}{W W':World}{r:RS}(hC:(C.plus lo hi).Ok)(h:RI (C.plus lo hi) W r)(hc:Chg (fun b=>lo<=b/\b<hi) W W')(hlo:C.w.heap.size<=lo):RI (C.plus lo hi) W' r:=by
 have hkb:∀b,lo<=b/\b<hi->(C.plus lo hi).kb b:=fun b hb=>.inr hb;refine⟨h.ks.chg hc fun b _ hb=>⟨Nat.le_trans hlo hb.1,.inr (.inl (hkb b hb))⟩,hc.keep h.box fun hb=>hC.rb.2 (hkb _ hb),znx h.ent fun b hb=>?_,h.el,h.en,h.n,h.fb⟩;exact hc.block b (h.ent.lt b hb).2 fun hb'=>hC.ev.2 b hb (hkb _ hb')
end
end Go.Proofs.YthjinpodhacleaaGreat
