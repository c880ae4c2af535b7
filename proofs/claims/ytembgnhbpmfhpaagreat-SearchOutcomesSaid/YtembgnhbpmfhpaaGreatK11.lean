/-
  Texts of the proof, put together without their remarks: Im, Iz, Ia, Gf, Nz, Ib, Fw, Ig, Eqv, Wfp, Rxp, Pvl, Sfa, Sve, Altb.
-/
import Derived.Test.YtembgnhbpmfhpaaGreatK10
import Derived.Tactics
import Derived.Tactics2
import Derived.Defers
import Derived.Laws.StructEq
set_option linter.unusedSimpArgs false
set_option linter.unusedVariables false
set_option maxHeartbeats 8000000
set_option maxRecDepth 100000
namespace Go.Proofs.YtembgnhbpmfhpaaGreat
section
open Go Go.RowKit
theorem zwE:IsFn Tryz.prog 203 Tryz.f203:=⟨Tryz.func203,by kernel_rfl,by kernel_rfl⟩
def caR(prs:List PR)(F:Int)(g:Nat)(back:Bool)(i:Nat)(b:T)(r:RS):Out :=
 (zld (zkA prs F g back) (blkL back b) { r with ent:=r.ent.set i (r.ent.getD i 0+1) }).bind fun r=>(zkE F r).bind fun r=>zkl r (zl1 r.S)
def caO(prs:List PR)(F:Int)(g:Nat)(back:Bool)(i:Nat)(q:PR)(ss:List ByteArray)(r:RS):Out :=
 (zkE F r).bind fun r=>(zkl r (zlQ r.S q.ps ss)).bind (caR prs F g back i q.b)
theorem znZ{G:List PR->T->Prop}{g:Nat}(hS:IStC G g){C:RC}(hC:C.Ok){W:World}{r:RS}(h:RI C W r)(t:T)(v:Value)(back:Bool)(hv:NV C.w Any t v)(i:Nat)(hi:prcI C.p.prs t.s=some i)(q:PR)(hq:C.p.prs[i]?=some q)(hG1:∀u∈q.b.ks,G C.p.prs u)
  (aH:caO C.p.prs C.F g back i q (t.ks.map (·.s)) r ≠ .gas) :
  Calls Tryz.prog 183 #[.pointer (some ⟨C.rb,0,none⟩),v,.bool back] W (RunP C W (caO C.p.prs C.F g back i q (t.ks.map (·.s)) r)):=by
 have HV:=zh hv;have H:=zh h;have HS:=zh hS;have HC:=zh hC;obtain⟨hpi,hil⟩:=zpy _ _ _ hi;obtain⟨A,c,rfl,-,hlk,hlc,hrow⟩:=hv.open_;have ae:=zh hrow;have hb0:=zkb (zs W) (.cells #[.int .u8 t.k,.int .i64 t.n,.string t.s,.slice A t.ks.length c] 41);have k0:=heap_alloc_new W (.cells #[.int .u8 t.k,.int .i64 t.n,.string t.s,.slice A t.ks.length c] 41);obtain⟨x0,x1,x2,x3⟩:=box4 k0;have kg:=zh h.below;obtain⟨w1,hw1⟩:=zX (W.alloc (.cells #[.int .u8 t.k,.int .i64 t.n,.string t.s,.slice A t.ks.length c] 41));have hz1:w1.heap.size=W.heap.size+1:=by rw[<-hw1];simp
 rw[hw1]at hb0 k0 x0 x1 x2 x3;have hmk:=zzY t.ks.length (by unfold LK at hlk;omega);have hb1:=zkb hb0 (.cells (strA (List.replicate t.ks.length ⟨#[]⟩)) 9);have k1:=heap_alloc_new w1 (.cells (strA (List.replicate t.ks.length ⟨#[]⟩)) 9);have j0:=zkf k0 (.cells (strA (List.replicate t.ks.length ⟨#[]⟩)) 9);rw[hz1]at k1;rw[<-zxP]at hmk;have hz2:(w1.alloc (.cells (strA (argL t.ks 0)) 9)).heap.size=W.heap.size+2:=by simp[hz1]
 rw[<-zxP]at hb1 k1 j0;have HB1:=zh hb1;have K1:=zh k1;have J0:=zh j0;obtain⟨o,ho⟩:=zX (caO C.p.prs C.F g back i q (t.ks.map (·.s)) r);have bO:=zh ho;have HO:=zh (show(zkE C.F r).bind (fun r=>(zkl r (zlQ r.S q.ps (t.ks.map (·.s)))).bind (caR C.p.prs C.F g back i q.b))=o from ho);rw[ho]at aH ⊢;have dn:=zh aH;have HPI:=zh hpi;have vM:=zh hil;have HQ:=zh hq;have hlk2:t.ks.length<=17592186044416:=by unfold LK at hlk;omega
 have HZ2:=zh hz2;clear hv hb0 k0 h ho aH hrow hS hC hlk hpi hil hq hi hb1 k1 j0 hz2;go_enter Tryz.func183,Tryz.ntmps183;go_wp2_with fail;clear x0 x1 x2 x3 hw1 hmk;have jQ:=zh (fun j (hj:j<t.ks.length)=>zwY t.ks hj);have HAN:=zh (fun j (hj:j<=t.ks.length)=>zwZ t.ks hj)
 go_loopw [18] (fun x wr=>∃j:Nat,j<=t.ks.length/\x=.int .i64 j/\Hid (Below W.heap.size W wr)/\Hid (wr.heap[W.heap.size]?=some (.cells #[.int .u8 t.k,.int .i64 t.n,.string t.s,.slice A t.ks.length c] 41 (0,0)))/\Hid (wr.heap[W.heap.size+1]?=some (.cells (strA (argL t.ks j)) 9 (0,0)))) (fun x _=>t.ks.length-(intOf x).toNat)
 case atStart=>exact⟨0,Nat.zero_le _,rfl,HB1,J0,K1⟩
 case round =>
  obtain⟨j,hj,rfl,af,HJ,HK⟩:=hrel;clear HB1 J0 K1;by_cases hlt:j<t.ks.length
  ·obtain⟨a,u,Au,cu,rfl,-,Hu,⟨p0,p1,p2,p3⟩,-⟩:=ae.out.nd hlt;have hbb:=zka kg.out af.out;have q0:=zb hbb p0;have q1:=zb hbb p1;have q2:=zb hbb p2;have q3:=zb hbb p3;have hj1:(j:Int)<(t.ks.length:Int):=by omega
   have hj0:(0:Int)<=(j:Int):=by omega
   have kz:=zkf HK.out (.cells #[.int .u8 u.k,.int .i64 u.n,.string u.s,.slice Au u.ks.length cu] 41);have jz:=zkf HJ.out (.cells #[.int .u8 u.k,.int .i64 u.n,.string u.s,.slice Au u.ks.length cu] 41);have hbz:=zkb af.out (.cells #[.int .u8 u.k,.int .i64 u.n,.string u.s,.slice Au u.ks.length cu] 41);have zc:∃y,(strA (argL t.ks j))[j]?=some y:=⟨_,Array.getElem?_eq_getElem (by simp[strA,HAN.out j hj];exact hlt)⟩
   obtain⟨y,hy⟩:=zc;have zy:=zc kz hy;have zf:(wr.alloc (.cells #[.int .u8 u.k,.int .i64 u.n,.string u.s,.slice Au u.ks.length cu] 41)).frozen? ⟨W.heap.size+1,j,none⟩=false:=zf kz;have yM:=zh hbz;have HKZ:=zh kz;have HJZ:=zh jz;have hwlt:W.heap.size+1<wr.heap.size:=zkn HK.out;clear hbb p0 p1 p2 p3 kz jz hbz hy;go_wp2_with fail
   go_roundw
   case rel =>
    have hch:=(Chg.refl (fun b=>b=W.heap.size+1) wr).setCell (p:=⟨W.heap.size+1,j,none⟩) (.inl rfl) (.string u.s);refine⟨j+1,by omega,by go_num,zh (zkb (af.out.trans (hch.below af.out.size fun b e=>by omega)) _),zh (zkf (hch.keep HJ.out (by omega)) _),zh ?_⟩;have:=heap_setCell_same _ (W.heap.size+1) j _ _ (.string u.s) HK.out;refine zkf ?_ _;rw[this,<-jQ.out j hlt,Hu.out]
   case measure=>simp[intOf];omega
  ·obtain rfl:j=t.ks.length:=by omega
   rw[zw0]at HK;have hj1:¬ (t.ks.length:Int)<(t.ks.length:Int):=by omega
   have hrn:=H.out.n;have hel:=H.out.el;obtain⟨pa,q1,B1,d1,B2,d2,hA2,-,Hq1,⟨p0,p1,p2,p3,p4,p5⟩,hpr⟩:=HC.out.pg.procs.nd vM.out;obtain rfl:q=q1:=by
    have e:=HQ.out;rw[List.getElem?_eq_getElem vM.out,Hq1.out]at e;injection e with e;exact e.symm
   have HPRR:=zh hpr;have hbb:=zka kg.out af.out;have dw:=zh hbb;have gX:=zh (fun w' (hb:Below wr.heap.size wr w')=>znf C.p Any (pv C.A1 C.p.vs.length C.c1 C.A2 C.p.prs.length C.c2 C.p.m.k C.p.m.n C.p.m.s C.A3 C.p.m.ks.length C.c3) t.s w' ⟨_,_,_,_,_,_,rfl,HC.out.pg.later (zka dw.out hb)⟩);rw[HPI.out]at gX;have HXB:=zh (zkc H.out.box af.out);rw[hA2]at gX;have aO:Hid (wr.cell? ⟨C.rb,0,none⟩=some (.slice C.A1 C.p.vs.length C.c1)/\wr.cell? ⟨C.rb,1,none⟩=some (.slice (some pa) C.p.prs.length C.c2)/\wr.cell? ⟨C.rb,2,none⟩=some (.int .u8 C.p.m.k)/\wr.cell? ⟨C.rb,3,none⟩=some (.int .i64 C.p.m.n)/\wr.cell? ⟨C.rb,4,none⟩=some (.string C.p.m.s)/\wr.cell? ⟨C.rb,5,none⟩=some (.slice C.A3 C.p.m.ks.length C.c3)) :=
    zh ⟨zc HXB.out rfl,by rw[<-hA2];exact zc HXB.out rfl,zc HXB.out rfl,zc HXB.out rfl,zc HXB.out rfl,zc HXB.out rfl⟩
   have uE:=zh (show(i:Int)<(C.p.prs.length:Int) by have:=vM.out;omega);obtain⟨rb,hrb⟩:=zX (C.rb);obtain⟨z1,hz1⟩:=zX (C.A1);obtain⟨z2,hz2⟩:=zX (C.p.vs.length);obtain⟨z3,hz3⟩:=zX (C.c1);obtain⟨z5,oz⟩:=zX (C.p.prs.length);obtain⟨z6,eX⟩:=zX (C.c2);obtain⟨z7,jk⟩:=zX (C.p.m.k);obtain⟨z8,yV⟩:=zX (C.p.m.n);obtain⟨z9,xN⟩:=zX (C.p.m.s);obtain⟨z10,rH⟩:=zX (C.A3);obtain⟨z11,rG⟩:=zX (C.p.m.ks.length);obtain⟨z12,rF⟩:=zX (C.c3);rw[hz1,hz2,hz3,oz,eX,jk,yV,xN,rH,rG,rF]at gX;rw[hrb,hz1,hz2,hz3,oz,eX,jk,yV,xN,rH,rG,rF]at aO;have av:=zh (show ∀w',Below wr.heap.size wr w'->(fun w':World=>zv w' rb 0 (.slice z1 z2 z3)/\zv w' rb 1 (.slice (some pa) z5 z6)/\zv w' rb 2 (.int .u8 z7)/\zv w' rb 3 (.int .i64 z8)/\zv w' rb 4 (.string z9)/\zv w' rb 5 (.slice z10 z11 z12)/\zv w' W.heap.size 2 (.string t.s)) w' from fun w' hb=>by
    obtain⟨y0,y1,y2,y3,y4,y5⟩:=aO.out;exact⟨zb hb y0,zb hb y1,zb hb y2,zb hb y3,zb hb y4,zb hb y5,zb hb (zc HJ.out rfl)⟩)
   have gW:=zh (av.out _ zr.drew);have nY:=zh (show C.w.cell? (pa.add (i*6))=_/\_/\_/\_/\_/\_ from⟨p0,p1,p2,p3,p4,p5⟩);clear p0 p1 p2 p3 p4 p5 hpr hbb hz1 hz2 hz3 eX jk yV xN rH rG rF hel hrn hj1;have pG:=zh oz;rw[oz]at uE;clear oz;have di:=zh hrb;clear hrb hA2;rw[di.out];have hj1:¬ (t.ks.length:Int)<(t.ks.length:Int):=by omega
   go_upto_region 7 with fail
   go_region_held3 (fun w':World=>zv w' rb 0 (.slice z1 z2 z3)/\zv w' rb 1 (.slice (some pa) z5 z6)/\zv w' rb 2 (.int .u8 z7)/\zv w' rb 3 (.int .i64 z8)/\zv w' rb 4 (.string z9)/\zv w' rb 5 (.slice z10 z11 z12)/\zv w' W.heap.size 2 (.string t.s))
    (first|with_reducible exact dm.out|with_reducible exact gW.out)
    (first
     | (go_at_call 72;refine(gX.out _ zr.drew).mono ?_;rintro e y1 ⟨rfl,dV⟩;have b1:=zka (zs wr).drew dV;have dm:=zh (av.out _ b1))
     | fail)
   have hb1:=zka dw.out b1;have p0:=zb hb1 nY.out.1;have p1:=zb hb1 nY.out.2.1;have p2:=zb hb1 nY.out.2.2.1;have p3:=zb hb1 nY.out.2.2.2.1;have p4:=zb hb1 nY.out.2.2.2.2.1;have p5:=zb hb1 nY.out.2.2.2.2.2;obtain⟨-,e1,-⟩:=dm.out;have hi1:=uE.out;have hi0:(0:Int)<=(i:Int):=by omega
   have fJ:=zkb (zka af.out b1) (.cells #[.string q.s,.slice B1 q.ps.length d1,.int .u8 q.b.k,.int .i64 q.b.n,.string q.b.s,.slice B2 q.b.ks.length d2] 75);have k0:=zkf (zkc HJ.out b1) (.cells #[.string q.s,.slice B1 q.ps.length d1,.int .u8 q.b.k,.int .i64 q.b.n,.string q.b.s,.slice B2 q.b.ks.length d2] 75);have k1:=zkf (zkc HK.out b1) (.cells #[.string q.s,.slice B1 q.ps.length d1,.int .u8 q.b.k,.int .i64 q.b.n,.string q.b.s,.slice B2 q.b.ks.length d2] 75);have k2:=heap_alloc_new y1 (.cells #[.string q.s,.slice B1 q.ps.length d1,.int .u8 q.b.k,.int .i64 q.b.n,.string q.b.s,.slice B2 q.b.ks.length d2] 75);obtain⟨pb,hpb⟩:=zX (y1.heap.size);have hpl:W.heap.size<=pb:=by rw[<-hpb];exact(zka af.out b1).size
   obtain⟨w5,il⟩:=zX (y1.alloc (.cells #[.string q.s,.slice B1 q.ps.length d1,.int .u8 q.b.k,.int .i64 q.b.n,.string q.b.s,.slice B2 q.b.ks.length d2] 75));rw[il]at fJ k0 k1;rw[hpb,il]at k2;have bS:=zh (Kpt.of_below (n0:=C.n0) (kb:=C.kb) fJ);obtain⟨yg,h5⟩:=H.out.plus HC.out fJ;have l0:=zkn k0;have l1:=zkn k1;have l2:=zkn k2;obtain⟨hi,hhi⟩:=zX (w5.heap.size);rw[hhi]at yg h5 l0 l1 l2;have eH:=zh yg;have K0:=zh k0;have K1:=zh k1;have K2:=zh k2;have HST:=zh (zlX yg h5);rw[show(C.plus W.heap.size hi).rb=rb from di.out]at HST;have wZ:=zh hpl;obtain⟨ss,hss⟩:=zX (t.ks.map (·.s));have qK:=zh (show ss.length=t.ks.length by rw[<-hss];simp);rw[hss]at HO K1;clear hb1 b1 dV dm av gW fJ k0 k1 k2 yg h5 nY hpl aO gX jQ HAN HK HJ hss;go_upto_region 9 with fail;clear p0 p1 p2 p3 p4 p5 e1 il hpb;go_wp2_with fail;refine HST.out.mono ?_;rintro e w6 ⟨bC,hb6,kF⟩
   have dO:=zh (bS.out.trans (Kpt.less (C:=C) bC));have aV:=zh (show Below C.w.heap.size C.w w6 from hb6);have bY:match zkE C.F r with
    | .gas=>True
    | .err x=>e=zlC x
    | .ok r=>(∃u,e=.returned u)/\RI (C.plus W.heap.size hi) w6 r:=kF
   have uD:=zh bC;clear HST bC hb6 kF
   cases hy:zkE C.F r with
   | gas=>exact absurd (by rw[<-HO.out,hy];rfl) dn.out
   | err x =>
    rw[hy]at bY;subst bY;refine⟨rfl,dO.out,aV.out,?_⟩
    try rw[bO.out]
    rw[<-HO.out,hy];rfl
   | ok r1 =>
    rw[hy]at bY;obtain⟨⟨u3,rfl⟩,hr1⟩:=bY;have gH:=zh hr1;have pW:=zh (show(zkl r1 (zlQ r1.S q.ps ss)).bind (caR C.p.prs C.F g back i q.b)=o by rw[<-HO.out,hy];rfl);have bT:=zh (show FB r.n r1.S/\r1.n=r.n+1/\r1.ent=r.ent by obtain⟨rfl,-⟩:=zlx hy;exact⟨H.out.fb,rfl,rfl⟩);have j2:=uD.out.blk (.inr (.inr ⟨wZ.out,l2⟩)) K2.out;have hSS:zW (fun w':World=>zv w' rb 6 (.pointer (some ⟨C.sb,0,none⟩))/\zv w' pb 1 (.slice B1 q.ps.length d1)) zU w6.drew:=⟨⟨by rw[<-di.out];exact hr1.cells.1,zc j2 rfl⟩,trivial⟩
    clear hr1 hy j2;go_upto_region 10 with fail;refine zG hSS 9 ?_;refine zT 0 hSS ?_;refine zT 1 hSS ?_;refine zT 2 hSS ?_;refine zT 3 hSS ?_;refine zT 4 hSS ?_;refine zT 5 hSS ?_;refine zT 6 hSS ?_;refine zT 7 hSS ?_;obtain⟨R,hR⟩:=zX (zlQ r1.S q.ps ss);have HRR:=zh hR;have hbd:Below w6.heap.size w6 w6.drew:=zr.drew;have hpq:q.ps.length<=1000:=HC.out.ps q (List.mem_of_getElem? HQ.out);have hen:=(gH.out.later hbd).ks.enter q.ps ss B1 (some ⟨W.heap.size+1,0,none⟩) d1 t.ks.length (HPRR.out.row.later (zka aV.out hbd)) ((zvS (uD.out.blk (.inr (.inr ⟨Nat.le_succ _,l1⟩)) K1.out)).later hbd) (by omega) (by rw[qK.out];exact hlk2);rw[qK.out]at hen
    have had:Calls Tryz.prog 203 [.pointer (some ⟨C.sb,0,none⟩),.slice B1 q.ps.length d1,.slice (some ⟨W.heap.size+1,0,none⟩) t.ks.length t.ks.length].toArray w6.drew fun e w'=>∃v,e=.returned v/\(v=.int .i64 R.1/\RI (C.plus W.heap.size hi) w' { r1 with S:=R.2 }/\Kpt C.n0 (C.plus W.heap.size hi).kb w6 w') :=
     hen.mono fun e w' ⟨h1,h2,h3⟩=>by
      have hs:=RI.store (C:=C.plus W.heap.size hi) (gH.out.later hbd) (hR▸h2) h3 (by rw[bT.out.2.1,<-hR];exact bT.out.1.enter _ _ hpq);exact⟨_,h1,by rw[hR],hs.1,(Kpt.of_below hbd).trans hs.2⟩
    refine zo 8 fun K hK=>?_;refine zlr (by rfl) (.func 203) [.tmp 50,.tmp 52,.tmp 53] _ (by rfl) 203 _ zwE (by rfl) _ (by rfl) _ had ?_;rintro v7 w7 ⟨rfl,nP,wC⟩;have uC:=zh (uD.out.trans wC);have j2:=uC.out.blk (.inr (.inr ⟨wZ.out,l2⟩)) K2.out;have nX:=zh nP;have tu:(fun w':World=>zv w' rb 6 (.pointer (some ⟨C.sb,0,none⟩))/\zv w' pb 1 (.slice B1 q.ps.length d1)) w7:=⟨by rw[<-di.out];exact nP.cells.1,zc j2 rfl⟩
    refine hK.out _ _ ⟨tu,trivial⟩ ?_;have HS7:=zh tu;have uN:=zh nP.below;clear hK K had nP wC j2 tu hSS hen;(try simp only[zQ]);have xq:=zh (bS.out.trans (Kpt.less (C:=C) uC.out));rw[hR]at pW;have had:=zlc ⟨rb,0,none⟩ R.1 w7;refine zp 9 fun K hK=>?_;refine zk2 (by rfl) (.func 180) [.tmp 46,.tmp 54] _ (by rfl) 180 _ zme (by rfl) _ (by rfl) (fun v w'=>w'=w7/\R.1=0) (had.mono ?_) ?_
    ·rintro e y1 ⟨rfl,hv1⟩;rcases hv1 with⟨h0,u0,rfl⟩|⟨h0,rfl⟩
     ·exact .inl ⟨_,rfl,rfl,h0⟩
     ·refine .inr ⟨_,rfl,?_⟩;refine⟨rfl,xq.out,uN.out,?_⟩
      try rw[bO.out]
      rw[<-pW.out,show zkl r1 R=.err R.1 by unfold zkl;rw[if_pos h0]];rfl
    rintro v8 w8 ⟨rfl,h0⟩;have kT:=zh (show caR C.p.prs C.F g back i q.b { r1 with S:=R.2 }=o by rw[<-pW.out,show zkl r1 R=.ok { r1 with S:=R.2 } by unfold zkl;rw[if_neg (by simpa using h0)]];rfl);refine hK.out _ _ HS7.out ?_;clear hK K had h0;(try simp only[zQ]);refine zd ?_;obtain⟨r2,hr2⟩:=zX (({ r1 with S:=R.2 }:RS));rw[hr2]at nX kT;have he2:r2.ent.length=C.p.prs.length:=nX.out.el;have hi2:i<r2.ent.length:=by rw[he2];exact vM.out
    have hn2:r2.ent.getD i 0+1<=r2.n:=by
     rw[<-hr2];simp only;rw[bT.out.2.2,bT.out.2.1,List.getD_eq_getElem?_getD,List.getElem?_eq_getElem (by rw[H.out.el];exact vM.out)];have:=H.out.en _ (List.getElem_mem (l:=r.ent) (n:=i) (by rw[H.out.el];exact vM.out));simp only[Option.getD_some];omega
    obtain⟨eg,ec,hev,hcz,hcf,hrc,hkc⟩:=nX.out.count eH.out hi2 hn2;have hev':C.ev=.slice (some ⟨eg,0,none⟩) r2.ent.length ec:=hev;obtain⟨-,-,-,e9,-⟩:=nX.out.cells;have e9':w8.cell? ⟨rb,9,none⟩=some (.slice (some ⟨eg,0,none⟩) z5 ec):=by
     rw[<-di.out,<-pG.out,<-he2,<-hev'];exact e9
    have hnn:=nX.out.n;have yX:IntKind.i64.wrap ((r2.ent.getD i 0:Nat)+1:Int)=((r2.ent.getD i 0+1:Nat):Int):=by rw[IntWalk.i64_in _ (by omega)];omega
    have jX:=zh (show(runO C.p.prs C.F g back q.b { r2 with ent:=r2.ent.set i (r2.ent.getD i 0+1) }).bind (fun r=>(zkE C.F r).bind fun r=>zkl r (zl1 r.S))=o from kT.out);obtain⟨e0,he0⟩:=zX (r2.ent.getD i 0);rw[he0]at hcz hrc hkc yX jX;obtain⟨w9,dx⟩:=zX (w8.setCell ⟨eg,i,none⟩ (.int .i64 ((e0+1:Nat):Int)));rw[dx]at hrc hkc;obtain⟨r3,hr3⟩:=zX (({ r2 with ent:=r2.ent.set i (e0+1) }:RS));rw[hr3]at hrc jX;have bI:=zh hrc;have uB:=zh (uC.out.trans hkc);have gY:=zh (bS.out.trans (Kpt.less (C:=C) uB.out));have aG:=zh (show Below C.w.heap.size C.w w9 from hrc.below);have j2:=uB.out.blk (.inr (.inr ⟨wZ.out,l2⟩)) K2.out;have hgu:runO C.p.prs C.F g back q.b r3 ≠ .gas:=fun e=>dn.out (by rw[<-jX.out,e];rfl);have aC:=zh (zlf HS.out eH.out bI.out q.b _ back HPRR.out.body hG1 hgu);rw[show(C.plus W.heap.size hi).rb=rb from di.out]at aC;have HJ2:=zh j2
    have hi1:=uE.out;have hi0:(0:Int)<=(i:Int):=by omega
    rw[show((e0+1:Nat):Int)=(e0:Int)+1 by omega]at yX dx;clear hr2 he2 hi2 hn2 hev hev' e9 hnn he0 hr3 hrc hkc j2 hgu hG1 kT HS7 hbd hpq hR;go_upto_region 12 with fail;clear dx hcz hcf e9' yX;have q2:w9.cell? ⟨pb,2,none⟩=some (.int .u8 q.b.k):=zc HJ2.out rfl;have q3:w9.cell? ⟨pb,3,none⟩=some (.int .i64 q.b.n):=zc HJ2.out rfl;have q4:w9.cell? ⟨pb,4,none⟩=some (.string q.b.s):=zc HJ2.out rfl;have q5:w9.cell? ⟨pb,5,none⟩=some (.slice B2 q.b.ks.length d2):=zc HJ2.out rfl;go_wp2_with fail;refine aC.out.mono ?_;rintro e aT ⟨hk10,hb10,ho10⟩;have HK510:=zh (uB.out.trans hk10);have HK10:=zh (bS.out.trans (Kpt.less (C:=C) HK510.out));have dE:=zh (show Below C.w.heap.size C.w aT from hb10);have jT:match runO C.p.prs C.F g back q.b r3 with
     | .gas=>True
     | .err x=>e=zlC x
     | .ok r=>(∃u,e=.returned u)/\RI (C.plus W.heap.size hi) aT r:=ho10
    clear q2 q3 q4 q5 hk10 hb10 ho10 aC
    cases hx:runO C.p.prs C.F g back q.b r3 with
    | gas=>exact absurd (by rw[<-jX.out,hx];rfl) dn.out
    | err x =>
     rw[hx]at jT;subst jT;refine⟨rfl,HK10.out,dE.out,?_⟩
     try rw[bO.out]
     rw[<-jX.out,hx];rfl
    | ok r4 =>
     rw[hx]at jT;obtain⟨⟨u9,rfl⟩,hr4⟩:=jT;have HST:=zh (zlX eH.out hr4);rw[show(C.plus W.heap.size hi).rb=rb from di.out]at HST;have fM:=zh (show((zkE C.F r4).bind fun r=>zkl r (zl1 r.S))=o by rw[<-jX.out,hx];rfl);have pU:=zh hr4;clear hx hr4;go_wp2_with fail;refine HST.out.mono ?_;rintro e aQ ⟨iy,pE,oL⟩;have HK511:=zh (HK510.out.trans iy);have dB:=zh (bS.out.trans (Kpt.less (C:=C) HK511.out));have bM:=zh (show Below C.w.heap.size C.w aQ from pE);have jS:match zkE C.F r4 with
      | .gas=>True
      | .err x=>e=zlC x
      | .ok r=>(∃u,e=.returned u)/\RI (C.plus W.heap.size hi) aQ r:=oL
     clear iy pE oL HST
     cases hy:zkE C.F r4 with
     | gas=>exact absurd (by rw[<-fM.out,hy];rfl) dn.out
     | err x =>
      rw[hy]at jS;subst jS;refine⟨rfl,dB.out,bM.out,?_⟩
      try rw[bO.out]
      rw[<-fM.out,hy];rfl
     | ok r5 =>
      rw[hy]at jS;obtain⟨⟨u9,rfl⟩,ky⟩:=jS;have kR:=zh ky;have iQ:=zh (show FB r4.n r5.S/\r5.n=r4.n+1 by obtain⟨rfl,-⟩:=zlx hy;exact⟨pU.out.fb,rfl⟩);obtain⟨Rc,lF⟩:=zX (zl1 r5.S);have iK:=zh (show zkl r5 Rc=o by rw[<-fM.out,hy,<-lF];rfl);have y6:aQ.cell? ⟨rb,6,none⟩=some (.pointer (some ⟨C.sb,0,none⟩)):=by rw[<-di.out];exact ky.cells.1
      clear ky hy;go_wp2_with fail;refine(kR.out.ks.leave).mono ?_;rintro e iR ⟨rfl,h2,h3⟩;have hs:=RI.store (C:=C.plus W.heap.size hi) kR.out h2 h3 (by rw[iQ.out.2];exact iQ.out.1.leave);rw[lF]at hs ⊢;have mW:=zh hs.1;have HK512:=zh (HK511.out.trans hs.2);have gQ:=zh hs.1.below;have jI:=zh (bS.out.trans (Kpt.less (C:=C) HK512.out));clear hs h2 h3 y6;go_wp2_with fail;refine(zlc ⟨rb,0,none⟩ Rc.1 iR).mono ?_;rintro e y1 ⟨rfl,hv1⟩;rcases hv1 with⟨h0,u0,rfl⟩|⟨h0,rfl⟩
      ·have gL:=zh (show o=.ok { r5 with S:=Rc.2 } by rw[<-iK.out];unfold zkl;rw[if_neg (by simpa using h0)]);have uj:=zh mW.out.less;clear h0;go_wp2_with fail;go_end0;refine⟨jI.out,gQ.out,?_⟩
       try rw[bO.out]
       rw[gL.out];exact⟨⟨_,rfl⟩,uj.out⟩
      ·refine⟨rfl,jI.out,gQ.out,?_⟩
       try rw[bO.out]
       rw[<-iK.out,show zkl r5 Rc=.err Rc.1 by unfold zkl;rw[if_pos h0]]
theorem zq3{G:List PR->T->Prop}{g:Nat}(hS:IStC G g){C:RC}(hC:C.Ok){W:World}{r:RS}(h:RI C W r)(t:T)(v:Value)(back:Bool)(hv:NV C.w Any t v)(hk0:t.k=50)(i:Nat)(hi:prcI C.p.prs t.s=some i)(q:PR)(hq:C.p.prs[i]?=some q)(hG1:∀u∈q.b.ks,G C.p.prs u)
  (o:Out)(ho:caO C.p.prs C.F g back i q (t.ks.map (·.s)) r=o)(hog:o ≠ .gas) :
  Calls Tryz.prog 137 #[.pointer (some ⟨C.rb,0,none⟩),v,.bool back] W (RunP C W o):=by
 have aH:=hog
 cases back
 ·skip
  obtain⟨k,n,s,ks⟩:=t;obtain rfl:k=50:=hk0;obtain⟨A,c,rfl,-,hlk,hlc,-⟩:=hv.open_;have hb0:=zkb (zs W) (.cells #[.int .u8 50,.int .i64 n,.string s,.slice A ks.length c] 41);obtain⟨x0,x1,x2,x3⟩:=box4 (heap_alloc_new W (.cells #[.int .u8 50,.int .i64 n,.string s,.slice A ks.length c] 41));have aD:=zh (Kpt.of_below (n0:=C.n0) (kb:=C.kb) hb0);have aZ:=zh (show Calls Tryz.prog 183 #[.pointer (some ⟨C.rb,0,none⟩),.agg #[.int .u8 50,.int .i64 n,.string s,.slice A ks.length c],.bool false] (W.alloc (.cells #[.int .u8 50,.int .i64 n,.string s,.slice A ks.length c] 41)) (RunP C _ o)from ho▸(znZ hS hC (h.later hb0) _ _ false hv i hi q hq hG1 (ho▸hog)));clear hv hb0 h aH hG1 ho hi hq;go_enter Tryz.func137,Tryz.ntmps137;go_wp2_with fail;refine aZ.out.mono ?_;rintro e w1 ⟨hk1,hb1,ho1⟩
  cases o with
  | gas=>exact absurd rfl hog
  | err x =>
   subst ho1;exact⟨rfl,aD.out.trans hk1,hb1,rfl⟩
  | ok r1 =>
   obtain⟨⟨u,rfl⟩,hr1⟩:=ho1;have HR:=zh hr1;have az:=zh (aD.out.trans hk1);have HB1:=zh hb1;clear x0 x1 x2 x3 hr1 hk1 hb1;go_wp2_with fail;go_end0;exact⟨az.out,HB1.out,⟨_,rfl⟩,HR.out⟩
 ·skip
  obtain⟨k,n,s,ks⟩:=t;obtain rfl:k=50:=hk0;obtain⟨A,c,rfl,-,hlk,hlc,-⟩:=hv.open_;have hb0:=zkb (zs W) (.cells #[.int .u8 50,.int .i64 n,.string s,.slice A ks.length c] 41);obtain⟨x0,x1,x2,x3⟩:=box4 (heap_alloc_new W (.cells #[.int .u8 50,.int .i64 n,.string s,.slice A ks.length c] 41));have aD:=zh (Kpt.of_below (n0:=C.n0) (kb:=C.kb) hb0);have aZ:=zh (show Calls Tryz.prog 183 #[.pointer (some ⟨C.rb,0,none⟩),.agg #[.int .u8 50,.int .i64 n,.string s,.slice A ks.length c],.bool true] (W.alloc (.cells #[.int .u8 50,.int .i64 n,.string s,.slice A ks.length c] 41)) (RunP C _ o)from ho▸(znZ hS hC (h.later hb0) _ _ true hv i hi q hq hG1 (ho▸hog)));clear hv hb0 h aH hG1 ho hi hq;go_enter Tryz.func137,Tryz.ntmps137;go_wp2_with fail;refine aZ.out.mono ?_;rintro e w1 ⟨hk1,hb1,ho1⟩
  cases o with
  | gas=>exact absurd rfl hog
  | err x =>
   subst ho1;exact⟨rfl,aD.out.trans hk1,hb1,rfl⟩
  | ok r1 =>
   obtain⟨⟨u,rfl⟩,hr1⟩:=ho1;have HR:=zh hr1;have az:=zh (aD.out.trans hk1);have HB1:=zh hb1;clear x0 x1 x2 x3 hr1 hk1 hb1;go_wp2_with fail;go_end0;exact⟨az.out,HB1.out,⟨_,rfl⟩,HR.out⟩
theorem zq2{G:List PR->T->Prop}{g:Nat}(hS:IStC G g){C:RC}(hC:C.Ok){W:World}{r:RS}(h:RI C W r)(t:T)(v:Value)(back:Bool)(hv:NV C.w Any t v)(hk0:t.k=51)(i:Nat)(hi:prcI C.p.prs t.s=some i)(q:PR)(hq:C.p.prs[i]?=some q)(hG1:∀u∈q.b.ks,G C.p.prs u)
  (o:Out)(ho:caO C.p.prs C.F g (!back) i q (t.ks.map (·.s)) r=o)(hog:o ≠ .gas) :
  Calls Tryz.prog 137 #[.pointer (some ⟨C.rb,0,none⟩),v,.bool back] W (RunP C W o):=by
 have aH:=hog
 cases back
 ·skip
  change caO C.p.prs C.F g true i q (t.ks.map (·.s)) r=o at ho;obtain⟨k,n,s,ks⟩:=t;obtain rfl:k=51:=hk0;obtain⟨A,c,rfl,-,hlk,hlc,-⟩:=hv.open_;have hb0:=zkb (zs W) (.cells #[.int .u8 51,.int .i64 n,.string s,.slice A ks.length c] 41);obtain⟨x0,x1,x2,x3⟩:=box4 (heap_alloc_new W (.cells #[.int .u8 51,.int .i64 n,.string s,.slice A ks.length c] 41));have aD:=zh (Kpt.of_below (n0:=C.n0) (kb:=C.kb) hb0);have aZ:=zh (show Calls Tryz.prog 183 #[.pointer (some ⟨C.rb,0,none⟩),.agg #[.int .u8 51,.int .i64 n,.string s,.slice A ks.length c],.bool true] (W.alloc (.cells #[.int .u8 51,.int .i64 n,.string s,.slice A ks.length c] 41)) (RunP C _ o)from ho▸(znZ hS hC (h.later hb0) _ _ true hv i hi q hq hG1 (ho▸hog)));clear hv hb0 h aH hG1 ho hi hq;go_enter Tryz.func137,Tryz.ntmps137;go_wp2_with fail;refine aZ.out.mono ?_;rintro e w1 ⟨hk1,hb1,ho1⟩
  cases o with
  | gas=>exact absurd rfl hog
  | err x =>
   subst ho1;exact⟨rfl,aD.out.trans hk1,hb1,rfl⟩
  | ok r1 =>
   obtain⟨⟨u,rfl⟩,hr1⟩:=ho1;have HR:=zh hr1;have az:=zh (aD.out.trans hk1);have HB1:=zh hb1;clear x0 x1 x2 x3 hr1 hk1 hb1;go_wp2_with fail;go_end0;exact⟨az.out,HB1.out,⟨_,rfl⟩,HR.out⟩
 ·skip
  change caO C.p.prs C.F g false i q (t.ks.map (·.s)) r=o at ho;obtain⟨k,n,s,ks⟩:=t;obtain rfl:k=51:=hk0;obtain⟨A,c,rfl,-,hlk,hlc,-⟩:=hv.open_;have hb0:=zkb (zs W) (.cells #[.int .u8 51,.int .i64 n,.string s,.slice A ks.length c] 41);obtain⟨x0,x1,x2,x3⟩:=box4 (heap_alloc_new W (.cells #[.int .u8 51,.int .i64 n,.string s,.slice A ks.length c] 41));have aD:=zh (Kpt.of_below (n0:=C.n0) (kb:=C.kb) hb0);have aZ:=zh (show Calls Tryz.prog 183 #[.pointer (some ⟨C.rb,0,none⟩),.agg #[.int .u8 51,.int .i64 n,.string s,.slice A ks.length c],.bool false] (W.alloc (.cells #[.int .u8 51,.int .i64 n,.string s,.slice A ks.length c] 41)) (RunP C _ o)from ho▸(znZ hS hC (h.later hb0) _ _ false hv i hi q hq hG1 (ho▸hog)));clear hv hb0 h aH hG1 ho hi hq;go_enter Tryz.func137,Tryz.ntmps137;go_wp2_with fail;refine aZ.out.mono ?_;rintro e w1 ⟨hk1,hb1,ho1⟩
  cases o with
  | gas=>exact absurd rfl hog
  | err x =>
   subst ho1;exact⟨rfl,aD.out.trans hk1,hb1,rfl⟩
  | ok r1 =>
   obtain⟨⟨u,rfl⟩,hr1⟩:=ho1;have HR:=zh hr1;have az:=zh (aD.out.trans hk1);have HB1:=zh hb1;clear x0 x1 x2 x3 hr1 hk1 hb1;go_wp2_with fail;go_end0;exact⟨az.out,HB1.out,⟨_,rfl⟩,HR.out⟩
structure GC(G:List PR->T->Prop):Prop where
 two:∀prs t,G prs t->(t.k=52\/t.k=53)->t.ks.length=4/\(∀u∈(kid t 1).ks,G prs u)/\∀u∈(kid t 2).ks,G prs u
 loc:∀prs t,G prs t->t.k=54->t.ks.length=3/\∀u∈(kid t 1).ks,G prs u
 stk:∀prs t,G prs t->t.k=55->t.ks.length=1/\∀u∈(kid t 0).ks,G prs u
 cal:∀prs t,G prs t->(t.k=50\/t.k=51)->∃i q,prcI prs t.s=some i/\prs[i]?=some q/\∀u∈q.b.ks,G prs u
theorem getD_some{prs:List PR}{i:Nat}{q:PR}(h:prs[i]?=some q):prs.getD i ⟨⟨#[]⟩,[],nil0⟩=q:=by
 rw[List.getD_eq_getElem?_getD,h];rfl
theorem zrO{G:List PR->T->Prop}(hG:GC G):∀g,IStC G g
 | 0=>fun C hC W r h t v back hv vg hg=>absurd rfl hg
 | g+1=>fun C hC W r h t v back hv vg hg=>by
  have hS:=zrO hG g;by_cases lH:t.k=52
  ·obtain⟨h1,h2,h3⟩:=hG.two _ _ vg (.inl lH);have e:zkA C.p.prs C.F (g+1) back t r=brO C.p.prs C.F g back t r:=by rw[zkA,if_pos lH];rfl
   rw[e]at hg ⊢;exact zx6 hS hC h t v back hv lH h1 h2 h3 _ rfl hg
  by_cases mI:t.k=53
  ·obtain⟨h1,h2,h3⟩:=hG.two _ _ vg (.inr mI);have e:zkA C.p.prs C.F (g+1) back t r=lpO C.p.prs C.F g back t r:=by rw[zkA,if_neg lH,if_pos mI];rfl
   rw[e]at hg ⊢;exact ztz hS hC h t v back hv mI h1 h2 h3 _ rfl hg
  by_cases eP:t.k=54
  ·obtain⟨h1,h2⟩:=hG.loc _ _ vg eP;have e:zkA C.p.prs C.F (g+1) back t r=loO C.p.prs C.F g back t r:=by rw[zkA,if_neg lH,if_neg mI,if_pos eP];rfl
   rw[e]at hg ⊢;exact zsC hS hC h t v back hv eP h1 h2 _ rfl hg
  by_cases fu:t.k=55
  ·obtain⟨h1,h2⟩:=hG.stk _ _ vg fu;have e:zkA C.p.prs C.F (g+1) back t r=lsO C.p.prs C.F g back t r:=by rw[zkA,if_neg lH,if_neg mI,if_neg eP,if_pos fu];rfl
   rw[e]at hg ⊢;exact zx5 hS hC h t v back hv fu h1 h2 hg
  by_cases h5:t.k=50\/t.k=51
  ·obtain⟨i,q,hi,hq,hb⟩:=hG.cal _ _ vg h5;have e:zkA C.p.prs C.F (g+1) back t r=caO C.p.prs C.F g (back != decide (t.k=51)) i q (t.ks.map (·.s)) r:=by
    rw[zkA,if_neg lH,if_neg mI,if_neg eP,if_neg fu,if_pos h5,hi];dsimp only;rw[getD_some hq];rfl
   rw[e]at hg ⊢;rcases h5 with h50|lI
   ·have e2:(back != decide (t.k=51))=back:=by rw[show decide (t.k=51)=false by simp[h50]];cases back<;>rfl
    rw[e2]at hg ⊢;exact zq3 hS hC h t v back hv h50 i hi q hq hb _ rfl hg
   ·have e2:(back != decide (t.k=51)) = !back:=by rw[show decide (t.k=51)=true by simp[lI]];cases back<;>rfl
    rw[e2]at hg ⊢;exact zq2 hS hC h t v back hv lI i hi q hq hb _ rfl hg
  ·have e:zkA C.p.prs C.F (g+1) back t r=basO C.F back t r:=by
    rw[zkA,if_neg lH,if_neg mI,if_neg eP,if_neg fu,if_neg h5];rfl
   rw[e];exact zvT hC h t v back hv ⟨lH,mI,eP,fu,fun h=>h5 (.inl h),fun h=>h5 (.inr h)⟩
theorem zsg(jb:Nat)(w:World)(h:w.cell? ⟨jb,0,none⟩=some (.slice none 0 0)):Calls Tryz.prog 134 #[.pointer (some ⟨jb,0,none⟩)] w fun e w'=>e=.returned (.int .i64 0)/\w'=w:=by
 go_enter Tryz.func134,Tryz.ntmps134;go_wp2_with fail;go_ret;exact⟨rfl,rfl⟩
theorem zzN:IsFn Tryz.prog 134 Tryz.f134:=⟨Tryz.func134,by kernel_rfl,by kernel_rfl⟩
theorem zxU{P:Program}{c:Code}{Q Q':Exit->Act->World->Prop}{a:Act}{w:World}(h:c.wp P Q a w)(hQ:∀e a' w',Q e a' w'->Q' e a' w'):c.wp P Q' a w :=
 fun b k cs=>let ⟨e,a',w',q,r⟩:=h b k cs;⟨e,a',w',hQ _ _ _ q,r⟩
theorem zyh(C:World->Prop):∃Q:Exit->Act->World->Prop,(∀a' w',a'.defers=[]->C w'->Q .normal a' w')/\∀e a' w',Q e a' w'->e=.normal/\a'.defers=[]/\C w' :=
 ⟨fun e a' w'=>e=.normal/\a'.defers=[]/\C w',fun _ _ h1 h2=>⟨rfl,h1,h2⟩,fun _ _ _ h=>h⟩
theorem tAss(x:Int)(w:World):(Instr.typeAssert (.iface 198 (.agg #[.int .i64 x])) 20 198 true).run Tryz.prog w=.ok (.tuple #[.agg #[.int .i64 x],.bool true]) w:=by kernel_rfl
theorem zwX(a b c:Value)(w:World) :
  CallsD Tryz.prog 135 #[a,b,c] .returning w fun e u' w'=>e=.returned (.tuple #[])/\u'=.returning/\w'=w:=by
 refine callsD_of_wpS Tryz.func135 rfl fun c₀ cs hu=>?_;apply wpS_seq;apply wpS_region;simp[wpOpsS,go_sem,recoverD,hu,Tryz.ntmps135,Exit.thenS];apply wpS_seq;apply wpS_seq;apply wpS_region;simp[wpOpsS,go_sem,Exit.thenS];refine wpS_cond (t:=true) (by simp[Act.eval,Array.replicate]) ?_;simp only[if_true];refine wpS_of_wp (wp_ret ?_)
 cases c₀
 simp_all [bodyPostS,results,Tryz.results135,Exit.thenS]
theorem zu1(a2 a5 a4 jb:Nat)(x y:Int)(w:World)(h2:w.cell? ⟨a2,0,none⟩=some (.pointer (some ⟨jb,0,none⟩)))(h5:w.cell? ⟨a5,0,none⟩=some (.int .i64 0))(hj:w.cell? ⟨jb,0,none⟩=some (.slice none 0 0))(h4:w.cell? ⟨a4,0,none⟩=some (.int .i64 y))(hf:w.frozen? ⟨a4,0,none⟩=false) :
  CallsD Tryz.prog 135 #[.pointer (some ⟨a2,0,none⟩),.pointer (some ⟨a5,0,none⟩),.pointer (some ⟨a4,0,none⟩)] (.panicking [{ v:=.iface 198 (.agg #[.int .i64 x]),recovered:=false }]) w fun e u' w' =>
   e=.returned (.tuple #[])/\u'=.panicking [{ v:=.iface 198 (.agg #[.int .i64 x]),recovered:=true }]/\w'.cell? ⟨a4,0,none⟩=some (.int .i64 x)/\Chg (fun b=>b=a4) w w':=by
 refine callsD_of_wpS Tryz.func135 rfl fun c₀ cs hu=>?_;apply wpS_seq;apply wpS_region;simp[wpOpsS,go_sem,recoverD,hu,Tryz.ntmps135,Exit.thenS];apply wpS_seq;apply wpS_seq;apply wpS_region;simp[wpOpsS,go_sem,Exit.thenS];refine wpS_cond (t:=false) (by simp[Act.eval,Array.replicate]) ?_;simp only[Bool.false_eq_true,if_false];refine wpS_of_wp (wp_skip ?_);refine wpS_of_wp ?_;obtain⟨Q,u7,hQ2⟩:=zyh (fun w'=>w'.cell? ⟨a4,0,none⟩=some (.int .i64 x)/\Chg (fun b=>b=a4) w w');refine zxU (Q:=Q) ?_ ?_;rotate_left 1
 ·intro e a' w' hq;obtain⟨rfl,h1,h2⟩:=hQ2 _ _ _ hq
  cases c₀
  simp_all [bodyPostS,results,Tryz.results135,Exit.thenS]
 have HQ:=zh u7;clear u7 hQ2 hu;refine Eq.mp (congrArg (fun t=>Code.wp Tryz.prog _ Q ⟨t,[]⟩ w) (?e:(#[.pointer (some ⟨a2,0,none⟩),.pointer (some ⟨a5,0,none⟩),.pointer (some ⟨a4,0,none⟩),.iface 198 (.agg #[.int .i64 x]),undef,undef,.iface 198 (.agg #[.int .i64 x]),.iface 198 (.agg #[.int .i64 x]),.bool false,undef,undef,undef,undef,undef,undef,undef,undef,undef,undef,undef,undef,undef,undef,undef,undef,undef]:Array Value)=_)) ?_
 case e=>kernel_rfl
 go_upto_region 2 with fail;have HS:=zh (show ∀w',Below w.heap.size w w'->(fun w':World=>zv w' a2 0 (.pointer (some ⟨jb,0,none⟩))/\zv w' a5 0 (.int .i64 0)) w' from fun w' hb=>⟨zb hb h2,zb hb h5⟩);have dH:=zh (fun w' (hb:Below w.heap.size w w')=>zsg jb w' (zb hb hj));have hSS:zW (fun w':World=>zv w' a2 0 (.pointer (some ⟨jb,0,none⟩))/\zv w' a5 0 (.int .i64 0)) zU w.drew:=⟨HS.out _ zr.drew,trivial⟩
 refine wp_region_noPanic ?_;refine zG hSS 3 ?_;refine zT 0 hSS ?_;refine zT 2 hSS ?_;have had:Calls Tryz.prog 134 [.pointer (some ⟨jb,0,none⟩)].toArray w.drew fun e w'=>∃v,e=.returned v/\(v=.int .i64 0/\w'=w.drew):=(dH.out _ zr.drew).mono fun e w' ⟨h1,h2⟩=>⟨_,h1,rfl,h2⟩
 refine zo 1 fun K hK=>?_;refine zkd (by rfl) (.func 134) [.tmp 9] _ (by rfl) 134 _ zzN (by rfl) _ (by rfl) _ had ?_;rintro v1 w1 ⟨rfl,rfl⟩;refine hK.out _ _ hSS ?_;clear hK K had;(try simp only[zQ]);refine zp 3 fun K hK=>?_;(try simp only[zA,zB,zC]);go_simp;refine hK.out _ _ hSS.1 ?_;clear hK K;(try simp only[zQ]);refine zd ?_;refine NoPanic.normal ?_;clear hSS HS dH;have ht:=fun w=>tAss x w;obtain⟨w1,hw1⟩:=zX (w.drew);have hb1:Below w.heap.size w w1:=hw1▸zr.drew;have g4:=zb hb1 h4;have gf:w1.frozen? ⟨a4,0,none⟩=false:=hw1▸hf;have hlt:a4<w1.heap.size:=World.block_lt_of_cell? w1 _ g4;have z4:=zks g4 (.cells #[.int .i64 x] 198);have HB1:=zh hb1;rw[hw1];clear h2 h5 hj h4 hf hw1 hb1;go_wp2_with fail;have hch:=(Chg.refl (fun b=>b=a4) w1).setCell (p:=⟨a4,0,none⟩) (.inl rfl) (.int .i64 x)
 exact HQ.out _ _ rfl ⟨zks (by simp[go_sem,g4]) _,(Chg.of_below HB1.out).trans (hch.alloc _)⟩
def AttP(W:World)(R:World->Prop)(X:Int->World->Prop)(e:Ending)(w':World):Prop :=
 (e=.returned (.int .i64 0)/\∃w1,R w1/\Chg (fun b=>W.heap.size<=b/\b<W.heap.size+3) w1 w')\/∃x,e=.returned (.int .i64 x)/\∃w1,X x w1/\Chg (fun b=>W.heap.size<=b/\b<W.heap.size+3) w1 w'
theorem zrB(jb:Nat)(f:FuncId)(fn:Func)(hf:IsFn Tryz.prog f fn)(caps:Array Value)(W:World)(hj:W.heap[jb]?=some (.cells #[.slice none 0 0,.bool false] 152 (0,0)))(R:World->Prop)(X:Int->World->Prop)
  (hact:∀W1,Below W.heap.size W W1->W1.heap.size=W.heap.size+3->Calls Tryz.prog f caps W1 fun e w'=>(∀b,(W.heap.size<=b\/b=jb)->b<W1.heap.size->w'.heap[b]?=W1.heap[b]?)/\(((∃u,e=.returned u)/\R w')\/∃x,e=zlC x/\X x w')) :
  Calls Tryz.prog 99 #[.pointer (some ⟨jb,0,none⟩),.func (.func f) #[] caps] W (AttP W R X):=by
 have oM:∀(fn:Fn) (first cap:Array Value) (w:World),(Instr.makeFunc fn first cap).run Tryz.prog w=.ok (.func fn first cap) w:=fun _ _ _ _=>rfl;have hnf:∀w:World,(binOp BinOp.eql 1 (.func (.func f) #[] caps) .nilFunc).run Tryz.prog w=.ok (.bool false) w:=fun _=>by kernel_rfl
 have HJ:=zh hj;have hjl:=zkn hj;have HA:=zh hact;have hLE:=fun w' (hb:Below W.heap.size W w')=>zsg jb w' (zb hb (zc hj rfl));have dH:=zh hLE;clear hj hact hLE
 go_enter_defers Tryz.func99,Tryz.ntmps99
 go_wp2_with fail;refine(dH.out _ (zkb (zkb zr _) _)).mono ?_;rintro e w1 ⟨rfl,rfl⟩;go_wp2_with fail;rw[zkN hf,Oper.upon_enter];have k0:=zkf (zkf (heap_alloc_new W (.cells #[.pointer (some ⟨jb,0,none⟩)] 149)) (.cells #[.int .i64 0] 48)) (.cells #[.int .i64 0] 3);have k1:=zkf (heap_alloc_new (W.alloc (.cells #[.pointer (some ⟨jb,0,none⟩)] 149)) (.cells #[.int .i64 0] 48)) (.cells #[.int .i64 0] 3);have k2:=heap_alloc_new ((W.alloc (.cells #[.pointer (some ⟨jb,0,none⟩)] 149)).alloc (.cells #[.int .i64 0] 48)) (.cells #[.int .i64 0] 3);have kj:=zkf (zkf (zkf HJ.out (.cells #[.pointer (some ⟨jb,0,none⟩)] 149)) (.cells #[.int .i64 0] 48)) (.cells #[.int .i64 0] 3);have hb3:=zkb (zkb (zkb (zs W) (.cells #[.pointer (some ⟨jb,0,none⟩)] 149)) (.cells #[.int .i64 0] 48)) (.cells #[.int .i64 0] 3);simp only[World.size_alloc]at k1 k2
 obtain⟨w3,hw3⟩:=zX (((W.alloc (.cells #[.pointer (some ⟨jb,0,none⟩)] 149)).alloc (.cells #[.int .i64 0] 48)).alloc (.cells #[.int .i64 0] 3));have hz3:w3.heap.size=W.heap.size+3:=by rw[<-hw3];simp
 rw[hw3]at k0 k1 k2 kj hb3 ⊢;clear hw3;refine(HA.out w3 hb3 hz3).mono ?_;rintro e w2 ⟨hk,h⟩;have q0:=(hk _ (.inl zl) (by omega)).trans k0;have q1:=(hk _ (.inl (Nat.le_succ _)) (by omega)).trans k1;have q2:=(hk _ (.inl (by omega)) (by omega)).trans k2;have qj:=(hk _ (.inr rfl) (by omega)).trans kj;clear k0 k1 k2 kj hk hb3;rcases h with⟨⟨u,rfl⟩,hR⟩|⟨x,rfl,hX⟩
 ·have c1:w2.cell? ⟨W.heap.size+1,0,none⟩=some (.int .i64 0):=zc q1 rfl;have f1:∀o,w2.frozen? ⟨W.heap.size+1,o,none⟩=false:=fun _=>zf q1;have HRR:=zh hR;clear q0 q2 qj dH HA hR;go_wp2_with fail;refine leaves_cons (f:=135) (args := #[.pointer (some ⟨W.heap.size,0,none⟩),.pointer (some ⟨W.heap.size+1+1,0,none⟩),.pointer (some ⟨W.heap.size+1,0,none⟩)]) (by simp) (by simp[go_sem]) ?_;refine(zwX _ _ _ _).mono ?_;rintro e u' w'' ⟨rfl,rfl,rfl⟩;have hch:=(Chg.refl (fun b=>W.heap.size<=b/\b<W.heap.size+3) w2).setCell (p:=⟨W.heap.size+1,0,none⟩) (.inl ⟨Nat.le_succ _,by simp⟩) (.int .i64 0);have hc2:(w2.setCell ⟨W.heap.size+1,0,none⟩ (.int .i64 0)).cell? ⟨W.heap.size+1,0,none⟩=some (.int .i64 0):=by simp[go_sem,c1]
  have HP:AttP W R X (.returned (.int .i64 0)) (w2.setCell ⟨W.heap.size+1,0,none⟩ (.int .i64 0)):=.inl ⟨rfl,w2,HRR.out,hch⟩;simp[Leaves,settle,results,Tryz.results99,go_sem,hc2,HP]
 ·have p0:w2.cell? ⟨W.heap.size,0,none⟩=some (.pointer (some ⟨jb,0,none⟩)):=zc q0 rfl;have p1:w2.cell? ⟨W.heap.size+1,0,none⟩=some (.int .i64 0):=zc q1 rfl;have p2:w2.cell? ⟨W.heap.size+1+1,0,none⟩=some (.int .i64 0):=zc q2 rfl;have pj:w2.cell? ⟨jb,0,none⟩=some (.slice none 0 0):=zc qj rfl;have f1:w2.frozen? ⟨W.heap.size+1,0,none⟩=false:=zf q1;refine leaves_cons (f:=135) (args := #[.pointer (some ⟨W.heap.size,0,none⟩),.pointer (some ⟨W.heap.size+1+1,0,none⟩),.pointer (some ⟨W.heap.size+1,0,none⟩)]) (by simp) (by simp[go_sem]) ?_;refine(zu1 _ _ _ jb x 0 _ p0 p2 pj p1 f1).mono ?_;rintro e u' w'' ⟨rfl,rfl,hc2,hch⟩;have HP:AttP W R X (.returned (.int .i64 x)) w'':=.inr ⟨x,rfl,w2,hX,hch.mono fun b _ e=>by omega⟩;simp[Leaves,settle,results,Tryz.results99,go_sem,hc2,HP]
theorem ztP:∀(prs:List PR) (s:ByteArray),prcI prs s=idxP prs s
 | [],_=>rfl
 | q::qs,s=>by
  unfold prcI;rw[ztP qs s];unfold idxP;rw[List.findIdx?_cons]
def CalB(prs:List PR)(t:T):Prop:=∀u∈po t,(u.k=50\/u.k=51)->∃i,prcI prs u.s=some i
theorem zys:∀(t:T),isE t=true->∀x∈po t,isE x=true:=by
 intro t
 induction t using T.ind with
 | _ k n s ks ih =>
  intro h x hx;simp only[po,List.mem_cons]at hx;rcases hx with rfl|hx
  ·exact h
  ·obtain⟨t,ht,hx⟩:=zmR.1 hx;exact ih t ht (zwr h t ht) x hx
theorem CalB.expr{prs:List PR}{t:T}(h:isE t=true):CalB prs t:=fun u hu hk=>by
 have:=zws u (zys t h u hu);omega
theorem CalB.kid{prs:List PR}{k n:Int}{s:ByteArray}{ks:List T}(h:CalB prs (.nd k n s ks)){t:T}(ht:t∈ks):CalB prs t:=fun u hu=>h u (by simp only[po,List.mem_cons];exact .inr (zmR.2 ⟨t,ht,hu⟩))
theorem zov{prs:List PR}{k:Int}{s:ByteArray}{vs:List VD}:∀ {ks:List T} {i:Nat},cntK prs k s i ks vs=0->∀t∈ks,∃vs',cntV prs t vs'=0
 | [],_,_,t,ht=>by cases ht
 | u::us,i,h,t,ht=>by
  rw[cntK]at h;obtain⟨h1,h2⟩:=Nat.add_eq_zero_iff.1 h;rcases List.mem_cons.1 ht with rfl|ht
  ·exact⟨_,h1⟩
  ·exact zov h2 t ht
theorem ztX{e:Int}(h:one1 e=0):e=0:=by
 unfold one1 at h
 split at h
 ·assumption
 ·omega
theorem zxN:∀(t:T) (prs:List PR) (vs:List VD),(isS t=true\/isB t=true\/isE t=true)->cntV prs t vs=0->CalB prs t:=by
 intro t
 induction t using T.ind with
 | _ k n s ks ih =>
  intro prs vs ht h;rcases ht with hs|hb|he
  ·rw[cntV]at h;intro u hu hk;simp only[po,List.mem_cons]at hu;by_cases hc:k=50\/k=51
   ·rcases hu with rfl|hu
    ·have h0:=ztX (e:=zlq prs k s ks.length vs) (by omega);unfold zlq at h0;rw[if_neg (by omega),if_neg (by omega),if_neg (by omega),if_neg (by omega),if_pos hc]at h0;rw[ztP]
     cases hi:idxP prs s with
     | none=>rw[hi]at h0;simp at h0
     | some i=>exact⟨i,hi⟩
    ·obtain⟨t,ht,hx⟩:=zmR.1 hu;have h57:t.k≠57:=by
      rcases zm3 hs with⟨_,h1⟩|⟨h1,_⟩|⟨h1,_⟩|⟨h1,_⟩
      ·exact h1 t ht
      all_goals omega
     rcases(zxC hs).2 t ht with h1|h1
     ·exact CalB.expr h1 u hx hk
     ·exact absurd (zKA h1) h57
   ·rw[if_neg hc]at h;rcases hu with rfl|hu
    ·exact absurd hk hc
    ·obtain⟨t,ht,hx⟩:=zmR.1 hu;obtain⟨vs',hv⟩:=zov (Nat.add_eq_zero_iff.1 h).2 t ht;rcases(zxC hs).2 t ht with h1|h1
     ·exact CalB.expr h1 u hx hk
     ·exact ih t ht prs vs' (.inr (.inl h1)) hv u hx hk
  ·obtain⟨h57,hks⟩:=zsh _ _ _ _ hb;rw[cntV,if_neg (by omega)]at h;intro u hu hk;simp only[po,List.mem_cons]at hu;rcases hu with rfl|hu
   ·simp only[T.k_nd]at hk;omega
   ·obtain⟨t,ht,hx⟩:=zmR.1 hu;obtain⟨vs',hv⟩:=zov (Nat.add_eq_zero_iff.1 h).2 t ht;exact ih t ht prs vs' (.inl (hks t ht)) hv u hx hk
  ·exact CalB.expr he
def GP(prs:List PR)(t:T):Prop:=isS t=true/\CalB prs t/\∀q∈prs,isB q.b=true/\CalB prs q.b
theorem GP.block{prs:List PR}{b:T}(hb:isB b=true)(hc:CalB prs b)(hq:∀q∈prs,isB q.b=true/\CalB prs q.b):∀u∈b.ks,GP prs u:=by
 obtain⟨k,n,s,ks⟩:=b;exact fun u hu=>⟨(zsh _ _ _ _ hb).2 u hu,hc.kid hu,hq⟩
theorem zKd:GC GP where
 two:=fun prs t h hk=>by
  obtain⟨k,n,s,ks⟩:=t;obtain⟨hs,hc,hq⟩:=h;simp only[T.k_nd]at hk;rcases zm3 hs with⟨h1,_⟩|⟨_,_,a,b,c,d,rfl,_,hb1,hb2,_⟩|⟨h1,_⟩|⟨h1,_⟩
  ·omega
  ·exact⟨rfl,GP.block hb1 (hc.kid (t:=b) (by simp)) hq,GP.block hb2 (hc.kid (t:=c) (by simp)) hq⟩
  ·omega
  ·omega
 loc:=fun prs t h hk=>by
  obtain⟨k,n,s,ks⟩:=t;obtain⟨hs,hc,hq⟩:=h;simp only[T.k_nd]at hk;rcases zm3 hs with⟨h1,_⟩|⟨h1,_⟩|⟨_,_,a,b,c,rfl,_,hb1,_⟩|⟨h1,_⟩
  ·omega
  ·omega
  ·exact⟨rfl,GP.block hb1 (hc.kid (t:=b) (by simp)) hq⟩
  ·omega
 stk:=fun prs t h hk=>by
  obtain⟨k,n,s,ks⟩:=t;obtain⟨hs,hc,hq⟩:=h;simp only[T.k_nd]at hk;rcases zm3 hs with⟨h1,_⟩|⟨h1,_⟩|⟨h1,_⟩|⟨_,_,b,rfl,hb1⟩
  ·omega
  ·omega
  ·omega
  ·exact⟨rfl,GP.block hb1 (hc.kid (t:=b) (by simp)) hq⟩
 cal:=fun prs t h hk=>by
  obtain⟨hs,hc,hq⟩:=h;have hm:t∈po t:=by obtain⟨k,n,s,ks⟩:=t;simp[po]
  obtain⟨i,hi⟩:=hc t hm hk;obtain⟨-,hl⟩:=zpy _ _ _ hi;exact⟨i,prs[i],hi,List.getElem?_eq_getElem hl,GP.block (hq _ (List.getElem_mem hl)).1 (hq _ (List.getElem_mem hl)).2 hq⟩
theorem zql{ps:List PR}:∀ {j:Nat},j<=ps.length->prcN ps j=0->∀i (h:i<ps.length),i<j->prcE ps i ps[i]=0
 | 0,_,_,i,_,hi=>by omega
 | j+1,hj,h,i,hl,hi=>by
  rw[zob (by omega)]at h;by_cases e:i=j
  ·subst e;omega
  ·exact zql (j:=j) (by omega) (by omega) i hl (by omega)
theorem ztt{p:PG}(h:zla p=true):isB p.m=true/\∀r∈p.prs,isB r.b=true:=by
 simp only[zla,Bool.and_eq_true,decide_eq_true_eq,List.all_eq_true]at h;refine⟨?_,fun r hr=>?_⟩
 ·have:=h.2;simp only[zlE,Bool.and_eq_true]at this;exact this.2
 ·have:=h.1.2 r hr;simp only[zoG,zlE,Bool.and_eq_true]at this;exact this.2.2
theorem zvw{p:PG}(hv:zla p=true)(hc:chkN p=0):∀u∈p.m.ks,GP p.prs u:=by
 obtain⟨h1,h2⟩:=ztt hv;unfold chkN at hc;refine GP.block h1 (zxN _ _ p.vs (.inr (.inl h1)) (by omega)) fun q hq=>⟨h2 q hq,?_⟩
 obtain⟨i,hi,rfl⟩:=List.getElem_of_mem hq;have:=zql zl (show prcN p.prs p.prs.length=0 by omega) i hi hi;unfold prcE at this;exact zxN _ _ _ (.inr (.inl (h2 _ hq))) (show cntV p.prs p.prs[i].b p.prs[i].ps=0 by omega)
theorem zzF(M a b r s g:Nat)(h1:a<=b)(h2:s<=r)(hg:b*M+r<=g):a*M+s<=g:=by have:=Nat.mul_le_mul_right M h1;omega
theorem zvY{p:PG}{F:Int}{g:Nat}(hv:zla p=true)(hg:F.toNat*2000+2000<=g)(back:Bool)(S:ST)(e:List Nat):Good 0 (runO p.prs F g back p.m ⟨S,0,e⟩):=by
 obtain⟨_,_,h3,_,h5⟩:=zml hv;refine zlL _ _ fun u hu r hr=>zl8 (M:=2000) (fun q hq=>(h3 q hq).2.2) (by omega) g back u r ?_;have h6:=zpE (zlJ hu);exact zzF 2000 (F.toNat-r.n) F.toNat 2000 _ g (by omega) (by omega) hg
def Nz(o:Out):Prop:=o ≠ .err 0
theorem Nz.bind{o:Out}{f:RS->Out}(h:Nz o)(hf:∀r,Nz (f r)):Nz (o.bind f):=by
 cases o with
 | gas=>exact fun e=>by cases e
 | err x=>exact h
 | ok r=>exact hf r
theorem Nz.ok(r:RS):Nz (.ok r):=fun e=>by cases e
theorem Nz.gas:Nz .gas:=fun e=>by cases e
theorem Nz.step(F:Int)(r:RS):Nz (zkE F r):=by
 unfold zkE
 split
 ·intro e;injection e with e;omega
 ·exact Nz.ok _
theorem Nz.store(r:RS)(R:Int×ST):Nz (zkl r R):=by
 unfold zkl
 split
 ·rename_i h;intro e;injection e with e;exact h e
 ·exact Nz.ok _
theorem Nz.val{t:T}{r:RS}{f:Int->RS->Out}(hf:∀x,Nz (f x r)):Nz (valO t r f):=by
 unfold valO
 split
 ·rename_i h;intro e;injection e with e;exact h e
 ·exact hf _
theorem Nz.holds{F:Int}{t:T}{r:RS}{f:Bool->RS->Out}(hf:∀b r,Nz (f b r)):Nz (zlg F t r f):=(Nz.step F r).bind fun r=>Nz.val fun x=>hf _ _
theorem Nz.assert(F:Int)(t:T)(b:Bool)(r:RS):Nz (zku F t b r):=Nz.holds fun b' r=>by
 split
 ·exact Nz.ok _
 ·intro e;injection e with e;omega
theorem Nz.body{f:T->RS->Out}:∀(l:List T) (r:RS),(∀t∈l,∀r,Nz (f t r))->Nz (zld f l r)
 | [],r,_=>Nz.ok r
 | t::ts,r,h=>(h t (List.mem_cons_self ..) r).bind fun r=>Nz.body ts r fun u hu=>h u (List.mem_cons_of_mem _ hu)
theorem Nz.loop{F:Int}{f:T->RS->Out}{entry test:T}{l1 l2:List T}(h1:∀t∈l1,∀r,Nz (f t r))(h2:∀t∈l2,∀r,Nz (f t r)):∀(m:Nat) (r:RS),Nz (zl6 F f entry test l1 l2 m r)
 | 0,_=>Nz.gas
 | m+1,r=>by
  rw[zl6];refine(Nz.body l1 r h1).bind fun r=>Nz.holds fun b r=>?_
  split
  ·exact Nz.ok _
  ·exact(Nz.body l2 r h2).bind fun r=>(Nz.assert F entry false r).bind fun r=>Nz.loop h1 h2 m r
theorem znV{G:List PR->T->Prop}(hG:GC G){prs:List PR}{F:Int}:∀(g:Nat) (back:Bool) (t:T) (r:RS),G prs t->Nz (zkA prs F g back t r)
 | 0,_,_,_,_=>Nz.gas
 | g+1,back,t,r,h=>by
  have hb:∀back (b:T) r,(∀u∈b.ks,G prs u)->Nz (zld (zkA prs F g back) (blkL back b) r):=fun back b r hu=>Nz.body _ r fun u hm r=>znV hG g back u r (hu u (zlJ hm));rw[zkA]
  split
  ·rename_i hk;obtain⟨-,h1,h2⟩:=hG.two _ _ h (.inl hk);refine Nz.holds fun yes r=>Nz.bind ?_ fun r=>Nz.assert _ _ _ _
   split
   ·exact hb _ _ _ h1
   ·exact hb _ _ _ h2
  ·split
   ·rename_i hk;obtain⟨-,h1,h2⟩:=hG.two _ _ h (.inr hk);exact(Nz.assert _ _ _ _).bind fun r=>Nz.loop (fun u hm r=>znV hG g back u r (h1 u (zlJ hm))) (fun u hm r=>znV hG g back u r (h2 u (zlJ hm))) g r
   ·split
    ·rename_i hk;obtain⟨-,h1⟩:=hG.loc _ _ h hk;exact(Nz.step _ _).bind fun r=>Nz.val fun x=>(Nz.store _ _).bind fun r=>(hb _ _ _ h1).bind fun r=>(Nz.step _ _).bind fun r=>Nz.val fun x=>Nz.store _ _
    ·split
     ·rename_i hk;obtain⟨-,h1⟩:=hG.stk _ _ h hk;exact(Nz.step _ _).bind fun r=>(Nz.store _ _).bind fun r=>(hb _ _ _ h1).bind fun r=>(Nz.step _ _).bind fun r=>Nz.store _ _
     ·split
      ·rename_i hk;obtain⟨i,q,hi,hq,h1⟩:=hG.cal _ _ h hk;rw[hi];dsimp only;rw[getD_some hq];exact(Nz.step _ _).bind fun r=>(Nz.store _ _).bind fun r=>(hb _ _ _ h1).bind fun r=>(Nz.step _ _).bind fun r=>Nz.store _ _
      ·exact(Nz.step _ _).bind fun r=>Nz.store _ _
theorem zyb{G:List PR->T->Prop}(hG:GC G){prs:List PR}{F:Int}{g:Nat}{back:Bool}{b:T}{r:RS}(h:∀u∈b.ks,G prs u):Nz (runO prs F g back b r):=Nz.body _ r fun u hm r=>znV hG g back u r (h u (zlJ hm))
theorem RI.chgK{C:RC}{lo hi:Nat}{W W':World}{r:RS}(hC:(C.plus lo hi).Ok)(h:RI (C.plus lo hi) W r)(hc:Chg (fun b=>lo<=b/\b<hi) W W')(hlo:C.w.heap.size<=lo):RI (C.plus lo hi) W' r:=by
 have hkb:∀b,lo<=b/\b<hi->(C.plus lo hi).kb b:=fun b hb=>.inr hb;refine⟨h.ks.chg hc fun b _ hb=>⟨Nat.le_trans hlo hb.1,.inr (.inl (hkb b hb))⟩,hc.keep h.box fun hb=>hC.rb.2 (hkb _ hb),zmr h.ent fun b hb=>?_,h.el,h.en,h.n,h.fb⟩;exact hc.block b (h.ent.lt b hb).2 fun hb'=>hC.ev.2 b hb (hkb _ hb')
def Fam(p:PG):Prop:=∃G:List PR->T->Prop,(∀g,IStC G g)/\(zla p=true->chkN p=0->(∀u∈p.m.ks,G p.prs u)/\∀(F:Int) (g:Nat) (back:Bool) (r:RS),Nz (runO p.prs F g back p.m r))
theorem zyN(p:PG):Fam p:=⟨GP,zrO zKd,fun hv hc=>⟨zvw hv hc,fun _ _ _ _=>zyb zKd (zvw hv hc)⟩⟩
theorem zsE{G:List PR->T->Prop}(hS:∀g,IStC G g){C:RC}(hC:C.Ok){W:World}{r:RS}(h:RI C W r)(hG:∀u∈C.p.m.ks,G C.p.prs u)(g:Nat)(back:Bool)(hg:runO C.p.prs C.F g back C.p.m r ≠ .gas)(pb qb bb:Nat)
  (h0:W.cell? ⟨pb,0,none⟩=some (.pointer (some ⟨C.rb,0,none⟩)))(hq:W.heap[qb]?=some (.cells #[.slice C.A1 C.p.vs.length C.c1,.slice C.A2 C.p.prs.length C.c2,.int .u8 C.p.m.k,.int .i64 C.p.m.n,.string C.p.m.s,.slice C.A3 C.p.m.ks.length C.c3] 43 (0,0)))(hb:W.cell? ⟨bb,0,none⟩=some (.bool back)) :
  Calls Tryz.prog 100 #[.pointer (some ⟨pb,0,none⟩),.pointer (some ⟨qb,0,none⟩),.pointer (some ⟨bb,0,none⟩)] W (RunP C W (runO C.p.prs C.F g back C.p.m r)):=by
 have aC:=zh (zlf (hS g) hC h C.p.m _ back hC.pg.main hG hg);have q2:W.cell? ⟨qb,2,none⟩=some (.int .u8 C.p.m.k):=zc hq rfl;have q3:W.cell? ⟨qb,3,none⟩=some (.int .i64 C.p.m.n):=zc hq rfl;have q4:W.cell? ⟨qb,4,none⟩=some (.string C.p.m.s):=zc hq rfl;have q5:W.cell? ⟨qb,5,none⟩=some (.slice C.A3 C.p.m.ks.length C.c3):=zc hq rfl;obtain⟨o,ho⟩:=zX (runO C.p.prs C.F g back C.p.m r);rw[ho]at aC hg ⊢;clear hC h hG hq ho;go_enter Tryz.func100,Tryz.ntmps100;go_wp2_with fail;refine aC.out.mono ?_;rintro e w1 ⟨hk1,hb1,ho1⟩
 cases o with
 | gas=>exact absurd rfl hg
 | err x =>
  subst ho1;exact⟨rfl,hk1,hb1,rfl⟩
 | ok r1 =>
  obtain⟨⟨u,rfl⟩,hr1⟩:=ho1;have HR:=zh hr1;have az:=zh hk1;have HB1:=zh hb1;clear h0 q2 q3 q4 q5 hb hr1 hk1 hb1;go_wp2_with fail;go_end0;exact⟨az.out,HB1.out,⟨_,rfl⟩,HR.out⟩
def outR(s:SS):Out->SS×Nat×Int×List Nat
 | .ok r=>(r.S.state,r.n,0,r.ent)
 | .err e=>(s,0,e,[])
 | .gas=>(s,0,0,[])
def resO(p:PG)(s:SS)(F:Int)(g:Nat)(back:Bool):SS×Nat×Int×List Nat :=
 if zla p=false\/chkN p≠0 then(s,0,3,[])else if fitB p.vs s=false then(s,0,20,[])else outR s (runO p.prs F g back p.m ⟨newS p.vs s,0,List.replicate p.prs.length 0⟩)
def LimR(R:SS×Nat×Int×List Nat):Prop:=R.1.Lim/\(R.2.2.1=0->R.1.cells.length<=1000+R.2.1/\(∀l∈R.1.cells,l.length<=1000)/\R.1.tin.length<=4096/\R.1.tout.length<=4096)
theorem LimR.run{r:RS}(h:r.S.WF)(hf:FB r.n r.S)(e:List Nat):LimR (r.S.state,r.n,0,e):=by
 obtain⟨-,h1,h2⟩:=ztB h;obtain⟨kd,hb,-⟩:=h.ex;refine⟨h1,fun _=>⟨?_,h2,h.tin.1,h.tout.1⟩⟩;have:=hb.len;have:=hf.1;simp only[ST.state,List.length_map,List.length_take];omega
def ResP(W:World)(R:SS×Nat×Int×List Nat)(e:Ending)(W':World):Prop:=∃A c v1 v2 v3,e=.returned (.tuple #[.slice A R.2.2.2.length c,.agg #[v1,v2,v3,.int .i64 (R.2.1:Int),.int .i64 R.2.2.1]]) /\
 OwnS W' W.heap.size R.1 (.agg #[v1,v2,v3])/\RowI W' (fun b=>W.heap.size<=b) A (R.2.2.2.map Int.ofNat)/\R.2.2.2.length<=c/\Below W.heap.size W W'/\LimR R
theorem OwnS.slices{W:World}{n0:Nat}{s:SS}{v:Value}(h:OwnS W n0 s v):∃A c B d D e,v=.agg #[.slice A s.cells.length c,.slice B s.tin.length d,.slice D s.tout.length e]:=by
 obtain⟨vc,vi,vo,fc,rfl,hr,-⟩:=h;obtain⟨A,c,e1,-⟩:=zke (hr.row .all);obtain⟨B,d,e2,-⟩:=zke (hr.row .inp);obtain⟨D,e,e3,-⟩:=zke (hr.row .out);change vc=.slice A s.cells.length c at e1;change vi=.slice B s.tin.length d at e2;change vo=.slice D s.tout.length e at e3;exact⟨A,c,B,d,D,e,by rw[e1,e2,e3]⟩
theorem OwnS.chg{W W':World}{n0:Nat}{s:SS}{v:Value}{Cc:Nat->Prop}(h:OwnS W n0 s v)(hc:Chg Cc W W')(hC:∀b,Cc b->b<n0):OwnS W' n0 s v:=by
 obtain⟨vc,vi,vo,fc,rfl,hr,hi⟩:=h;exact⟨vc,vi,vo,fc,rfl,hr.chg hc fun i b hb hcb=>by have:=(hr.lt i b hb).1;have:=hC b hcb;omega,hi⟩
theorem OwnS.lower{W:World}{n0 n1:Nat}{s:SS}{v:Value}(h:OwnS W n1 s v)(hn:n0<=n1):OwnS W n0 s v:=by
 obtain⟨vc,vi,vo,fc,rfl,hr,hi⟩:=h;exact⟨vc,vi,vo,fc,rfl,hr.mono hn,hi⟩
theorem set5{W:World}{b:Nat}{x0 x1 x2 x3 x4 u0 u1 u2 u3 u4:Value}{E:TypeId}(h:W.heap[b]?=some (.cells #[x0,x1,x2,x3,x4] E (0,0))) :
  (((((W.setCell ⟨b,0,none⟩ u0).setCell ⟨b,1,none⟩ u1).setCell ⟨b,2,none⟩ u2).setCell ⟨b,3,none⟩ u3).setCell ⟨b,4,none⟩ u4).heap[b]?=some (.cells #[u0,u1,u2,u3,u4] E (0,0)) /\
   Chg (fun q=>q=b) W (((((W.setCell ⟨b,0,none⟩ u0).setCell ⟨b,1,none⟩ u1).setCell ⟨b,2,none⟩ u2).setCell ⟨b,3,none⟩ u3).setCell ⟨b,4,none⟩ u4):=by
 refine⟨?_,(((((Chg.refl (fun q=>q=b) W).setCell (p:=⟨b,0,none⟩) (.inl rfl) _).setCell (p:=⟨b,1,none⟩) (.inl rfl) _).setCell (p:=⟨b,2,none⟩) (.inl rfl) _).setCell (p:=⟨b,3,none⟩) (.inl rfl) _).setCell (p:=⟨b,4,none⟩) (.inl rfl) _⟩;rw[heap_setCell_same _ b 4 _ _ u4 (heap_setCell_same _ b 3 _ _ u3 (heap_setCell_same _ b 2 _ _ u2 (heap_setCell_same _ b 1 _ _ u1 (heap_setCell_same W b 0 _ _ u0 h))))];simp
theorem bRes(A B D:Option Addr)(l c m d n e:Nat)(x:Int)(w:World):(Instr.build 59 #[(0,.agg #[.slice A l c,.slice B m d,.slice D n e]),(2,.int .i64 x)]).run Tryz.prog w=.ok (.agg #[.slice A l c,.slice B m d,.slice D n e,.int .i64 0,.int .i64 x]) w:=by kernel_rfl
theorem zKH(A B D:Option Addr)(l c m d n e:Nat)(x:Int)(w:World):(Instr.build 59 #[(0,.agg #[.slice A l c,.slice B m d,.slice D n e]),(1,.int .i64 x)]).run Tryz.prog w=.ok (.agg #[.slice A l c,.slice B m d,.slice D n e,.int .i64 x,.int .i64 0]) w:=by kernel_rfl
theorem zt2(n:Nat):madeCells (Value.int .i64 0).cells (n*1)=(zkg (List.replicate n 0)).toArray:=by
 apply Array.ext';apply List.ext_getElem
 ·rw[Array.length_toList,size_madeCells];simp[zkg]
 ·intro i h1 h2;have e:i % 1=0:=by omega
  simp[madeCells,zkg,Value.cells,e]
theorem zKI(n:Nat)(hn:n<=4096)(w:World):(Instr.makeSlice 30 (.int .i64 (n:Int)) (.int .i64 (n:Int))).run Tryz.prog w=.ok (.slice (some ⟨w.heap.size,0,none⟩) n n) (w.alloc (.cells (zkg (List.replicate n 0)).toArray 3)):=by
 have h:=zlO;obtain⟨i,hi,hz⟩:=Option.map_eq_some_iff.1 h;injection hz with h1 h2;injection h2 with h2 h3;have hsc:(4096:Nat)<=9223372036854775807:=by decide
 have:=zlj (P:=Tryz.prog) 30 3 i (.int .i64 0) Tryz.underlying30 hi h1 .i64 .i64 n n zl (by rw[h3];omega) (Nat.le_trans hn hsc) w;rw[h2,zt2]at this;exact this
theorem bRun(A1 A2 A3 E:Option Addr)(l1 c1 l2 c2 l3 c3 m d:Nat)(k n F:Int)(s:ByteArray)(sb:Nat)(w:World):(Instr.build 147 #[(0,pv A1 l1 c1 A2 l2 c2 k n s A3 l3 c3),(1,.pointer (some ⟨sb,0,none⟩)),(3,.int .i64 F),(4,.slice E m d)]).run Tryz.prog w =
  .ok (.agg #[.slice A1 l1 c1,.slice A2 l2 c2,.int .u8 k,.int .i64 n,.string s,.slice A3 l3 c3,.pointer (some ⟨sb,0,none⟩),.int .i64 0,.int .i64 F,.slice E m d]) w:=by kernel_rfl
theorem zuZ{W:World}{a b:Nat}{x y:Array Value}{E F:TypeId}(ha:W.heap[a]?=some (.cells x E (0,0)))(hb:W.heap[b]?=some (.cells y F (0,0)))(hne:E≠F):a≠b:=by
 rintro rfl;rw[ha]at hb;injection hb with hb;injection hb with h1 h2;exact hne h2
theorem zqM{W w4 w8 aQ:World}{n0:Nat}{kb:Nat->Prop}(h4:Below W.heap.size W w4)(h11:Below W.heap.size W aQ)(h48:Below w4.heap.size w4 w8)(hk:Kpt n0 kb w8 aQ)(hn:w4.heap.size<=n0):Below w4.heap.size w4 aQ :=
 ⟨h11.os.trans h4.os.symm,h11.tape.trans h4.tape.symm,h11.output.trans h4.output.symm,Nat.le_trans h48.size hk.size,fun b hb=>(hk.kept b (Nat.lt_of_lt_of_le hb h48.size) (.inl (Nat.lt_of_lt_of_le hb hn))).trans (h48.block b hb)⟩
theorem zwx:IsFn Tryz.prog 100 Tryz.f100:=⟨Tryz.func100,by kernel_rfl,by kernel_rfl⟩
theorem zww:IsFn Tryz.prog 102 Tryz.f102:=⟨Tryz.func102,by kernel_rfl,by kernel_rfl⟩
def OkR(C:RC)(lo hi:Nat)(o:Out)(w9 w':World):Prop:=∃r,o=.ok r/\(C.plus lo hi).Ok/\RI (C.plus lo hi) w' r/\Kpt C.n0 C.kb w9 w'
def ErX(C:RC)(o:Out)(w9:World)(x:Int)(w':World):Prop:=o=.err x/\Kpt C.n0 C.kb w9 w'/\Below C.w.heap.size C.w w'
theorem zrq{G:List PR->T->Prop}(hS:∀g,IStC G g){C:RC}{w8 w9:World}{r:RS}{jb:Nat}(hC8:C.Ok)(h8:RI C w8 r)(dx:w8.alloc (.cells #[.slice none 0 0,.bool false] 152)=w9)(hjb:w8.heap.size=jb)(hG:∀u∈C.p.m.ks,G C.p.prs u)(g:Nat)(back:Bool)(o:Out)(ho:runO C.p.prs C.F g back C.p.m r=o)(hg:o ≠ .gas)(pb qb bb:Nat)
  (h0:w8.cell? ⟨pb,0,none⟩=some (.pointer (some ⟨C.rb,0,none⟩)))(hq:w8.heap[qb]?=some (.cells #[.slice C.A1 C.p.vs.length C.c1,.slice C.A2 C.p.prs.length C.c2,.int .u8 C.p.m.k,.int .i64 C.p.m.n,.string C.p.m.s,.slice C.A3 C.p.m.ks.length C.c3] 43 (0,0)))(hb:w8.cell? ⟨bb,0,none⟩=some (.bool back)) :
  Calls Tryz.prog 99 #[.pointer (some ⟨jb,0,none⟩),.func (.func 100) #[] #[.pointer (some ⟨pb,0,none⟩),.pointer (some ⟨qb,0,none⟩),.pointer (some ⟨bb,0,none⟩)]] w9 (AttP w9 (OkR (C.plus jb w9.heap.size) w9.heap.size (w9.heap.size+3) o w9) (ErX (C.plus jb w9.heap.size) o w9)):=by
 have hbj:=zkb (zs w8) (.cells #[.slice none 0 0,.bool false] 152);have kj:=heap_alloc_new w8 (.cells #[.slice none 0 0,.bool false] 152);obtain⟨hC9,h9⟩:=h8.plus hC8 hbj;rw[dx,hjb]at kj hC9 h9;rw[dx]at hbj;have hjl:=zkn kj;refine zrB jb _ _ zwx _ w9 kj _ _ fun W1 hb1 hz1=>?_;obtain⟨cK,h1⟩:=h9.plus hC9 hb1;have hbt:=zka hbj hb1;have hrun:=zsE hS cK h1 hG g back (show runO C.p.prs C.F g back C.p.m r ≠ .gas by rw[ho];exact hg) pb qb bb (zb hbt h0) (zkc hq hbt) (zb hbt hb);refine hrun.mono ?_;rintro e w' ⟨hk,hbl,hout⟩;rw[show runO ((C.plus jb w9.heap.size).plus w9.heap.size W1.heap.size).p.prs ((C.plus jb w9.heap.size).plus w9.heap.size W1.heap.size).F g back ((C.plus jb w9.heap.size).plus w9.heap.size W1.heap.size).p.m r=o from ho]at hout;refine⟨fun b hb hlt=>hk.kept b hlt (.inr ?_),?_⟩
 ·rcases hb with hb|rfl
  ·exact .inr ⟨hb,hlt⟩
  ·exact .inl (.inr ⟨zl,hjl⟩)
 ·have hkk:Kpt C.n0 (C.plus jb w9.heap.size).kb w9 w':=(Kpt.of_below hb1).trans (Kpt.less (C:=C.plus jb w9.heap.size) hk)
  cases o with
  | gas=>exact absurd rfl hg
  | err x=>exact .inr ⟨x,hout,rfl,hkk,hbl⟩
  | ok r1 =>
   rw[hz1]at cK hout;exact .inl ⟨hout.1,r1,rfl,cK,hout.2,hkk⟩
theorem ztC(p:PG)(s:SS)(F:Int)(g:Nat)(back:Bool)(v sv:Value)(W:World)(hp:PV W Any p v)(hs:SV W Any s sv)(hcl:s.cells.length<=5864062014800)(hF:I64 F)(eD:F<=1000000)(hg:F.toNat*2000+2000<=g)(hfam:Fam p) :
  Calls Tryz.prog 57 #[v,sv,.int .i64 F,.bool back] W (ResP W (resO p s F g back)):=by
 have HFAM:=zh hfam;clear hfam;have HP:=zh hp;have HS:=zh hs;obtain⟨A1,c1,A2,c2,A3,c3,rfl,fZ⟩:=hp;obtain⟨A,c,B,d,D,e,rfl,hr1,hr2,hr3,hc1,hc2,hc3,hl1,hl2,hl3,hl4⟩:=hs;have Bo:=zh fZ;have qU:=zh (show s.Lim from⟨hl1,hl2,hl3,hl4⟩);have HV:=zh (fun w' (hb:Below W.heap.size W w')=>zoB p Any _ w' (HP.out.later hb));have dJ:=zh (fun w' (hb:Below W.heap.size W w')=>zpn p Any _ w' (HP.out.later hb));have eG:=zh (fun w' (hb:Below W.heap.size W w')=>zp3 s _ w' (HS.out.later hb) hcl);have vG:=zh (fun w' (hb:Below W.heap.size W w')=>zzg p.vs s A1 c1 _ w' (fZ.vars.later hb) fZ.lv (HS.out.later hb));obtain⟨Re,hRe⟩:=zX (resO p s F g back);have dW:=zh hRe;rw[hRe]
 have hb4:=zkb (zkb (zkb (zkb (zs W) (.cells #[.slice A1 p.vs.length c1,.slice A2 p.prs.length c2,.int .u8 p.m.k,.int .i64 p.m.n,.string p.m.s,.slice A3 p.m.ks.length c3] 43)) (.cells #[.slice A s.cells.length c,.slice B s.tin.length d,.slice D s.tout.length e] 32)) (.cells #[.bool back] 4)) (.cells #[.slice none 0 0,.slice none 0 0,.slice none 0 0,.int .i64 0,.int .i64 0] 59);have k0:=zkf (zkf (zkf (heap_alloc_new W (.cells #[.slice A1 p.vs.length c1,.slice A2 p.prs.length c2,.int .u8 p.m.k,.int .i64 p.m.n,.string p.m.s,.slice A3 p.m.ks.length c3] 43)) (.cells #[.slice A s.cells.length c,.slice B s.tin.length d,.slice D s.tout.length e] 32)) (.cells #[.bool back] 4)) (.cells #[.slice none 0 0,.slice none 0 0,.slice none 0 0,.int .i64 0,.int .i64 0] 59)
 have k1:=zkf (zkf (heap_alloc_new (W.alloc (.cells #[.slice A1 p.vs.length c1,.slice A2 p.prs.length c2,.int .u8 p.m.k,.int .i64 p.m.n,.string p.m.s,.slice A3 p.m.ks.length c3] 43)) (.cells #[.slice A s.cells.length c,.slice B s.tin.length d,.slice D s.tout.length e] 32)) (.cells #[.bool back] 4)) (.cells #[.slice none 0 0,.slice none 0 0,.slice none 0 0,.int .i64 0,.int .i64 0] 59);have k2:=zkf (heap_alloc_new ((W.alloc (.cells #[.slice A1 p.vs.length c1,.slice A2 p.prs.length c2,.int .u8 p.m.k,.int .i64 p.m.n,.string p.m.s,.slice A3 p.m.ks.length c3] 43)).alloc (.cells #[.slice A s.cells.length c,.slice B s.tin.length d,.slice D s.tout.length e] 32)) (.cells #[.bool back] 4)) (.cells #[.slice none 0 0,.slice none 0 0,.slice none 0 0,.int .i64 0,.int .i64 0] 59)
 have k3:=heap_alloc_new (((W.alloc (.cells #[.slice A1 p.vs.length c1,.slice A2 p.prs.length c2,.int .u8 p.m.k,.int .i64 p.m.n,.string p.m.s,.slice A3 p.m.ks.length c3] 43)).alloc (.cells #[.slice A s.cells.length c,.slice B s.tin.length d,.slice D s.tout.length e] 32)).alloc (.cells #[.bool back] 4)) (.cells #[.slice none 0 0,.slice none 0 0,.slice none 0 0,.int .i64 0,.int .i64 0] 59);simp only[World.size_alloc]at k1 k2 k3;have xO:((((W.alloc (.cells #[.slice A1 p.vs.length c1,.slice A2 p.prs.length c2,.int .u8 p.m.k,.int .i64 p.m.n,.string p.m.s,.slice A3 p.m.ks.length c3] 43)).alloc (.cells #[.slice A s.cells.length c,.slice B s.tin.length d,.slice D s.tout.length e] 32)).alloc (.cells #[.bool back] 4)).alloc (.cells #[.slice none 0 0,.slice none 0 0,.slice none 0 0,.int .i64 0,.int .i64 0] 59)).heap.size=W.heap.size+4:=by simp
 obtain⟨w4,hw4⟩:=zX (((((W.alloc (.cells #[.slice A1 p.vs.length c1,.slice A2 p.prs.length c2,.int .u8 p.m.k,.int .i64 p.m.n,.string p.m.s,.slice A3 p.m.ks.length c3] 43)).alloc (.cells #[.slice A s.cells.length c,.slice B s.tin.length d,.slice D s.tout.length e] 32)).alloc (.cells #[.bool back] 4)).alloc (.cells #[.slice none 0 0,.slice none 0 0,.slice none 0 0,.int .i64 0,.int .i64 0] 59)));rw[hw4]at hb4 k0 k1 k2 k3 xO;have aF:=zh hb4;have aD:=zh k0;have az:=zh k1;have aR:=zh k2;have gM:=zh k3;have qF:=zh xO;have p0:w4.cell? ⟨W.heap.size,0,none⟩=some (.slice A1 p.vs.length c1):=zc k0 rfl;have p1:w4.cell? ⟨W.heap.size,1,none⟩=some (.slice A2 p.prs.length c2):=zc k0 rfl;have p2:w4.cell? ⟨W.heap.size,2,none⟩=some (.int .u8 p.m.k):=zc k0 rfl;have p3:w4.cell? ⟨W.heap.size,3,none⟩=some (.int .i64 p.m.n):=zc k0 rfl;have p4:w4.cell? ⟨W.heap.size,4,none⟩=some (.string p.m.s):=zc k0 rfl
 have p5:w4.cell? ⟨W.heap.size,5,none⟩=some (.slice A3 p.m.ks.length c3):=zc k0 rfl;obtain⟨vb,hvb⟩:=zX (zla p);have eF:=zh hvb;rw[hvb]at HV dJ;clear fZ hr1 hr2 hr3 hRe hvb hb4 k0 k1 k2 k3 xO hl1 hl2 hl3 hl4 hc1 hc2 hc3;go_enter Tryz.func57,Tryz.ntmps57;go_wp2_with fail;refine(HV.out w4 aF.out).mono ?_;rintro e5 w5 ⟨rfl,b5⟩;clear hw4
 cases vb
 ·have HX:=zh (show Re=(s,0,3,[]) by rw[<-dW.out,resO,if_pos (.inl eF.out)]);clear p0 p1 p2 p3 p4 p5;have dU:=zkc az.out b5;have mH:=zkc gM.out b5;have s0:w5.cell? ⟨W.heap.size+1,0,none⟩=some (.slice A s.cells.length c):=zc dU rfl;have s1:w5.cell? ⟨W.heap.size+1,1,none⟩=some (.slice B s.tin.length d):=zc dU rfl;have s2:w5.cell? ⟨W.heap.size+1,2,none⟩=some (.slice D s.tout.length e):=zc dU rfl;have aZ:=zh (eG.out w5 (zka aF.out b5));have di:=zh mH;have hbq:=b5;clear dU mH;go_wp2_with fail;refine aZ.out.mono ?_;rintro e9 w9 ⟨v9,rfl,dL,aU⟩;obtain⟨A9,c9,B9,d9,D9,e9,rfl⟩:=dL.slices;have fM:=zh dL;have aG:=zh (zka hbq aU);have aK:=zkc di.out aU;have x0:w9.cell? ⟨W.heap.size+3,0,none⟩=some (.slice none 0 0):=zc aK rfl;have x1:w9.cell? ⟨W.heap.size+3,1,none⟩=some (.slice none 0 0):=zc aK rfl
  have x2:w9.cell? ⟨W.heap.size+3,2,none⟩=some (.slice none 0 0):=zc aK rfl;have x3:w9.cell? ⟨W.heap.size+3,3,none⟩=some (.int .i64 0):=zc aK rfl;have x4:w9.cell? ⟨W.heap.size+3,4,none⟩=some (.int .i64 0):=zc aK rfl;have xf:∀o,w9.frozen? ⟨W.heap.size+3,o,none⟩=false:=fun _=>zf aK;have gY:=zh aK;have hbr:=bRes;have jo:W.heap.size+4<=w5.heap.size:=by have:=hbq.size;rw[qF.out]at this;exact this
  clear s0 s1 s2 aK dL aU hbq aZ;go_wp2_with fail;obtain⟨hh,hch⟩:=set5 (u0:=.slice A9 s.cells.length c9) (u1:=.slice B9 s.tin.length d9) (u2:=.slice D9 s.tout.length e9) (u3:=.int .i64 0) (u4:=.int .i64 3) gY.out;obtain⟨aT,bW⟩:=zX ((((((w9.setCell ⟨W.heap.size+3,0,none⟩ (.slice A9 s.cells.length c9)).setCell ⟨W.heap.size+3,1,none⟩ (.slice B9 s.tin.length d9)).setCell ⟨W.heap.size+3,2,none⟩ (.slice D9 s.tout.length e9)).setCell ⟨W.heap.size+3,3,none⟩ (.int .i64 0)).setCell ⟨W.heap.size+3,4,none⟩ (.int .i64 3)));rw[bW]at hh hch ⊢;have t0:aT.cell? ⟨W.heap.size+3,0,none⟩=some (.slice A9 s.cells.length c9):=zc hh rfl;have t1:aT.cell? ⟨W.heap.size+3,1,none⟩=some (.slice B9 s.tin.length d9):=zc hh rfl;have t2:aT.cell? ⟨W.heap.size+3,2,none⟩=some (.slice D9 s.tout.length e9):=zc hh rfl;have t3:aT.cell? ⟨W.heap.size+3,3,none⟩=some (.int .i64 0):=zc hh rfl
  have t4:aT.cell? ⟨W.heap.size+3,4,none⟩=some (.int .i64 3):=zc hh rfl;refine bodyPost_ret (v:=.tuple #[.slice none 0 0,.agg #[.slice A9 s.cells.length c9,.slice B9 s.tin.length d9,.slice D9 s.tout.length e9,.int .i64 0,.int .i64 3]]) (by simp[results,Tryz.results57,go_sem,t0,t1,t2,t3,t4]) rfl ?_;rw[HX.out];exact⟨none,0,_,_,_,rfl,(fM.out.chg hch fun b hb=>by omega).lower (by omega),fun i hi=>absurd hi (by simp),zl,(zka aF.out aG.out).trans (hch.below (zka aF.out aG.out).size fun b hb=>by omega),qU.out,fun h=>by first|(simp at h;done)|exact absurd h ym.out⟩
 ·have q0:=zb b5 p0;have q1:=zb b5 p1;have q2:=zb b5 p2;have q3:=zb b5 p3;have q4:=zb b5 p4;have q5:=zb b5 p5;have eH:=zh (show Calls Tryz.prog 26 #[pv A1 p.vs.length c1 A2 p.prs.length c2 p.m.k p.m.n p.m.s A3 p.m.ks.length c3] w5 (fun e w'=>∃A c,e=Ending.returned (.slice A (chkN p) c)/\Below w5.heap.size w5 w')from(dJ.out w5 (zka aF.out b5)).mono (fun e w' ⟨A,c,h1,h2⟩=>⟨A,c,by rw[h1,if_pos rfl],h2⟩));clear p0 p1 p2 p3 p4 p5 dJ HV;go_wp2_with fail;refine eH.out.mono ?_;rintro e6 w6 ⟨AA,cc,rfl,b6⟩;have mM:=zka b5 b6;clear q0 q1 q2 q3 q4 q5;by_cases hn:chkN p=0
  ·obtain⟨n,hnn⟩:=zX (chkN p);rw[hnn];obtain rfl:n=0:=by omega
   have hng:¬ (0:Int)<((0:Nat):Int):=by omega
   have nT:=zkc aD.out mM;have dU:=zkc az.out mM;have p0:w6.cell? ⟨W.heap.size,0,none⟩=some (.slice A1 p.vs.length c1):=zc nT rfl;have s0:w6.cell? ⟨W.heap.size+1,0,none⟩=some (.slice A s.cells.length c):=zc dU rfl;have s1:w6.cell? ⟨W.heap.size+1,1,none⟩=some (.slice B s.tin.length d):=zc dU rfl;have s2:w6.cell? ⟨W.heap.size+1,2,none⟩=some (.slice D s.tout.length e):=zc dU rfl;have iL:=zh hnn;clear nT dU hn hnn;go_wp2_with fail;refine(vG.out w6 (zka aF.out mM)).mono ?_;rintro e7 w7 ⟨b7,⟨hfit,rfl⟩|⟨hfit,P,rfl,zg⟩⟩
   ·have HX:=zh (show Re=(s,0,20,[]) by rw[<-dW.out,resO,if_neg (by rw[eF.out,iL.out];simp),if_pos hfit]);have qE:=zka mM b7;clear p0 s0 s1 s2 hfit;have dU:=zkc az.out qE;have mH:=zkc gM.out qE;have s0:w7.cell? ⟨W.heap.size+1,0,none⟩=some (.slice A s.cells.length c):=zc dU rfl;have s1:w7.cell? ⟨W.heap.size+1,1,none⟩=some (.slice B s.tin.length d):=zc dU rfl;have s2:w7.cell? ⟨W.heap.size+1,2,none⟩=some (.slice D s.tout.length e):=zc dU rfl;have aZ:=zh (eG.out w7 (zka aF.out qE));have di:=zh mH;have hbq:=qE;clear dU mH;go_wp2_with fail;refine aZ.out.mono ?_;rintro e9 w9 ⟨v9,rfl,dL,aU⟩;obtain⟨A9,c9,B9,d9,D9,e9,rfl⟩:=dL.slices;have fM:=zh dL;have aG:=zh (zka hbq aU);have aK:=zkc di.out aU;have x0:w9.cell? ⟨W.heap.size+3,0,none⟩=some (.slice none 0 0):=zc aK rfl;have x1:w9.cell? ⟨W.heap.size+3,1,none⟩=some (.slice none 0 0):=zc aK rfl
    have x2:w9.cell? ⟨W.heap.size+3,2,none⟩=some (.slice none 0 0):=zc aK rfl;have x3:w9.cell? ⟨W.heap.size+3,3,none⟩=some (.int .i64 0):=zc aK rfl;have x4:w9.cell? ⟨W.heap.size+3,4,none⟩=some (.int .i64 0):=zc aK rfl;have xf:∀o,w9.frozen? ⟨W.heap.size+3,o,none⟩=false:=fun _=>zf aK;have gY:=zh aK;have hbr:=bRes;have jo:W.heap.size+4<=w7.heap.size:=by have:=hbq.size;rw[qF.out]at this;exact this
    clear s0 s1 s2 aK dL aU hbq aZ;go_wp2_with fail;obtain⟨hh,hch⟩:=set5 (u0:=.slice A9 s.cells.length c9) (u1:=.slice B9 s.tin.length d9) (u2:=.slice D9 s.tout.length e9) (u3:=.int .i64 0) (u4:=.int .i64 20) gY.out;obtain⟨aT,bW⟩:=zX ((((((w9.setCell ⟨W.heap.size+3,0,none⟩ (.slice A9 s.cells.length c9)).setCell ⟨W.heap.size+3,1,none⟩ (.slice B9 s.tin.length d9)).setCell ⟨W.heap.size+3,2,none⟩ (.slice D9 s.tout.length e9)).setCell ⟨W.heap.size+3,3,none⟩ (.int .i64 0)).setCell ⟨W.heap.size+3,4,none⟩ (.int .i64 20)));rw[bW]at hh hch ⊢;have t0:aT.cell? ⟨W.heap.size+3,0,none⟩=some (.slice A9 s.cells.length c9):=zc hh rfl;have t1:aT.cell? ⟨W.heap.size+3,1,none⟩=some (.slice B9 s.tin.length d9):=zc hh rfl;have t2:aT.cell? ⟨W.heap.size+3,2,none⟩=some (.slice D9 s.tout.length e9):=zc hh rfl;have t3:aT.cell? ⟨W.heap.size+3,3,none⟩=some (.int .i64 0):=zc hh rfl
    have t4:aT.cell? ⟨W.heap.size+3,4,none⟩=some (.int .i64 20):=zc hh rfl;refine bodyPost_ret (v:=.tuple #[.slice none 0 0,.agg #[.slice A9 s.cells.length c9,.slice B9 s.tin.length d9,.slice D9 s.tout.length e9,.int .i64 0,.int .i64 20]]) (by simp[results,Tryz.results57,go_sem,t0,t1,t2,t3,t4]) rfl ?_;rw[HX.out];exact⟨none,0,_,_,_,rfl,(fM.out.chg hch fun b hb=>by omega).lower (by omega),fun i hi=>absurd hi (by simp),zl,(zka aF.out aG.out).trans (hch.below (zka aF.out aG.out).size fun b hb=>by omega),qU.out,fun h=>by first|(simp at h;done)|exact absurd h ym.out⟩
   ·have qE:=zka mM b7;have lQ:=zh hfit;have Bg:=zh zg;clear p0 s0 s1 s2 hfit zg;have nT:=zkc aD.out qE;have p0:w7.cell? ⟨W.heap.size,0,none⟩=some (.slice A1 p.vs.length c1):=zc nT rfl;have p1:w7.cell? ⟨W.heap.size,1,none⟩=some (.slice A2 p.prs.length c2):=zc nT rfl;have p2:w7.cell? ⟨W.heap.size,2,none⟩=some (.int .u8 p.m.k):=zc nT rfl;have p3:w7.cell? ⟨W.heap.size,3,none⟩=some (.int .i64 p.m.n):=zc nT rfl;have p4:w7.cell? ⟨W.heap.size,4,none⟩=some (.string p.m.s):=zc nT rfl;have p5:w7.cell? ⟨W.heap.size,5,none⟩=some (.slice A3 p.m.ks.length c3):=zc nT rfl;obtain⟨hvl,hpl,hpp,-,hpm⟩:=zml eF.out;have hmk:=zKI p.prs.length (by omega);obtain⟨np,rY⟩:=zX (p.prs.length);rw[rY]at p1 hmk;have qO:=zh rY
    obtain⟨HH,hHH⟩:∃H:World->Prop,H=fun w':World=>w'.cell? ⟨W.heap.size,0,none⟩=some (.slice A1 p.vs.length c1)/\w'.cell? ⟨W.heap.size,1,none⟩=some (.slice A2 np c2)/\w'.cell? ⟨W.heap.size,2,none⟩=some (.int .u8 p.m.k)/\w'.cell? ⟨W.heap.size,3,none⟩=some (.int .i64 p.m.n)/\w'.cell? ⟨W.heap.size,4,none⟩=some (.string p.m.s)/\w'.cell? ⟨W.heap.size,5,none⟩=some (.slice A3 p.m.ks.length c3):=⟨_,rfl⟩
    have av:=zh (show ∀w',Below w7.heap.size w7 w'->HH w' by
     rw[hHH];exact fun w' hb=>⟨zb hb p0,zb hb p1,zb hb p2,zb hb p3,zb hb p4,zb hb p5⟩)
    rw[rY];go_upto_region 6 with fail;have hSS:zW HH zU w7.drew:=⟨av.out _ zr.drew,trivial⟩
    refine wp_region_noPanic ?_;refine zG hSS 10 ?_;subst hHH;refine zT 0 hSS ?_;refine zT 1 hSS ?_;refine zT 2 hSS ?_;refine zT 3 hSS ?_;refine zT 4 hSS ?_;refine zT 5 hSS ?_;clear p0 p1 p2 p3 p4 p5 nT rY;refine zrC (fun A f l a wr=>∃(l6 l7 l8 l9:Bool) (v43 v44 v45 v12:Value) (eb rb pb:Nat),f=(!l6).toNat+(!l7).toNat+(!l8).toNat+(!l9).toNat+1/\l = #[true,true,true,true,true,true,l6,l7,l8,l9,false] /\
     a=(((A.put (some 43) v43).put (some 44) v44).put (some 45) v45).put (some 12) v12/\Hid (Below w7.heap.size w7 wr) /\
     Hid ((l7=true->l6=true)/\(l8=true->l7=true)/\(l6=true->v43=.slice (some ⟨eb,0,none⟩) np np/\wr.heap[eb]?=some (.cells (zkg (List.replicate np 0)).toArray 3 (0,0))/\w7.heap.size<=eb) /\
      (l7=true->v44=.agg #[.slice A1 p.vs.length c1,.slice A2 np c2,.int .u8 p.m.k,.int .i64 p.m.n,.string p.m.s,.slice A3 p.m.ks.length c3,.pointer (some ⟨P.sb,0,none⟩),.int .i64 0,.int .i64 F,.slice (some ⟨eb,0,none⟩) np np]) /\
      (l8=true->v45=.pointer (some ⟨rb,0,none⟩)/\wr.heap[rb]?=some (.cells #[.slice A1 p.vs.length c1,.slice A2 np c2,.int .u8 p.m.k,.int .i64 p.m.n,.string p.m.s,.slice A3 p.m.ks.length c3,.pointer (some ⟨P.sb,0,none⟩),.int .i64 0,.int .i64 F,.slice (some ⟨eb,0,none⟩) np np] 147 (0,0))/\w7.heap.size<=rb) /\
      (l9=true->v12=.pointer (some ⟨pb,0,none⟩)/\wr.heap[pb]?=some (.cells #[.pointer none] 145 (0,0))/\w7.heap.size<=pb)) /\
     Hid ((l6=false->v43=undef)/\(l7=false->v44=undef)/\(l8=false->v45=undef)/\(l9=false->v12=undef))) (fun A f l a wr h=>?_) ?_ ⟨false,false,false,false,undef,undef,undef,undef,0,0,0,rfl,rfl,(by simp only[Act.put,zD,zE,zF]),zh zr.drew,zh ⟨fun h=>(by cases h),fun h=>(by cases h),fun h=>(by cases h),fun h=>(by cases h),fun h=>(by cases h),fun h=>(by cases h)⟩,zh ⟨fun _=>rfl,fun _=>rfl,fun _=>rfl,fun _=>rfl⟩⟩
    ·obtain⟨_,_,_,_,_,_,_,_,_,_,_,_,_,_,hb,_⟩:=h;exact⟨av.out _ hb.out,trivial⟩
    rintro A' hA f l a wr ⟨l6,l7,l8,l9,v43,v44,v45,v12,eb,rb,pb,hf,rfl,ha,af,HC,HU⟩;by_cases hall:(l6&&l7&&l8&&l9)=true
    ·left
     simp only[Bool.and_eq_true]at hall;obtain⟨⟨⟨rfl,rfl⟩,rfl⟩,rfl⟩:=hall;obtain⟨-,-,h6,h7,h8,h9⟩:=HC.out;obtain⟨rfl,he,hel⟩:=h6 rfl;obtain rfl:=h7 rfl;obtain⟨rfl,hr,hrl⟩:=h8 rfl;obtain⟨rfl,hq,kC⟩:=h9 rfl;subst hf ha hA;have hner:eb≠rb:=zuZ he hr (by decide);have hneq:eb≠pb:=zuZ he hq (by decide);have hnrq:rb≠pb:=zuZ hr hq (by decide);have c0:wr.cell? ⟨pb,0,none⟩=some (.pointer none):=zc hq rfl;have cf:∀j,wr.frozen? ⟨pb,j,none⟩=false:=fun j=>zf hq;refine zp 10 fun K hK=>?_;(try simp only[zQ]);go_simp;have hch:Chg (fun b=>b=pb) wr (wr.setCell ⟨pb,0,none⟩ (.pointer (some ⟨rb,0,none⟩))):=(Chg.refl (fun b=>b=pb) wr).setCell (p:=⟨pb,0,none⟩) (.inl rfl) _;have hh:(wr.setCell ⟨pb,0,none⟩ (.pointer (some ⟨rb,0,none⟩))).heap[pb]?=some (.cells #[.pointer (some ⟨rb,0,none⟩)] 145 (0,0)):=by
      rw[heap_setCell_same wr pb 0 _ _ (.pointer (some ⟨rb,0,none⟩)) hq];rfl
     have dQ:=zh (show Below w7.heap.size w7 (wr.setCell ⟨pb,0,none⟩ (.pointer (some ⟨rb,0,none⟩)))from af.out.trans (hch.below af.out.size fun b e=>by omega));have BM:=zh (hch.keep he hneq);have gV:=zh (hch.keep hr hnrq);have yz:=zh hh;obtain⟨w8,hw8⟩:=zX (wr.setCell ⟨pb,0,none⟩ (.pointer (some ⟨rb,0,none⟩)));rw[hw8]at dQ BM gV yz ⊢;refine hK.out _ _ (av.out _ dQ.out) ?_;clear hK K hSS hch hh hw8 c0 cf he hr hq h6 h7 h8 h9 HC HU af hmk av;refine zd ?_;refine NoPanic.normal ?_;(try simp only[zQ]);have hlt_e:=zkn BM.out;have hlt_r:=zkn gV.out;have hlt_q:=zkn yz.out;obtain⟨C,hC⟩:∃C:RC,C=⟨W,w6.heap.size,P.sb,rb,p,A1,c1,A2,c2,A3,c3,F,.slice (some ⟨eb,0,none⟩) np np,fun b=>b=pb⟩:=⟨_,rfl⟩
     have hs67:=b7.size;have hs46:=mM.size;have xO:=qF.out;have hbWw6:=zka aF.out mM;have yL:=zh (show C.Ok by
      rw[hC];exact⟨Bo.out,hF,eD,⟨by simp only;omega,by simp only;exact hnrq⟩,⟨by simp[Value.ownBlock];exact hner,fun b hb hk=>by simp only[Value.ownBlock,Option.some.injEq]at hb;simp only at hk;omega⟩,fun q hq=>by have:=(hpp q hq).1;omega⟩)
     have dA:=zh (show RI C w8 ⟨newS p.vs s,0,List.replicate np 0⟩ by
      rw[hC];have hks:=(KS.new hbWw6 b7 Bg.out).also dQ.out (kb':=fun b=>b=pb\/b=rb\/(Value.slice (some ⟨eb,0,none⟩) np np).ownBlock=some b) (fun b hb=>.inr (by
       rcases hb with rfl|rfl|hb
       ·exact⟨kC,hlt_q⟩
       ·exact⟨hrl,hlt_r⟩
       ·simp[Value.ownBlock]at hb;subst hb;exact⟨hel,hlt_e⟩))
      refine⟨hks,by rw[<-qO.out]at gV;simpa[RC.cells,qO.out]using gV.out,?_,by simp[qO.out],fun c hc=>by simp at hc;omega,by simp,?_⟩
      ·refine⟨by simp[zkg],.inr ⟨eb,np,_,by simp,Nat.le_trans hs67 hel,BM.out,by simp,by unfold maxLen;have:=qO.out;omega,by simp[zkg],by simp[zkg]⟩⟩
      ·exact⟨by simp only[newS];omega,fun f hf=>by simp[newS]at hf⟩)
     obtain⟨GX,hGX,hGM⟩:=HFAM.out;have vQ:=zh (hGM eF.out iL.out);clear hGM;obtain⟨o,ho⟩:=zX (runO p.prs F g back p.m ⟨newS p.vs s,0,List.replicate np 0⟩);have hog:o ≠ .gas:=ho▸(zvY eF.out hg back (newS p.vs s) (List.replicate np 0)).1;have hon:Nz o:=ho▸vQ.out.2 _ _ _ _;have HRR:=zh (show Re=outR s o by rw[<-dW.out,resO,if_neg (by rw[eF.out,iL.out];simp),if_neg (by rw[lQ.out];simp),<-ho,<-qO.out]);have jW:=zka qE dQ.out;obtain⟨jb,hjb⟩:=zX (w8.heap.size);obtain⟨w9,dx⟩:=zX (w8.alloc (.cells #[.slice none 0 0,.bool false] 152));have HAT:=zh (zrq hGX yL.out dA.out dx hjb (by rw[hC];exact vQ.out.1) g back o (by rw[hC];exact ho) hog pb W.heap.size (W.heap.size+1+1) (by rw[hC];exact zc yz.out rfl) (by rw[hC];simp only;rw[qO.out];have:=zkc aD.out jW;rw[qO.out]at this;exact this) (zc (zkc aR.out jW) rfl))
     have xN:w9.heap.size=jb+1:=by rw[<-dx];simp[hjb]
     have HK89:=zh (show Kpt C.n0 C.kb w8 w9 from Kpt.of_below (dx▸zkb (zs w8) _));have oM:∀(fn:Fn) (first cap:Array Value) (w:World),(Instr.makeFunc fn first cap).run Tryz.prog w=.ok (.func fn first cap) w:=fun _ _ _ _=>rfl;have HN0C:=zh (show C.n0=w6.heap.size/\C.w=W/\C.rb=rb/\C.ev=.slice (some ⟨eb,0,none⟩) np np/\(C.kb=fun b=>b=pb)/\C.sb=P.sb/\C.p=p by rw[hC];exact⟨rfl,rfl,rfl,rfl,rfl,rfl,rfl⟩);have HHB48:=zh jW;have jV:=aF.out;have hb4s:W.heap.size<=w6.heap.size:=hbWw6.size;clear hC jW ho hlt_e hlt_r;go_wp2_with fail;refine HAT.out.mono ?_;rintro e10 aQ hat;clear HAT dx oM;rcases hat with⟨rfl,aT,⟨r,rfl,hok,bg,hkp⟩,hch⟩|⟨x,rfl,aT,⟨rfl,hkp,hbl⟩,hch⟩
     ·obtain⟨hn0,hcw,oW,mq,kI,oV,hcp⟩:=HN0C.out;have hri1:=RI.chgK (C:=C.plus jb w9.heap.size) hok bg hch (by show C.w.heap.size<=_;rw[hcw];have:=dQ.out.size;omega);have jq:RI C aQ r:=hri1.less.less;have hkk:Kpt C.n0 C.kb w8 aQ:=HK89.out.trans ((Kpt.less (C:=C) hkp).trans (Kpt.chg hch fun b hb=>⟨by rw[hn0];omega,by rw[kI];intro e;subst e;omega⟩));have dF:=zqM jV (by have:=jq.below;rw[hcw]at this;exact this) HHB48.out hkk (by rw[hn0];exact hs46);have gG:=zh jq;have HX:=zh (show Re=(r.S.state,r.n,0,r.ent)from HRR.out);obtain⟨-,x7,-,x9,-⟩:=jq.cells;rw[oW]at x7 x9;rw[mq]at x9;have xp:aQ.cell? ⟨pb,0,none⟩=some (.pointer (some ⟨rb,0,none⟩)):=zc (hkk.blk (.inr (by rw[kI])) yz.out) rfl;have HKR:=zh (zkc gM.out dF);have nM:=zh dF;have hls:=jq.ks;have HST:=zh (fun w' (hb:Below aQ.heap.size aQ w')=>(hls.later hb).state);rw[oV]at HST
      have uy:=zh (show r.ent.length=np by rw[jq.el,hcp,qO.out]);have nI:=zh jq.ent;rw[hn0,mq]at nI;have hne0:(0:Int)=0:=rfl;have av:=zh (show ∀w',Below aQ.heap.size aQ w'->(fun w':World=>zv w' pb 0 (.pointer (some ⟨rb,0,none⟩))/\zv w' rb 7 (.int .i64 r.n)/\zv w' rb 9 (.slice (some ⟨eb,0,none⟩) np np)) w' from fun w' hb=>⟨zb hb xp,zb hb x7,zb hb x9⟩);clear bg hri1 jq hkk hkp hls hn0 hcw oW mq kI oV hch x7 x9 xp dF hok;go_upto_region 10 with fail;have hSS:zW (fun w':World=>zv w' pb 0 (.pointer (some ⟨rb,0,none⟩))/\zv w' rb 7 (.int .i64 r.n)/\zv w' rb 9 (.slice (some ⟨eb,0,none⟩) np np)) zU aQ.drew:=⟨av.out _ zr.drew,trivial⟩
      refine wp_region_noPanic ?_;refine zG hSS 12 ?_;refine zT 0 hSS ?_;refine zT 1 hSS ?_;refine zT 2 hSS ?_;refine zT 3 hSS ?_;refine zT 4 hSS ?_;refine zT 6 hSS ?_;refine zT 7 hSS ?_;refine zT 8 hSS ?_;refine zT 9 hSS ?_;have had:Calls Tryz.prog 102 [.pointer (some ⟨P.sb,0,none⟩)].toArray aQ.drew fun e W'=>∃v,e=.returned v/\(OwnS W' aQ.heap.size r.S.state v/\Below aQ.heap.size aQ W') :=
       (HST.out _ zr.drew).mono fun e w' ⟨v,h1,h2,h3⟩=>⟨v,h1,h2,zka (zs aQ).drew h3⟩
      refine zo 5 fun K hK=>?_;refine zkd (by rfl) (.func 102) [.tmp 59] _ (by rfl) 102 _ zww (by rfl) _ (by rfl) _ had ?_;rintro v12 iR ⟨rW,pz⟩;obtain⟨A9,c9,B9,d9,D9,e9,rfl⟩:=rW.slices;have HO12:=zh rW;have gQ:=zh pz;refine hK.out _ _ ⟨av.out _ pz,trivial⟩ ?_;have aM:=zV hSS (av.out _ pz) trivial;clear hK K hSS had rW pz;(try simp only[zQ]);have hbr:=zKH;refine zT 10 aM ?_;refine zo 11 fun K hK=>?_;(try simp only[zA,zB,zC]);go_simp;refine hK.out _ _ ⟨av.out _ gQ.out,trivial⟩ ?_;clear hK K;(try simp only[zQ]);have aK:=zkc HKR.out gQ.out;have x0:iR.cell? ⟨W.heap.size+3,0,none⟩=some (.slice none 0 0):=zc aK rfl;have x1:iR.cell? ⟨W.heap.size+3,1,none⟩=some (.slice none 0 0):=zc aK rfl;have x2:iR.cell? ⟨W.heap.size+3,2,none⟩=some (.slice none 0 0):=zc aK rfl;have x3:iR.cell? ⟨W.heap.size+3,3,none⟩=some (.int .i64 0):=zc aK rfl
      have x4:iR.cell? ⟨W.heap.size+3,4,none⟩=some (.int .i64 0):=zc aK rfl;have xf:∀o,iR.frozen? ⟨W.heap.size+3,o,none⟩=false:=fun _=>zf aK;refine zp 12 fun K hK=>?_;(try simp only[zQ]);go_simp;obtain⟨hh,hch⟩:=set5 (u0:=.slice A9 r.S.state.cells.length c9) (u1:=.slice B9 r.S.state.tin.length d9) (u2:=.slice D9 r.S.state.tout.length e9) (u3:=.int .i64 r.n) (u4:=.int .i64 0) aK;obtain⟨kZ,hw13⟩:=zX ((((((iR.setCell ⟨W.heap.size+3,0,none⟩ (.slice A9 r.S.state.cells.length c9)).setCell ⟨W.heap.size+3,1,none⟩ (.slice B9 r.S.state.tin.length d9)).setCell ⟨W.heap.size+3,2,none⟩ (.slice D9 r.S.state.tout.length e9)).setCell ⟨W.heap.size+3,3,none⟩ (.int .i64 r.n)).setCell ⟨W.heap.size+3,4,none⟩ (.int .i64 0)));rw[hw13]at hh hch ⊢;have dC:=zh hch;have t0:kZ.cell? ⟨W.heap.size+3,0,none⟩=some (.slice A9 r.S.state.cells.length c9):=zc hh rfl
      have t1:kZ.cell? ⟨W.heap.size+3,1,none⟩=some (.slice B9 r.S.state.tin.length d9):=zc hh rfl;have t2:kZ.cell? ⟨W.heap.size+3,2,none⟩=some (.slice D9 r.S.state.tout.length e9):=zc hh rfl;have t3:kZ.cell? ⟨W.heap.size+3,3,none⟩=some (.int .i64 r.n):=zc hh rfl;have t4:kZ.cell? ⟨W.heap.size+3,4,none⟩=some (.int .i64 0):=zc hh rfl;have hszs:W.heap.size+4<=aQ.heap.size:=by have:=nM.out.size;omega
      have hplt:W.heap.size+3<w7.heap.size:=by have:=qE.size;omega
      refine hK.out _ _ ?_ ?_
      ·obtain⟨q1,q2,q3⟩:=av.out _ gQ.out;exact⟨zkU hch q1 (by simp only;omega),zkU hch q2 (by simp only;omega),zkU hch q3 (by simp only;omega)⟩
      clear hK K hch hh hw13 x0 x1 x2 x3 x4 xf aK aM av;(try simp only[zQ]);refine zd ?_;refine NoPanic.normal ?_;go_wp2_with fail;have hrow:=zkp nI.out gQ.out;have hrow2:=zmr hrow (fun b hb=>dC.out.block b (hrow.lt b hb).2 (by have:=(hrow.lt b hb).1;omega));have hI:∀z∈r.ent.map Int.ofNat,I64 z:=fun z hz=>by
       obtain⟨q,hq,rfl⟩:=List.mem_map.1 hz;have h1:=gG.out.en q hq;have h2:=gG.out.n;exact⟨by simp only[Int.ofNat_eq_natCast];omega,by simp only[Int.ofNat_eq_natCast];omega⟩
      obtain⟨Ae,ce,he1,he2,he3⟩:=zrV (l:=r.ent.map Int.ofNat) (by simpa using hrow2) hI;injection he1 with he1 _ he4;subst he1 he4;refine bodyPost_ret (v:=.tuple #[.slice (some ⟨eb,0,none⟩) np np,.agg #[.slice A9 r.S.state.cells.length c9,.slice B9 r.S.state.tin.length d9,.slice D9 r.S.state.tout.length e9,.int .i64 r.n,.int .i64 0]]) (by simp[results,Tryz.results57,go_sem,t0,t1,t2,t3,t4]) rfl ?_;rw[HX.out];refine⟨_,_,_,_,_,by rw[uy.out],(HO12.out.chg dC.out fun b hb=>by omega).lower (by omega),he3.keep (fun b hb _=>by have:=hb4s;omega) (fun _ _ _=>rfl),by simpa using he2,?_⟩;exact⟨(zka jV (zka nM.out gQ.out)).trans (dC.out.below (zka jV (zka nM.out gQ.out)).size fun b hb=>by omega),LimR.run gG.out.ks.wf gG.out.fb _⟩
     ·have hx:x≠0:=fun e=>hon (by rw[e]);obtain⟨hn0,hcw,oW,mq,kI,oV,-⟩:=HN0C.out;have hkk:Kpt C.n0 C.kb w8 aQ:=HK89.out.trans ((Kpt.less (C:=C) hkp).trans (Kpt.chg hch fun b hb=>⟨by rw[hn0];omega,by rw[kI];intro e;subst e;omega⟩));have o8:Below C.w.heap.size C.w aT:=hbl;rw[hcw]at o8;have xV:=dQ.out.size;have o9:Below W.heap.size W aQ:=o8.trans (hch.below o8.size fun b hb=>by omega);have dF:=zqM jV o9 HHB48.out hkk (by rw[hn0];exact hs46);have HX:=zh (show Re=(s,0,x,[])from HRR.out);have e1:(x != 0)=true:=by simpa using hx
      have ym:=zh hx;clear hn0 hcw oW mq kI oV hkk o9 hkp hbl o8 hch hon;have dU:=zkc az.out dF;have mH:=zkc gM.out dF;have s0:aQ.cell? ⟨W.heap.size+1,0,none⟩=some (.slice A s.cells.length c):=zc dU rfl;have s1:aQ.cell? ⟨W.heap.size+1,1,none⟩=some (.slice B s.tin.length d):=zc dU rfl;have s2:aQ.cell? ⟨W.heap.size+1,2,none⟩=some (.slice D s.tout.length e):=zc dU rfl;have aZ:=zh (eG.out aQ (zka aF.out dF));have di:=zh mH;have hbq:=dF;clear dU mH;go_wp2_with fail;refine aZ.out.mono ?_;rintro e9 w9 ⟨v9,rfl,dL,aU⟩;obtain⟨A9,c9,B9,d9,D9,e9,rfl⟩:=dL.slices;have fM:=zh dL;have aG:=zh (zka hbq aU);have aK:=zkc di.out aU;have x0:w9.cell? ⟨W.heap.size+3,0,none⟩=some (.slice none 0 0):=zc aK rfl;have x1:w9.cell? ⟨W.heap.size+3,1,none⟩=some (.slice none 0 0):=zc aK rfl
      have x2:w9.cell? ⟨W.heap.size+3,2,none⟩=some (.slice none 0 0):=zc aK rfl;have x3:w9.cell? ⟨W.heap.size+3,3,none⟩=some (.int .i64 0):=zc aK rfl;have x4:w9.cell? ⟨W.heap.size+3,4,none⟩=some (.int .i64 0):=zc aK rfl;have xf:∀o,w9.frozen? ⟨W.heap.size+3,o,none⟩=false:=fun _=>zf aK;have gY:=zh aK;have hbr:=bRes;have jo:W.heap.size+4<=aQ.heap.size:=by have:=hbq.size;rw[qF.out]at this;exact this
      clear s0 s1 s2 aK dL aU hbq aZ;go_wp2_with fail;obtain⟨hh,hch⟩:=set5 (u0:=.slice A9 s.cells.length c9) (u1:=.slice B9 s.tin.length d9) (u2:=.slice D9 s.tout.length e9) (u3:=.int .i64 0) (u4:=.int .i64 x) gY.out;obtain⟨aT,bW⟩:=zX ((((((w9.setCell ⟨W.heap.size+3,0,none⟩ (.slice A9 s.cells.length c9)).setCell ⟨W.heap.size+3,1,none⟩ (.slice B9 s.tin.length d9)).setCell ⟨W.heap.size+3,2,none⟩ (.slice D9 s.tout.length e9)).setCell ⟨W.heap.size+3,3,none⟩ (.int .i64 0)).setCell ⟨W.heap.size+3,4,none⟩ (.int .i64 x)));rw[bW]at hh hch ⊢;have t0:aT.cell? ⟨W.heap.size+3,0,none⟩=some (.slice A9 s.cells.length c9):=zc hh rfl;have t1:aT.cell? ⟨W.heap.size+3,1,none⟩=some (.slice B9 s.tin.length d9):=zc hh rfl;have t2:aT.cell? ⟨W.heap.size+3,2,none⟩=some (.slice D9 s.tout.length e9):=zc hh rfl;have t3:aT.cell? ⟨W.heap.size+3,3,none⟩=some (.int .i64 0):=zc hh rfl
      have t4:aT.cell? ⟨W.heap.size+3,4,none⟩=some (.int .i64 x):=zc hh rfl;refine bodyPost_ret (v:=.tuple #[.slice none 0 0,.agg #[.slice A9 s.cells.length c9,.slice B9 s.tin.length d9,.slice D9 s.tout.length e9,.int .i64 0,.int .i64 x]]) (by simp[results,Tryz.results57,go_sem,t0,t1,t2,t3,t4]) rfl ?_;rw[HX.out];exact⟨none,0,_,_,_,rfl,(fM.out.chg hch fun b hb=>by omega).lower (by omega),fun i hi=>absurd hi (by simp),zl,(zka aF.out aG.out).trans (hch.below (zka aF.out aG.out).size fun b hb=>by omega),qU.out,fun h=>by first|(simp at h;done)|exact absurd h ym.out⟩
    ·right
     have bu:=HC.out;have iW:=HU.out;have hcc:(l7=true->l6=true)/\(l8=true->l7=true):=⟨bu.1,bu.2.1⟩
     refine⟨f-1,?_,?_,?_⟩
     ·clear HC bu HU iW ha af hcc;subst hf;revert hall;revert l6 l7 l8 l9
      decide
     ·clear HC bu HU iW ha af hf;revert hall hcc;revert l6 l7 l8 l9
      decide +kernel
     intro i hi;have hcase:(i=6/\l6=false/\l7=false/\l8=false)\/(i=7/\l7=false/\l6=true/\l8=false)\/(i=8/\l8=false/\l6=true/\l7=true)\/(i=9/\l9=false):=by
      refine of_decide_eq_true ((List.all_eq_true (p:=fun i=>decide ((i=6/\l6=false/\l7=false/\l8=false)\/(i=7/\l7=false/\l6=true/\l8=false)\/(i=8/\l8=false/\l6=true/\l7=true)\/(i=9/\l9=false)))).1 ?_ i hi);clear HC bu HU iW ha af hf hi;revert hall hcc;revert l6 l7 l8 l9
      decide +kernel
     clear hi hall;subst ha hA;rcases hcase with⟨rfl,rfl,rfl,rfl⟩|⟨rfl,rfl,rfl,rfl⟩|⟨rfl,rfl,rfl,rfl⟩|⟨rfl,rfl⟩
     ·refine wpOp_step rfl (fun K' ah=>?_);have hK:=zh ah;clear ah;have hU1:=iW.1 rfl;have zN:=iW.2.1 rfl;have wF:=iW.2.2.1 rfl;subst hU1 zN wF;(try simp only[zQ]);go_simp;have hsz:=af.out.size;exact hK.out _ _ ⟨true,false,false,l9,_,undef,undef,v12,wr.heap.size,0,pb,(by subst hf;simp<;>omega),rfl,(by simp only[zQ]),zh (zkb af.out _),zh ⟨fun h=>(by cases h),fun h=>(by cases h),fun _=>⟨rfl,heap_alloc_new wr _,hsz⟩,fun h=>(by cases h),fun h=>(by cases h),fun h=>⟨(bu.2.2.2.2.2 h).1,zkf (bu.2.2.2.2.2 h).2.1 _,(bu.2.2.2.2.2 h).2.2⟩⟩,zh ⟨fun h=>(by cases h),fun _=>rfl,fun _=>rfl,iW.2.2.2⟩⟩
     ·refine wpOp_step rfl (fun K' ah=>?_);have hK:=zh ah;clear ah;have zN:=iW.2.1 rfl;have wF:=iW.2.2.1 rfl;obtain⟨hv6,he,hel⟩:=bu.2.2.1 rfl;subst zN wF hv6;have hbn:=bRun;(try simp only[zQ]);go_simp;exact hK.out _ _ ⟨true,true,false,l9,_,_,undef,v12,eb,0,pb,(by subst hf;simp<;>omega),rfl,(by simp only[zQ]),af,zh ⟨fun _=>rfl,fun h=>(by cases h),fun _=>⟨rfl,he,hel⟩,fun _=>rfl,fun h=>(by cases h),bu.2.2.2.2.2⟩,zh ⟨fun h=>(by cases h),fun h=>(by cases h),fun _=>rfl,iW.2.2.2⟩⟩
     ·refine wpOp_step rfl (fun K' ah=>?_);have hK:=zh ah;clear ah;have wF:=iW.2.2.1 rfl;obtain⟨hv6,he,hel⟩:=bu.2.2.1 rfl;have hv7:=bu.2.2.2.1 rfl;subst wF hv6 hv7;(try simp only[zQ]);go_simp;have hsz:=af.out.size;exact hK.out _ _ ⟨true,true,true,l9,_,_,_,v12,eb,wr.heap.size,pb,(by subst hf;simp<;>omega),rfl,(by simp only[zQ]),zh (zkb af.out _),zh ⟨fun _=>rfl,fun _=>rfl,fun _=>⟨rfl,zkf he _,hel⟩,fun _=>rfl,fun _=>⟨rfl,heap_alloc_new wr _,hsz⟩,fun h=>⟨(bu.2.2.2.2.2 h).1,zkf (bu.2.2.2.2.2 h).2.1 _,(bu.2.2.2.2.2 h).2.2⟩⟩,zh ⟨fun h=>(by cases h),fun h=>(by cases h),fun h=>(by cases h),iW.2.2.2⟩⟩
     ·refine wpOp_step rfl (fun K' ah=>?_);have hK:=zh ah;clear ah;have hU4:=iW.2.2.2 rfl;subst hU4;(try simp only[zQ]);go_simp;have hsz:=af.out.size;exact hK.out _ _ ⟨l6,l7,l8,true,v43,v44,v45,_,eb,rb,wr.heap.size,(by subst hf;simp<;>omega),rfl,(by simp only[zQ]),zh (zkb af.out _),zh ⟨bu.1,bu.2.1,fun h=>⟨(bu.2.2.1 h).1,zkf (bu.2.2.1 h).2.1 _,(bu.2.2.1 h).2.2⟩,bu.2.2.2.1,fun h=>⟨(bu.2.2.2.2.1 h).1,zkf (bu.2.2.2.2.1 h).2.1 _,(bu.2.2.2.2.1 h).2.2⟩,fun _=>⟨rfl,heap_alloc_new wr _,hsz⟩⟩,zh ⟨iW.1,iW.2.1,iW.2.2.1,fun h=>(by cases h)⟩⟩
  ·have HX:=zh (show Re=(s,0,3,[]) by rw[<-dW.out,resO,if_pos (.inr hn)]);obtain⟨n,hnn⟩:=zX (chkN p);rw[hnn];have hng:(0:Int)<(n:Int):=by omega
   clear hn hnn;have dU:=zkc az.out mM;have mH:=zkc gM.out mM;have s0:w6.cell? ⟨W.heap.size+1,0,none⟩=some (.slice A s.cells.length c):=zc dU rfl;have s1:w6.cell? ⟨W.heap.size+1,1,none⟩=some (.slice B s.tin.length d):=zc dU rfl;have s2:w6.cell? ⟨W.heap.size+1,2,none⟩=some (.slice D s.tout.length e):=zc dU rfl;have aZ:=zh (eG.out w6 (zka aF.out mM));have di:=zh mH;have hbq:=mM;clear dU mH;go_wp2_with fail;refine aZ.out.mono ?_;rintro e9 w9 ⟨v9,rfl,dL,aU⟩;obtain⟨A9,c9,B9,d9,D9,e9,rfl⟩:=dL.slices;have fM:=zh dL;have aG:=zh (zka hbq aU);have aK:=zkc di.out aU;have x0:w9.cell? ⟨W.heap.size+3,0,none⟩=some (.slice none 0 0):=zc aK rfl;have x1:w9.cell? ⟨W.heap.size+3,1,none⟩=some (.slice none 0 0):=zc aK rfl;have x2:w9.cell? ⟨W.heap.size+3,2,none⟩=some (.slice none 0 0):=zc aK rfl;have x3:w9.cell? ⟨W.heap.size+3,3,none⟩=some (.int .i64 0):=zc aK rfl
   have x4:w9.cell? ⟨W.heap.size+3,4,none⟩=some (.int .i64 0):=zc aK rfl;have xf:∀o,w9.frozen? ⟨W.heap.size+3,o,none⟩=false:=fun _=>zf aK;have gY:=zh aK;have hbr:=bRes;have jo:W.heap.size+4<=w6.heap.size:=by have:=hbq.size;rw[qF.out]at this;exact this
   clear s0 s1 s2 aK dL aU hbq aZ;go_wp2_with fail;obtain⟨hh,hch⟩:=set5 (u0:=.slice A9 s.cells.length c9) (u1:=.slice B9 s.tin.length d9) (u2:=.slice D9 s.tout.length e9) (u3:=.int .i64 0) (u4:=.int .i64 3) gY.out;obtain⟨aT,bW⟩:=zX ((((((w9.setCell ⟨W.heap.size+3,0,none⟩ (.slice A9 s.cells.length c9)).setCell ⟨W.heap.size+3,1,none⟩ (.slice B9 s.tin.length d9)).setCell ⟨W.heap.size+3,2,none⟩ (.slice D9 s.tout.length e9)).setCell ⟨W.heap.size+3,3,none⟩ (.int .i64 0)).setCell ⟨W.heap.size+3,4,none⟩ (.int .i64 3)));rw[bW]at hh hch ⊢;have t0:aT.cell? ⟨W.heap.size+3,0,none⟩=some (.slice A9 s.cells.length c9):=zc hh rfl;have t1:aT.cell? ⟨W.heap.size+3,1,none⟩=some (.slice B9 s.tin.length d9):=zc hh rfl;have t2:aT.cell? ⟨W.heap.size+3,2,none⟩=some (.slice D9 s.tout.length e9):=zc hh rfl;have t3:aT.cell? ⟨W.heap.size+3,3,none⟩=some (.int .i64 0):=zc hh rfl
   have t4:aT.cell? ⟨W.heap.size+3,4,none⟩=some (.int .i64 3):=zc hh rfl;refine bodyPost_ret (v:=.tuple #[.slice none 0 0,.agg #[.slice A9 s.cells.length c9,.slice B9 s.tin.length d9,.slice D9 s.tout.length e9,.int .i64 0,.int .i64 3]]) (by simp[results,Tryz.results57,go_sem,t0,t1,t2,t3,t4]) rfl ?_;rw[HX.out];exact⟨none,0,_,_,_,rfl,(fM.out.chg hch fun b hb=>by omega).lower (by omega),fun i hi=>absurd hi (by simp),zl,(zka aF.out aG.out).trans (hch.below (zka aF.out aG.out).size fun b hb=>by omega),qU.out,fun h=>by first|(simp at h;done)|exact absurd h ym.out⟩
def FwP(W:World)(R:SS×Nat×Int×List Nat)(e:Ending)(W':World):Prop:=∃v1 v2 v3,e=.returned (.agg #[v1,v2,v3,.int .i64 (R.2.1:Int),.int .i64 R.2.2.1]) /\
 OwnS W' W.heap.size R.1 (.agg #[v1,v2,v3])/\Below W.heap.size W W'/\LimR R
theorem zrz(p:PG)(s:SS)(F:Int)(g:Nat)(v sv:Value)(W:World)(hp:PV W Any p v)(hs:SV W Any s sv)(hcl:s.cells.length<=5864062014800)(hF:I64 F)(eD:F<=1000000)(hg:F.toNat*2000+2000<=g)(hfam:Fam p) :
  Calls Tryz.prog 21 #[v,sv,.int .i64 F] W (FwP W (resO p s F g false)):=by
 have mX:=zh hp;have HSX:=zh hs;obtain⟨A1,c1,A2,c2,A3,c3,rfl,fZ⟩:=hp;obtain⟨A,c,B,d,D,e,rfl,hr1,hr2,hr3,hc1,hc2,hc3,hl1,hl2,hl3,hl4⟩:=hs;have HST:=zh (fun w' (hb:Below W.heap.size W w')=>ztC p s F g false _ _ w' (mX.out.later hb) (HSX.out.later hb) hcl hF eD hg hfam);have hb3:=zkb (zkb (zkb (zs W) (.cells #[.slice A1 p.vs.length c1,.slice A2 p.prs.length c2,.int .u8 p.m.k,.int .i64 p.m.n,.string p.m.s,.slice A3 p.m.ks.length c3] 43)) (.cells #[.slice A s.cells.length c,.slice B s.tin.length d,.slice D s.tout.length e] 32)) (.cells #[.slice none 0 0,.slice none 0 0,.slice none 0 0,.int .i64 0,.int .i64 0] 59)
 have k2:=heap_alloc_new ((W.alloc (.cells #[.slice A1 p.vs.length c1,.slice A2 p.prs.length c2,.int .u8 p.m.k,.int .i64 p.m.n,.string p.m.s,.slice A3 p.m.ks.length c3] 43)).alloc (.cells #[.slice A s.cells.length c,.slice B s.tin.length d,.slice D s.tout.length e] 32)) (.cells #[.slice none 0 0,.slice none 0 0,.slice none 0 0,.int .i64 0,.int .i64 0] 59);simp only[World.size_alloc]at k2;obtain⟨Re,hRe⟩:=zX (resO p s F g false);rw[hRe]at HST;have HR:=zh hRe;have HB3:=zh hb3;have aR:=zh k2;have hz3:W.heap.size+3<=(((W.alloc (.cells #[.slice A1 p.vs.length c1,.slice A2 p.prs.length c2,.int .u8 p.m.k,.int .i64 p.m.n,.string p.m.s,.slice A3 p.m.ks.length c3] 43)).alloc (.cells #[.slice A s.cells.length c,.slice B s.tin.length d,.slice D s.tout.length e] 32)).alloc (.cells #[.slice none 0 0,.slice none 0 0,.slice none 0 0,.int .i64 0,.int .i64 0] 59)).heap.size:=by simp
 rw[hRe];clear fZ hr1 hr2 hr3 hRe hb3 k2 hl1 hl2 hl3 hl4 hc1 hc2 hc3;clear hfam;go_enter Tryz.func21,Tryz.ntmps21;go_wp2_with fail;refine(HST.out _ HB3.out).mono ?_;rintro e9 w9 ⟨A9,c9,v1,v2,v3,rfl,dL,-,-,aU,hlm9⟩;have qU:=zh hlm9;clear hlm9;obtain⟨A4,c4,B5,d5,D6,e6,h6⟩:=dL.slices;injection h6 with h6;injection h6 with h6;injection h6 with h6 h7;injection h7 with h7 h8;injection h8 with h8 _;subst h6 h7 h8;have fM:=zh dL;have aG:=zh aU;have aK:=zkc aR.out aU;have x0:w9.cell? ⟨W.heap.size+1+1,0,none⟩=some (.slice none 0 0):=zc aK rfl;have x1:w9.cell? ⟨W.heap.size+1+1,1,none⟩=some (.slice none 0 0):=zc aK rfl;have x2:w9.cell? ⟨W.heap.size+1+1,2,none⟩=some (.slice none 0 0):=zc aK rfl;have x3:w9.cell? ⟨W.heap.size+1+1,3,none⟩=some (.int .i64 0):=zc aK rfl;have x4:w9.cell? ⟨W.heap.size+1+1,4,none⟩=some (.int .i64 0):=zc aK rfl
 have xf:∀o,w9.frozen? ⟨W.heap.size+1+1,o,none⟩=false:=fun _=>zf aK;have y0:=fun o=>zks x0 o;have y1:=fun o=>zks x1 o;have y2:=fun o=>zks x2 o;have y3:=fun o=>zks x3 o;have y4:=fun o=>zks x4 o;have hlt9:W.heap.size+1+1<w9.heap.size:=zkn aK;have gY:=zh aK;clear dL aU aK;go_wp2_with fail;obtain⟨hh,hch⟩:=set5 (u0:=.slice A4 Re.1.cells.length c4) (u1:=.slice B5 Re.1.tin.length d5) (u2:=.slice D6 Re.1.tout.length e6) (u3:=.int .i64 (Re.2.1:Int)) (u4:=.int .i64 Re.2.2.1) gY.out;obtain⟨aT,bW⟩:=zX ((((((w9.setCell ⟨W.heap.size+1+1,0,none⟩ (.slice A4 Re.1.cells.length c4)).setCell ⟨W.heap.size+1+1,1,none⟩ (.slice B5 Re.1.tin.length d5)).setCell ⟨W.heap.size+1+1,2,none⟩ (.slice D6 Re.1.tout.length e6)).setCell ⟨W.heap.size+1+1,3,none⟩ (.int .i64 (Re.2.1:Int))).setCell ⟨W.heap.size+1+1,4,none⟩ (.int .i64 Re.2.2.1)));rw[bW]at hh hch ⊢
 obtain⟨aQ,fQ⟩:=zX (aT.alloc (.cells #[.slice A4 Re.1.cells.length c4,.slice B5 Re.1.tin.length d5,.slice D6 Re.1.tout.length e6,.int .i64 (Re.2.1:Int),.int .i64 Re.2.2.1] 59));rw[fQ];have t0:aQ.cell? ⟨W.heap.size+1+1,0,none⟩=some (.slice A4 Re.1.cells.length c4):=fQ▸zks (zc hh rfl) _;have t1:aQ.cell? ⟨W.heap.size+1+1,1,none⟩=some (.slice B5 Re.1.tin.length d5):=fQ▸zks (zc hh rfl) _;have t2:aQ.cell? ⟨W.heap.size+1+1,2,none⟩=some (.slice D6 Re.1.tout.length e6):=fQ▸zks (zc hh rfl) _;have t3:aQ.cell? ⟨W.heap.size+1+1,3,none⟩=some (.int .i64 (Re.2.1:Int)):=fQ▸zks (zc hh rfl) _;have t4:aQ.cell? ⟨W.heap.size+1+1,4,none⟩=some (.int .i64 Re.2.2.1):=fQ▸zks (zc hh rfl) _
 refine bodyPost_ret (v:=.agg #[.slice A4 Re.1.cells.length c4,.slice B5 Re.1.tin.length d5,.slice D6 Re.1.tout.length e6,.int .i64 (Re.2.1:Int),.int .i64 Re.2.2.1]) (by simp[results,Tryz.results21,go_sem,t0,t1,t2,t3,t4]) rfl ?_;have hz33:=hz3;have hb39:Below W.heap.size W w9:=zka HB3.out aG.out;have dM:Chg (fun b=>b=W.heap.size+1+1) w9 aQ:=fQ▸hch.alloc _;have oL:=fM.out.chg dM fun b hb=>by omega
 have pE:=hb39.trans (dM.below hb39.size fun b hb=>by omega);exact⟨_,_,_,rfl,oL.lower (by omega),pE,qU.out⟩
theorem zmh(p:PG)(s:SS)(F:Int)(g:Nat)(v sv:Value)(W:World)(hp:PV W Any p v)(hs:SV W Any s sv)(hcl:s.cells.length<=5864062014800)(hF:I64 F)(eD:F<=1000000)(hg:F.toNat*2000+2000<=g) :
  Calls Tryz.prog 21 #[v,sv,.int .i64 F] W (FwP W (resO p s F g false)):=zrz p s F g v sv W hp hs hcl hF eD hg (zyN p)
section
variable {E:Prop} {Rl:Nat->ST->ST->Prop} {F F' k:Int} {o o':Out}
end
section
variable {S:ST} {l:List Int}
end
section
variable {ρ ρ':Nat->Nat->Prop} {f g:FR} {S S' S'':ST} {a b:Nat}
end
section
variable {S:ST}
end
section
variable {o:Out} {f:RS->Out} {r r':RS} {F:Int} {t:T}
end
section
variable {r r1 r':RS} {F:Int}
end
attribute [local go_sem] Oper.semAt_some
structure FrI(B:Nat)(w1 w:World):Prop where
 size:B<=w.heap.size
 same:∀b,b<B->w.heap[b]?=w1.heap[b]?
theorem FrI.keep{B:Nat}{w1 w w':World}(h:FrI B w1 w)(hs:w.heap.size<=w'.heap.size)(hk:∀b,b<B->w'.heap[b]?=w.heap[b]?):FrI B w1 w':=⟨Nat.le_trans h.size hs,fun b hb=>(hk b hb).trans (h.same b hb)⟩
theorem FrI.below{w1 w:World}{C:Nat->Prop}(h:FrI w1.heap.size w1 w)(hc:Chg C w1 w):Below w1.heap.size w1 w:=⟨hc.os,hc.tape,hc.output,hc.size,h.same⟩
def errE(p:PG)(F:Int)(s:SS):Int:=(resO p s F (F.toNat*2000+2000) false).2.2.1
theorem zpW{vs:List VD}{b:BX}(h:(b.ok&&svB vs)=true):∀x∈allS b (lenE vs b),x.Lim/\x.cells.length<=100:=by
 intro x hx;have h1:=(zpX h x hx).sm;have h2:=zlI h;have hn:=(zpX h x hx).n;refine⟨⟨by have:=h1.n;unfold LI;omega,fun l hl=>by have:=(h1.c l hl).1;unfold LI;omega,by have:=h1.i.1;unfold LI;omega,by have:=h1.o.1;unfold LI;omega⟩,by have:=h2.2.1;omega⟩
theorem zsj:IsFn Tryz.prog 21 Tryz.f21:=⟨Tryz.func21,by kernel_rfl,by kernel_rfl⟩
theorem zyE:IsFn Tryz.prog 54 Tryz.f54:=⟨Tryz.func54,by kernel_rfl,by kernel_rfl⟩
abbrev pgA(p:PG)(A1:Option Addr)(c1:Nat)(A2:Option Addr)(c2:Nat)(A3:Option Addr)(c3:Nat):Array Value := #[.slice A1 p.vs.length c1,.slice A2 p.prs.length c2,.int .u8 p.m.k,.int .i64 p.m.n,.string p.m.s,.slice A3 p.m.ks.length c3]
theorem beqI(a b:Int):(a==b)=decide (a=b):=by by_cases h:a=b<;>simp[h]
abbrev pgS(w':World)(b:Nat)(p:PG)(A1:Option Addr)(c1:Nat)(A2:Option Addr)(c2:Nat)(A3:Option Addr)(c3:Nat):Prop:=w'.cell? ⟨b,0,none⟩=some (.slice A1 p.vs.length c1)/\w'.cell? ⟨b,1,none⟩=some (.slice A2 p.prs.length c2)/\w'.cell? ⟨b,2,none⟩=some (.int .u8 p.m.k)/\w'.cell? ⟨b,3,none⟩=some (.int .i64 p.m.n)/\w'.cell? ⟨b,4,none⟩=some (.string p.m.s)/\w'.cell? ⟨b,5,none⟩=some (.slice A3 p.m.ks.length c3)
theorem zuy{W:World}{p:PG}{s:SS}{F e:Int}{bp bf be c1 c2 c3:Nat}{A1 A2 A3:Option Addr}{sv:Value}(hk:W.heap[bp]?=some (.cells (pgA p A1 c1 A2 c2 A3 c3) 43 (0,0)))(hp:PV W Any p (pv A1 p.vs.length c1 A2 p.prs.length c2 p.m.k p.m.n p.m.s A3 p.m.ks.length c3))(hf:W.heap[bf]?=some (.cells #[.int .i64 F] 3 (0,0)))
  (he:W.heap[be]?=some (.cells #[.int .i64 e] 48 (0,0)))(hs:SV W Any s sv)(hcl:s.cells.length<=100)(hF:I64 F)(eD:F<=1000000) :
  Calls Tryz.prog 54 #[sv,.pointer (some ⟨bp,0,none⟩),.pointer (some ⟨bf,0,none⟩),.pointer (some ⟨be,0,none⟩)] W fun e' W'=>e'=.returned (.bool (decide (errE p F s=e)))/\Below W.heap.size W W':=by
 obtain⟨A,c,B,d,D,k,rfl⟩:∃A c B d D k,sv=.agg #[.slice A s.cells.length c,.slice B s.tin.length d,.slice D s.tout.length k]:=by
  obtain⟨A,c,B,d,D,k,rfl,-⟩:=hs;exact⟨_,_,_,_,_,_,rfl⟩
 have hkb:=heap_alloc_new W (.cells #[.slice A s.cells.length c,.slice B s.tin.length d,.slice D s.tout.length k] 32);have hb:=zkb (zs W) (.cells #[.slice A s.cells.length c,.slice B s.tin.length d,.slice D s.tout.length k] 32);obtain⟨w1,hw1⟩:=zX (W.alloc (.cells #[.slice A s.cells.length c,.slice B s.tin.length d,.slice D s.tout.length k] 32));obtain⟨N,hN⟩:=zX (W.heap.size);rw[hw1]at hkb hb;rw[hN]at hkb;have HB:=zh hb;have uA:=zh (zkc hk hb);have jG:=zh (zkc hf hb);have og:=zh (zkc he hb);have nA:=zh hkb;have HP:=zh (hp.later hb);have HS:=zh (hs.later hb);have HL:=zh (And.intro hcl (And.intro hF eD));clear hk hp hf he hs hcl hF eD hb hkb;go_enter Tryz.func54,Tryz.ntmps54;go_upto_region 1 with fail
 try rw[hw1]
 try rw[hN]
 clear hw1 hN;have av:=zh (show ∀w',Below w1.heap.size w1 w'->(fun w':World=>pgS w' bp p A1 c1 A2 c2 A3 c3/\stC w' N A s.cells.length c B s.tin.length d D s.tout.length k/\zv w' bf 0 (.int .i64 F)/\zv w' be 0 (.int .i64 e)) w' from fun w' hb=>⟨box6 (zkc uA.out hb),zkr (zkc nA.out hb),zc (zkc jG.out hb) rfl,zc (zkc og.out hb) rfl⟩);have hSS:zW (fun w':World=>pgS w' bp p A1 c1 A2 c2 A3 c3/\stC w' N A s.cells.length c B s.tin.length d D s.tout.length k/\zv w' bf 0 (.int .i64 F)/\zv w' be 0 (.int .i64 e)) zU w1.drew:=⟨av.out _ zr.drew,trivial⟩
 refine wp_region_noPanic ?_;refine zG hSS 8 ?_;refine zT 0 hSS ?_;refine zT 1 hSS ?_;refine zT 2 hSS ?_;refine zT 5 hSS ?_;refine zo 3 fun K hK=>?_;have hcon:=zmh p s F (F.toNat*2000+2000) _ _ w1.drew (HP.out.later zr.drew) (HS.out.later zr.drew) (by have:=HL.out.1;omega) HL.out.2.1 HL.out.2.2 zl;have xE:=zh (show errE p F s=(resO p s F (F.toNat*2000+2000) false).2.2.1 from rfl);generalize resO p s F (F.toNat*2000+2000) false=R at hcon xE;have had:Calls Tryz.prog 21 [pv A1 p.vs.length c1 A2 p.prs.length c2 p.m.k p.m.n p.m.s A3 p.m.ks.length c3,.agg #[.slice A s.cells.length c,.slice B s.tin.length d,.slice D s.tout.length k],.int .i64 F].toArray w1.drew fun e' W'=>∃z,e'=.returned z/\(∃v1 v2 v3,z=.agg #[v1,v2,v3,.int .i64 (R.2.1:Int),.int .i64 R.2.2.1])/\Below w1.heap.size w1 W' :=
  hcon.mono fun e' W' ⟨v1,v2,v3,h1,h2,h3,h4⟩=>⟨_,h1,⟨v1,v2,v3,rfl⟩,zka (zs w1).drew h3⟩
 refine zkd (by rfl) (.func 21) [.tmp 6,.tmp 7,.tmp 8] _ (by rfl) 21 _ zsj (by rfl) [pv A1 p.vs.length c1 A2 p.prs.length c2 p.m.k p.m.n p.m.s A3 p.m.ks.length c3,.agg #[.slice A s.cells.length c,.slice B s.tin.length d,.slice D s.tout.length k],.int .i64 F] (by rfl) _ had ?_;rintro z w2 ⟨⟨v1,v2,v3,rfl⟩,hb2⟩;have hS2:=zV hSS (av.out _ hb2) trivial;refine hK.out _ _ hS2 ?_;clear hK K had hcon hSS;(try simp only[zQ]);have hfl:∀w,(Instr.field 59 (.agg #[v1,v2,v3,.int .i64 (R.2.1:Int),.int .i64 R.2.2.1]) 2).run Tryz.prog w=.ok (.int .i64 R.2.2.1) w:=fun w=>by kernel_rfl
 refine zT 4 hS2 ?_;refine zT 6 hS2 ?_;refine zT 7 hS2 ?_;refine zd ?_;refine NoPanic.normal ?_;have rz:=zh (zka HB.out hb2);clear hS2 hb2;go_wp2_with fail;go_ret;exact⟨by rw[xE.out];rw[beqI];rfl,rz.out⟩
theorem PV.pg{w:World}{S:Nat->Prop}{p:PG}{A1 A2 A3:Option Addr}{l1 c1 l2 c2 l3 c3:Nat}{k n:Int}{s:ByteArray}(h:PV w S p (pv A1 l1 c1 A2 l2 c2 k n s A3 l3 c3)):PgR w S p A1 c1 A2 c2 A3 c3:=by
 obtain⟨B1,d1,B2,d2,B3,d3,e,h⟩:=h;unfold pv at e;injection e with e;simp only[Array.mk.injEq,List.cons.injEq,and_true,Value.slice.injEq]at e;obtain⟨⟨rfl,-,rfl⟩,⟨rfl,-,rfl⟩,-,-,-,rfl,-,rfl⟩:=e;exact h
def FalP(r:SS×Nat×Bool)(W:World)(e:Ending)(W':World):Prop:=Below W.heap.size W W'/\∃v,e=.returned (.tuple #[v,.bool r.2.2])/\SV W' (fun q=>W.heap.size<=q) r.1 v
theorem zmV{W:World}{p:PG}{b:BX}{e F:Int}{v:Value}(hp:PV W Any p v)(hok:(b.ok&&svB p.vs)=true)(hm:(allS b (lenE p.vs b)).length<=1000000)(hF:I64 F)(eD:F<=1000000) :
  Calls Tryz.prog 18 #[v,.int .i64 e,.agg #[.int .i64 b.v,.int .i64 b.l,.int .i64 b.i],.int .i64 F] W (FalP (fndE (fun s=>decide (errE p F s=e)) (allS b (lenE p.vs b))) W):=by
 obtain⟨A1,c1,A2,c2,A3,c3,rfl,-⟩:=id hp;obtain⟨bv,bl,bi⟩:=b;obtain⟨N,hN⟩:=zX (W.heap.size);have HN:=zh hN;obtain⟨hb1,hz1,k0,k1,k2,k3,k4⟩:=al5F W (.cells (pgA p A1 c1 A2 c2 A3 c3) 43) (.cells #[.int .i64 e] 48) (.cells #[.int .i64 bv,.int .i64 bl,.int .i64 bi] 24) (.cells #[.int .i64 F] 3) (.cells #[.slice none 0 0,.slice none 0 0,.slice none 0 0] 32);obtain⟨w1,hw1⟩:=zX (((((W.alloc (.cells (pgA p A1 c1 A2 c2 A3 c3) 43)).alloc (.cells #[.int .i64 e] 48)).alloc (.cells #[.int .i64 bv,.int .i64 bl,.int .i64 bi] 24)).alloc (.cells #[.int .i64 F] 3)).alloc (.cells #[.slice none 0 0,.slice none 0 0,.slice none 0 0] 32));rw[hw1]at hb1 hz1 k0 k1 k2 k3 k4;rw[hN]at hz1 k0 k1 k2 k3 k4;have HB1:=zh hb1;have HZ1:=zh hz1;have dI:=zh k4;have gJ:=zh ((hp.keep (S':=fun q=>q<N+5) (fun q _ h=>by omega) fun _ _ _=>rfl).keep (w':=w1) (S':=fun q=>q<N+5) (fun _ h _=>h) fun q _ hlt=>hb1.block q hlt)
 have HT:=zh (show zs3 54 #[.pointer (some ⟨N,0,none⟩),.pointer (some ⟨N+3,0,none⟩),.pointer (some ⟨N+1,0,none⟩)] (fun _ s=>decide (errE p F s=e)) (allS ⟨bv,bl,bi⟩ (lenE p.vs ⟨bv,bl,bi⟩)) w1.heap.size (fun _=>FrI w1.heap.size w1)from by
  refine⟨fun n W W' h h1 h2=>h.keep h1 h2,fun n W h=>h.size,fun n s v W g hI hg hgs ho hx=>?_⟩;have hx2:=zpW hok s (List.mem_of_getElem? hx);have hlt:∀q,q<N+5->W.heap[q]?=w1.heap[q]?:=fun q hq=>hI.same q (by omega);refine(zuy (e:=e) (F:=F) (p:=p) (s:=s) ((hlt N (by omega)).trans k0) (gJ.out.keep (fun _ _ _=>trivial) fun q h _=>hlt q h) ((hlt (N+3) (by omega)).trans k3) ((hlt (N+1) (by omega)).trans k1) (ho.sv hx2.1) hx2.2 hF eD).mono ?_;rintro e' W' ⟨rfl,hb⟩;exact⟨rfl,hI.keep hb.size fun q hq=>hb.block q (Nat.lt_of_lt_of_le hq hI.size),Chg.of_below hb⟩)
 have bA:=zh (show Calls _ _ _ _ (FstP (fndE (fun s=>decide (errE p F s=e)) (allS ⟨bv,bl,bi⟩ (lenE p.vs ⟨bv,bl,bi⟩))) (fun _=>FrI w1.heap.size w1) w1)from zoD (W:=w1) (A1:=A1) (c1:=c1) (vs:=p.vs) (b:=⟨bv,bl,bi⟩) (gJ.out.keep (S':=Any) (fun _ _ _=>trivial) fun _ _ _=>rfl).pg.vars hp.pg.lv hok hm zyE HT.out ⟨zl,fun _ _=>rfl⟩);clear hp hb1 hz1 k1 k3 k4 hok hm HT;obtain⟨⟨s1,n1,ok1⟩,hr⟩:=zX (fndE (fun s=>decide (errE p F s=e)) (allS ⟨bv,bl,bi⟩ (lenE p.vs ⟨bv,bl,bi⟩)));rw[hr]at bA ⊢;clear hr;obtain⟨p0,p1,p2,p3,p4,p5⟩:=box6 k0;obtain⟨y0,y1,y2⟩:=zkr k2;have oM:∀(fn:Fn) (first cap:Array Value) (w:World),(Instr.makeFunc fn first cap).run Tryz.prog w=.ok (.func fn first cap) w:=fun _ _ _ _=>rfl
 show Calls Tryz.prog 18 #[pv A1 p.vs.length c1 A2 p.prs.length c2 p.m.k p.m.n p.m.s A3 p.m.ks.length c3,.int .i64 e,.agg #[.int .i64 bv,.int .i64 bl,.int .i64 bi],.int .i64 F] W _
 go_enter Tryz.func18,Tryz.ntmps18;go_wp2_with fail;simp only[Nat.add_assoc,Nat.reduceAdd];refine bA.out.mono ?_;rintro e' w2 ⟨v2,rfl,hs2,hi2,hc2⟩;have qx:=hs2;obtain⟨B1,d1,B2,d2,B3,d3,rfl,-⟩:=qx;have hb2:=hi2.below hc2;have hb3:=zkb hb2 (.cells #[.slice B1 s1.cells.length d1,.slice B2 s1.tin.length d2,.slice B3 s1.tout.length d3] 32);have k10:=heap_alloc_new w2 (.cells #[.slice B1 s1.cells.length d1,.slice B2 s1.tin.length d2,.slice B3 s1.tout.length d3] 32);have k8:=zkc (dI.out) hb3;have hs3:=hs2.later (zkb (zs w2) (.cells #[.slice B1 s1.cells.length d1,.slice B2 s1.tin.length d2,.slice B3 s1.tout.length d3] 32));obtain⟨w3,hw3⟩:=zX (w2.alloc (.cells #[.slice B1 s1.cells.length d1,.slice B2 s1.tin.length d2,.slice B3 s1.tout.length d3] 32));rw[hw3]at hb3 k10 k8 hs3;obtain⟨x0,x1,x2⟩:=zkr k10;obtain⟨q0,q1,q2⟩:=zkr k8;have cf:∀o,w3.frozen? ⟨N+4,o,none⟩=false:=fun o=>zf k8
 obtain⟨w9,dx,bF,fH⟩:=st3 (.slice B1 s1.cells.length d1) (.slice B2 s1.tin.length d2) (.slice B3 s1.tout.length d3) k8;have Bh:=zh (hs3.keep (S':=fun q=>W.heap.size<=q) (fun q h _=>by have:=HZ1.out;have:=HN.out;omega) fun q h _=>bF.block q ‹_› (fun e=>by have e:q=N+4:=e;have:=HZ1.out;omega));have xx:=zh fH;have aG:=zh (((HB1.out).trans (hb3.mono HB1.out.size)).trans (bF.below (by have:=HB1.out.size;have:=hb3.size;omega) fun q e=>by have e:q=N+4:=e;have:=HN.out;omega));clear hs2 hi2 hc2 hb2 hb3 k10 k8 hs3 bF fH y0 y1 y2 p0 p1 p2 p3 p4 p5;go_wp2_with fail;obtain⟨t0,t1,t2⟩:=zkr xx.out;exact bodyPost_ret (v:=.tuple #[.agg #[.slice B1 s1.cells.length d1,.slice B2 s1.tin.length d2,.slice B3 s1.tout.length d3],.bool ok1]) (by simp[results,Tryz.results18,go_sem,t0,t1,t2]) rfl ⟨aG.out,_,rfl,Bh.out⟩
end
section
open Go Go.RowKit
theorem zKi(s1 s2:ByteArray)(k1 k2 n1 n2:Int)(w:World):(Op.equalIn 10000 57 (.agg #[.string s1,.int .u8 k1,.int .i64 n1]) (.agg #[.string s2,.int .u8 k2,.int .i64 n2])).run Tryz.prog w=.ok (s1.toList==s2.toList&&k1==k2&&n1==n2) w:=by
 have hS:Tryz.prog.underlying 57=some (.struct (Tryz.prog.fieldsOf 57)):=by kernel_rfl
 have hp:Tryz.prog.stoodInHeld 57=false:=by kernel_rfl
 rw[show(10000:Nat)=9999+1 from rfl,run_equalIn_agg w 9999 57 _ _ hS hp];simp only[Program.fieldsOf,Tryz.underlying57];go_simp;by_cases h1:s1.toList=s2.toList<;>by_cases h2:k1=k2<;>by_cases h3:n1=n2<;>simp[h1,h2,h3]
def eqV(u v:VD):Bool:=decide (u.s=v.s)&&decide (u.k=v.k)&&decide (u.n=v.n)
def eqVs:List VD->List VD->Bool
 | [],[]=>true
 | u::us,v::vs=>eqV u v&&eqVs us vs
 | _,_=>false
theorem zrm{u v:VD}:eqV u v=true↔u=v:=by
 obtain⟨a,b,c⟩:=u;obtain⟨d,e,f⟩:=v;simp[eqV,and_assoc]
theorem zm7:∀ {us vs:List VD},eqVs us vs=true↔us=vs
 | [],[]=>by simp[eqVs]
 | u::us,v::vs=>by simp[eqVs,zrm,zm7 (us:=us) (vs:=vs)]
 | [],_::_=>by simp[eqVs]
 | _::_,[]=>by simp[eqVs]
theorem zsA(s1 s2:ByteArray):(s1.toList==s2.toList)=decide (s1=s2):=by
 rw[ByteArray.toList_eq,ByteArray.toList_eq];obtain⟨⟨x⟩⟩:=s1;obtain⟨⟨y⟩⟩:=s2;by_cases h:x=y
 ·subst h;simp
 ·simp[h]
theorem zKh(s1 s2:ByteArray)(k1 k2 n1 n2:Int)(w:World):(binOp BinOp.neq 57 (.agg #[.string s1,.int .u8 k1,.int .i64 n1]) (.agg #[.string s2,.int .u8 k2,.int .i64 n2])).run Tryz.prog w=.ok (.bool (!eqV ⟨s1,k1,n1⟩ ⟨s2,k2,n2⟩)) w:=by
 rw[run_neq_struct,zKi];simp only[Result.andThen_ok,zsA,eqV];congr 3
theorem zxX(x y:Operand)(xs ys:Array Value)(w:World):(eqGuard BinOp.neq 57 x y (.agg xs) (.agg ys)).run Tryz.prog w=.ok () w:=run_eqGuard_agg w _ _ x y xs ys (by kernel_rfl)
theorem zKf{vs us:List VD}{j:Nat}(h1:j<vs.length)(h2:j<us.length)(h:eqV vs[j] us[j]=false):eqVs vs us=false:=by
 cases e:eqVs vs us with
 | false=>rfl
 | true =>
  have e:=zm7.1 e;subst e;rw[zrm.2 rfl]at h
  cases h
theorem zzm{vs us:List VD}(h:vs.length≠us.length):eqVs vs us=false:=by
 cases e:eqVs vs us with
 | false=>rfl
 | true=>exact absurd (by rw[zm7.1 e]) h
theorem zKg{vs us:List VD}(hl:vs.length=us.length)(h:∀k (h1:k<vs.length) (h2:k<us.length),vs[k]=us[k]):eqVs vs us=true:=zm7.2 (List.ext_getElem hl fun i h1 h2=>h i h1 h2)
theorem zzc{W:World}{vs us:List VD}{A B:Option Addr}{c d:Nat}(h1:RowV W Any A vs)(h2:RowV W Any B us)(hl:vs.length<=LV)(hk:us.length<=LV) :
  Calls Tryz.prog 58 #[.slice A vs.length c,.slice B us.length d] W fun e W'=>e=.returned (.bool (eqVs vs us))/\Below W.heap.size W W':=by
 have H1:=zh h1;have H2:=zh h2;have hl1:=zk9 hl;have hl2:=zk9 hk;clear h1 h2 hl hk;have hneq:=zKh;have hgd:=zxX;obtain⟨n,hn⟩:=zX (vs.length);obtain⟨m,hm⟩:=zX (us.length);have HN:=zh (And.intro hn hm);rw[hn]at hl1 ⊢;rw[hm]at hl2 ⊢;clear hn hm;obtain⟨R,hR⟩:=zX (eqVs vs us);have HR:=zh hR;rw[hR];clear hR;go_enter Tryz.func58,Tryz.ntmps58;by_cases hnm:n=m;rotate_left 1
 ·have e0:((n:Int) != (m:Int))=true:=by simp;omega
  go_wp2_with fail;go_ret;exact⟨by rw[<-HR.out,zzm (by have:=HN.out;omega)];rfl,zr⟩
 subst hnm;go_wp2_with fail
 go_loopw [13] (fun i wr=>∃j:Nat,j<=n/\i=.int .i64 j/\Hid (Below W.heap.size W wr)/\Hid (∀k (h1:k<vs.length) (h2:k<us.length),k<j->vs[k]=us[k])) (fun i _=>n-(intOf i).toNat)
 case atStart=>exact⟨0,by omega,rfl,zh zr,zh fun k _ _ h=>by omega⟩
 case round =>
  obtain⟨j,hj,rfl,HB,HE⟩:=hrel;by_cases hlt:j<n
  ·have hj1:(j:Int)<(n:Int):=by omega
   have hj0:(0:Int)<=(j:Int):=by omega
   have dh:j<vs.length:=by rw[HN.out.1];exact hlt
   have hju:j<us.length:=by rw[HN.out.2];exact hlt
   obtain⟨a,v,rfl,-,hv,⟨x0,x1,x2⟩,-⟩:=(H1.out.later HB.out).nd dh;obtain⟨b,u,rfl,-,hu,⟨y0,y1,y2⟩,-⟩:=(H2.out.later HB.out).nd hju;obtain⟨v0,v1,v2⟩:=v;obtain⟨u0,u1,u2⟩:=u;simp only at x0 x1 x2 y0 y1 y2;have hvv:=hv.out;have lg:=hu.out;obtain⟨t,ht⟩:=zX (eqV ⟨v0,v1,v2⟩ ⟨u0,u1,u2⟩);have hnn:=fun w=>(hneq v0 u0 v1 u1 v2 u2 w).trans (by rw[ht]);have HT:=zh (show eqV vs[j] us[j]=t by rw[hvv,lg];exact ht);have HJ:=zh (And.intro dh hju);clear ht hneq hv hu hvv lg
   cases t
   ·go_upto_region 6 with fail
    go_quiet (fail)
    have dD:=zh (zko HB.out nq);go_wp2_with fail;go_ret;exact⟨by rw[<-HR.out,zKf HJ.out.1 HJ.out.2 HT.out];rfl,dD.out⟩
   ·go_upto_region 6 with fail
    go_quiet (fail)
    have dD:=zh (zko HB.out nq);go_wp2_with fail
    go_roundw
    case rel =>
     refine⟨j+1,by omega,by go_num,dD,zh fun k h1 h2 hk=>?_⟩;by_cases e:k<j
     ·exact HE.out k h1 h2 e
     ·obtain rfl:k=j:=by omega
      exact zrm.1 HT.out
    case measure=>simp[intOf];omega
  ·obtain rfl:j=n:=by omega
   have hj1:¬ (j:Int)<(j:Int):=by omega
   go_wp2_with fail;go_ret;exact⟨by rw[<-HR.out,zKg (by have:=HN.out;omega) fun k h1 h2=>HE.out k h1 h2 (by have:=HN.out;omega)];rfl,HB.out⟩
section
variable {P:Program} {md:Region.Mode} {ops:Array Oper} {Q:Exit->Act->World->Prop} {S1 S2:World->Prop} {k:Nat}
theorem zrD{i j1 j2:Nat}{oi o1 o2:Oper}(si s1 s2:Option Nat)(n:Nat)(L:Bool->Bool->Bool->Array Bool)(a0:Act)(Inv:World->Prop)(J:Bool->Bool->Value->Value->World->Prop)(Fact:Value->World->Prop)
  (hoi:ops[i]?=some oi)(ho1:ops[j1]?=some o1)(ho2:ops[j2]?=some o2)(hdi:oi.dst=si)(hd1:o1.dst=s1)(hd2:o2.dst=s2)
  (h00:Region.ready md ops (L false false false)=[i,j1,j2])(h01:Region.ready md ops (L false false true)=[i,j1])(h10:Region.ready md ops (L false true false)=[i,j2])(h11:Region.ready md ops (L false true true)=[i])
  (hLi:∀la lb,(L false la lb).setIfInBounds i true=L true la lb)(hL1:∀lb,(L false false lb).setIfInBounds j1 true=L false true lb)(hL2:∀la,(L false la false).setIfInBounds j2 true=L false la true)
  (hS:∀w,Inv w->S1 w/\S2 w)(hInv:∀w w',Inv w->Below w.heap.size w w'->Inv w')(hJ:∀la lb u v w w',J la lb u v w->Below w.heap.size w w'->J la lb u v w')
  (hi:∀(u v:Value) (K:Act->World->Prop) (w:World),Inv w->Shut (∀x w',Below w.heap.size w w'->Fact x w'->K (((a0.put s1 u).put s2 v).put si x) w')->if Region.wanted oi (yielded ops ((a0.put s1 u).put s2 v).tmps)=true then Oper.wp P oi ((a0.put s1 u).put s2 v) w K Q else K (((a0.put s1 u).put s2 v).put si undef) w)
  (h1:∀(lb:Bool) (u v:Value) (K:Act->World->Prop) (w:World),Inv w->J false lb u v w->Shut (∀x w',Below w.heap.size w w'->J true lb x v w'->K (((a0.put s1 u).put s2 v).put s1 x) w')->if Region.wanted o1 (yielded ops ((a0.put s1 u).put s2 v).tmps)=true then Oper.wp P o1 ((a0.put s1 u).put s2 v) w K Q else K (((a0.put s1 u).put s2 v).put s1 undef) w)
  (h2:∀(la:Bool) (u v:Value) (K:Act->World->Prop) (w:World),Inv w->J la false u v w->Shut (∀x w',Below w.heap.size w w'->J la true u x w'->K (((a0.put s1 u).put s2 v).put s2 x) w')->if Region.wanted o2 (yielded ops ((a0.put s1 u).put s2 v).tmps)=true then Oper.wp P o2 ((a0.put s1 u).put s2 v) w K Q else K (((a0.put s1 u).put s2 v).put s2 undef) w)
  (hp1:∀u v x,((a0.put s1 u).put s2 v).put s1 x=(a0.put s1 x).put s2 v)(hp2:∀u v x,((a0.put s1 u).put s2 v).put s2 x=(a0.put s1 u).put s2 x)
  (hc:∀(la lb:Bool) (u v x:Value) (w:World),Inv w->Fact x w->J la lb u v w->wpG P md ops Q S1 S2 k (n+(!la).toNat+(!lb).toNat) (L true la lb) (((a0.put s1 u).put s2 v).put si x) w) :
  ∀(la lb:Bool) (u v:Value) (w:World),Inv w->J la lb u v w->(a0.put s1 u).put s2 v=a0->wpG P md ops Q S1 S2 k (n+1+(!la).toNat+(!lb).toNat) (L false la lb) a0 w:=by
 subst hdi hd1 hd2;have hmem:∀la lb q,q∈Region.ready md ops (L false la lb)->q=i\/(q=j1/\la=false)\/(q=j2/\lb=false):=by
  intro la lb q hq
  cases la<;>cases lb
  ·rw[h00]at hq;simp at hq;rcases hq with h|h|h<;>simp[h]
  ·rw[h01]at hq;simp at hq;rcases hq with h|h<;>simp[h]
  ·rw[h10]at hq;simp at hq;rcases hq with h|h<;>simp[h]
  ·rw[h11]at hq;simp at hq;simp[hq]
 have hne:∀la lb,Region.ready md ops (L false la lb)≠[]:=by
  intro la lb
  cases la<;>cases lb
  ·rw[h00];simp
  ·rw[h01];simp
  ·rw[h10];simp
  ·rw[h11];simp
 let Pp:Bool->Bool->Prop:=fun la lb=>∀(u v:Value) (w:World),Inv w->J la lb u v w->wpG P md ops Q S1 S2 k (n+1+(!la).toNat+(!lb).toNat) (L false la lb) ((a0.put o1.dst u).put o2.dst v) w
 have step:∀la lb,(la=false->Pp true lb)->(lb=false->Pp la true)->Pp la lb:=by
  intro la lb ia ib u v w hI hj;rw[show n+1+(!la).toNat+(!lb).toNat=(n+(!la).toNat+(!lb).toNat)+1 by omega];refine⟨(fun h0=>absurd h0 (hne la lb)),fun q hq=>?_⟩;rcases hmem la lb q hq with rfl|⟨rfl,rfl⟩|⟨rfl,rfl⟩
  ·refine wpOp_step hoi fun K' hK=>hi u v K' w hI ?_;intro x w' hbl hF;have hI':=hInv _ _ hI hbl;refine hK _ _ ⟨⟨(hS _ hI').1,fun _=>(hS _ hI').2⟩,?_⟩;rw[hLi];exact hc la lb u v x w' hI' hF (hJ _ _ _ _ _ _ hj hbl)
  ·refine wpOp_step ho1 fun K' hK=>h1 lb u v K' w hI hj ?_;intro x w' hbl hF;have hI':=hInv _ _ hI hbl;refine hK _ _ ⟨⟨(hS _ hI').1,fun _=>(hS _ hI').2⟩,?_⟩;rw[hL1,hp1];have:=ia rfl x v w' hI' hF;simpa using this
  ·refine wpOp_step ho2 fun K' hK=>h2 la u v K' w hI hj ?_;intro x w' hbl hF;have hI':=hInv _ _ hI hbl;refine hK _ _ ⟨⟨(hS _ hI').1,fun _=>(hS _ hI').2⟩,?_⟩;rw[hL2,hp2];have:=ib rfl u x w' hI' hF;have e:n+1+(!la).toNat+(!true).toNat=n+(!la).toNat+(!false).toNat:=by simp;omega
   rw[e]at this;exact this
 have vT:Pp true true:=step _ _ (fun h=>by cases h) (fun h=>by cases h);have yR:Pp true false:=step _ _ (fun h=>by cases h) (fun _=>vT);have yS:Pp false true:=step _ _ (fun _=>vT) (fun h=>by cases h);have pff:Pp false false:=step _ _ (fun _=>yR) (fun _=>yS);intro la lb u v w hI hj he;have:Pp la lb:=by cases la<;>cases lb<;>assumption
 rw[<-he];exact this u v w hI hj
theorem ztp{j1 j2:Nat}{o1 o2:Oper}(s1 s2:Option Nat)(n:Nat)(L:Bool->Bool->Array Bool)(a0:Act)(Inv:World->Prop)(J:Bool->Bool->Value->Value->World->Prop)
  (ho1:ops[j1]?=some o1)(ho2:ops[j2]?=some o2)(hd1:o1.dst=s1)(hd2:o2.dst=s2)
  (h00:Region.ready md ops (L false false)=[j1,j2])(h01:Region.ready md ops (L false true)=[j1])(h10:Region.ready md ops (L true false)=[j2])
  (hL1:∀lb,(L false lb).setIfInBounds j1 true=L true lb)(hL2:∀la,(L la false).setIfInBounds j2 true=L la true)
  (hS:∀w,Inv w->S1 w/\S2 w)(hInv:∀w w',Inv w->Below w.heap.size w w'->Inv w')
  (h1:∀(lb:Bool) (u v:Value) (K:Act->World->Prop) (w:World),Inv w->J false lb u v w->Shut (∀x w',Below w.heap.size w w'->J true lb x v w'->K (((a0.put s1 u).put s2 v).put s1 x) w')->if Region.wanted o1 (yielded ops ((a0.put s1 u).put s2 v).tmps)=true then Oper.wp P o1 ((a0.put s1 u).put s2 v) w K Q else K (((a0.put s1 u).put s2 v).put s1 undef) w)
  (h2:∀(la:Bool) (u v:Value) (K:Act->World->Prop) (w:World),Inv w->J la false u v w->Shut (∀x w',Below w.heap.size w w'->J la true u x w'->K (((a0.put s1 u).put s2 v).put s2 x) w')->if Region.wanted o2 (yielded ops ((a0.put s1 u).put s2 v).tmps)=true then Oper.wp P o2 ((a0.put s1 u).put s2 v) w K Q else K (((a0.put s1 u).put s2 v).put s2 undef) w)
  (hp1:∀u v x,((a0.put s1 u).put s2 v).put s1 x=(a0.put s1 x).put s2 v)(hp2:∀u v x,((a0.put s1 u).put s2 v).put s2 x=(a0.put s1 u).put s2 x)
  (hc:∀(u v:Value) (w:World),Inv w->J true true u v w->wpG P md ops Q S1 S2 k n (L true true) ((a0.put s1 u).put s2 v) w) :
  ∀(la lb:Bool) (u v:Value) (w:World),Inv w->J la lb u v w->(a0.put s1 u).put s2 v=a0->wpG P md ops Q S1 S2 k (n+(!la).toNat+(!lb).toNat) (L la lb) a0 w:=by
 subst hd1 hd2
 let Pp:Bool->Bool->Prop:=fun la lb=>∀(u v:Value) (w:World),Inv w->J la lb u v w->wpG P md ops Q S1 S2 k (n+(!la).toNat+(!lb).toNat) (L la lb) ((a0.put o1.dst u).put o2.dst v) w
 have vT:Pp true true:=fun u v w hI hj=>hc u v w hI hj;have s1:∀lb (u v:Value) (w:World),Inv w->J false lb u v w->Pp true lb->wpOp P ops Q j1 (fun a' w'=>(S1 w'/\(((L false lb).setIfInBounds j1 true).getD k true=false->S2 w'))/\wpG P md ops Q S1 S2 k (n+(!lb).toNat) ((L false lb).setIfInBounds j1 true) a' w') ((a0.put o1.dst u).put o2.dst v) w:=by
  intro lb u v w hI hj hP;refine wpOp_step ho1 fun K' hK=>h1 lb u v K' w hI hj ?_;intro x w' hbl hF;have hI':=hInv _ _ hI hbl;refine hK _ _ ⟨⟨(hS _ hI').1,fun _=>(hS _ hI').2⟩,?_⟩;rw[hL1,hp1];have:=hP x v w' hI' hF;simpa using this
 have s2:∀la (u v:Value) (w:World),Inv w->J la false u v w->Pp la true->wpOp P ops Q j2 (fun a' w'=>(S1 w'/\(((L la false).setIfInBounds j2 true).getD k true=false->S2 w'))/\wpG P md ops Q S1 S2 k (n+(!la).toNat) ((L la false).setIfInBounds j2 true) a' w') ((a0.put o1.dst u).put o2.dst v) w:=by
  intro la u v w hI hj hP;refine wpOp_step ho2 fun K' hK=>h2 la u v K' w hI hj ?_;intro x w' hbl hF;have hI':=hInv _ _ hI hbl;refine hK _ _ ⟨⟨(hS _ hI').1,fun _=>(hS _ hI').2⟩,?_⟩;rw[hL2,hp2];have:=hP u x w' hI' hF;simpa using this
 have yS:Pp false true:=fun u v w hI hj=>by
  show wpG P md ops Q S1 S2 k (n+1+0) _ _ w
  refine⟨(fun h0=>by rw[h01]at h0;cases h0),fun q hq=>?_⟩;rw[h01]at hq;simp only[List.mem_singleton]at hq;subst hq;exact s1 true u v w hI hj vT
 have yR:Pp true false:=fun u v w hI hj=>by
  show wpG P md ops Q S1 S2 k (n+0+1) _ _ w
  refine⟨(fun h0=>by rw[h10]at h0;cases h0),fun q hq=>?_⟩;rw[h10]at hq;simp only[List.mem_singleton]at hq;subst hq;exact s2 true u v w hI hj vT
 have pff:Pp false false:=fun u v w hI hj=>by
  show wpG P md ops Q S1 S2 k (n+1+1) _ _ w
  refine⟨(fun h0=>by rw[h00]at h0;cases h0),fun q hq=>?_⟩;rw[h00]at hq;simp only[List.mem_cons,List.not_mem_nil,or_false]at hq;rcases hq with rfl|rfl
  ·exact s1 false u v w hI hj yR
  ·exact s2 false u v w hI hj yS
 intro la lb u v w hI hj he;have:Pp la lb:=by cases la<;>cases lb<;>assumption
 rw[<-he];exact this u v w hI hj
end
def J2(o:Obj)(n:Nat)(la lb:Bool)(u v:Value)(w:World):Prop :=
 (la=true->∃b,u=.pointer (some ⟨b,0,none⟩)/\n<=b/\w.heap[b]?=some o)/\(lb=true->∃b,v=.pointer (some ⟨b,0,none⟩)/\n<=b/\w.heap[b]?=some o)/\(la=true->lb=true->u≠v)
theorem J2.later{o:Obj}{n:Nat}{la lb:Bool}{u v:Value}{w w':World}(h:J2 o n la lb u v w)(hb:Below w.heap.size w w'):J2 o n la lb u v w':=by
 obtain⟨h1,h2,h3⟩:=h;refine⟨fun e=>?_,fun e=>?_,h3⟩
 ·obtain⟨b,e1,e2,e3⟩:=h1 e;exact⟨b,e1,e2,zkc e3 hb⟩
 ·obtain⟨b,e1,e2,e3⟩:=h2 e;exact⟨b,e1,e2,zkc e3 hb⟩
theorem J2.one{o:Obj}{n:Nat}{lb:Bool}{u v:Value}{w:World}(h:J2 o n false lb u v w)(hn:n<=w.heap.size):J2 o n true lb (.pointer (some ⟨w.heap.size,0,none⟩)) v (w.alloc o):=by
 have hl:=h.later (zkb zr o);refine⟨fun _=>⟨_,rfl,hn,heap_alloc_new w o⟩,hl.2.1,fun _ e=>?_⟩;obtain⟨b,rfl,-,e3⟩:=h.2.1 e;intro hh;injection hh with hh;injection hh with hh;injection hh with hh;have:=zkn e3;omega
theorem J2.two{o:Obj}{n:Nat}{la:Bool}{u v:Value}{w:World}(h:J2 o n la false u v w)(hn:n<=w.heap.size):J2 o n la true u (.pointer (some ⟨w.heap.size,0,none⟩)) (w.alloc o):=by
 have hl:=h.later (zkb zr o);refine⟨hl.1,fun _=>⟨_,rfl,hn,heap_alloc_new w o⟩,fun e _=>?_⟩;obtain⟨b,rfl,-,e3⟩:=h.1 e;intro hh;injection hh with hh;injection hh with hh;injection hh with hh;have:=zkn e3;omega
theorem J2.boxes{o:Obj}{n:Nat}{u v:Value}{w:World}(h:J2 o n true true u v w):∃b c,u=.pointer (some ⟨b,0,none⟩)/\v=.pointer (some ⟨c,0,none⟩)/\n<=b/\n<=c/\b≠c/\w.heap[b]?=some o/\w.heap[c]?=some o:=by
 obtain⟨b,rfl,e2,e3⟩:=h.1 rfl;obtain⟨c,rfl,f2,f3⟩:=h.2.1 rfl;exact⟨b,c,rfl,rfl,e2,f2,fun e=>h.2.2 rfl rfl (by rw[e]),e3,f3⟩
end
end Go.Proofs.YtembgnhbpmfhpaaGreat
